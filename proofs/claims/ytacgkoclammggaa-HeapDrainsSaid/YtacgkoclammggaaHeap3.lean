/-
  The heap of numbers: Pop and New. Condition: the heap's blocks are as the word Hp says; no more than a million numbers.
-/
import Derived.Test.YtacgkoclammggaaHeap2
namespace Go.Proofs.Ytacgkoclammggaa
open Go.RowKit
set_option linter.unusedVariables false
set_option linter.unusedSimpArgs false

theorem Own.take {w : World} {base : Nat} {e : TypeId} {k : IntKind} {A : Option Addr} {n c m : Nat} {xs : List Int} (h : Own w base e k (.slice A n c) xs) (hm : m ≤ n) (hn : xs.length = n) (hn0 : 0 < n) : Own w base e k (.slice A m c) (xs.take m) := by
  subst hn
  obtain ⟨h0, h⟩ := h
  rcases h with ⟨h1, h2⟩ | ⟨g, cap, cur, h1, hb, hg, hc, hcm, hs, ht⟩
  · injection h1 with _ h1
    omega
  · injection h1 with e1 e2 e3
    subst e1 e3
    have hl : (xs.take m).length = m := by simp; omega
    unfold Own
    rw [hl]
    refine ⟨by simp [nums]; omega, .inr ⟨g, c, cur, rfl, hb, hg, by omega, hcm, hs, ?_⟩⟩
    have e : nums k (xs.take m) = (nums k xs).take (m * 1) := by simp [nums, List.map_take]
    rw [e, ← ht, List.take_take]
    congr 1
    omega
theorem Pop_none (b lo : Nat) (v : Value) (w : World) (h : Hp w b lo v []) :
    Calls Try.prog 22 #[.pointer (some ⟨b, 0, none⟩)] w fun e w' => e = .returned (.tuple #[.int .i64 0, .bool false]) ∧ ∃ n, w' = w.drewN n := by
  have HH := Lib.hid h
  clear h
  go_enter Try.func22, Try.ntmps22
  go_wp2_with fail
  refine (Peek_none b lo v _ HH.out).mono ?_
  rintro e _ ⟨he, n, rfl⟩
  subst he
  go_wp2_with fail
  go_ret2
  exact ⟨rfl, n, rfl⟩
set_option maxHeartbeats 3200000 in
set_option maxRecDepth 1000000 in
theorem Pop_some (b lo : Nat) (v : Value) (x : Int) (l : List Int) (w : World) (h : Hp w b lo v (x :: l)) (hok : HeapOk ltI (x :: l)) (hl : l.length ≤ 1000000) :
    Calls Try.prog 22 #[.pointer (some ⟨b, 0, none⟩)] w fun e w' => e = .returned (.tuple #[.int .i64 x, .bool true]) ∧ ∃ v' l', HpTo w w' b lo v v' l' ∧ l'.Perm l := by
  obtain ⟨A, c, rfl, hlc, hrd⟩ := h.2.1.shape
  obtain ⟨g, rfl, hlg, hgw, hc0, hf0, hs0, _⟩ := h.2.1.at_ 0 (by simp)
  obtain ⟨m, hm⟩ : ∃ m, l.length = m := ⟨_, rfl⟩
  have hxl : (x :: l).length = m + 1 := by simp [hm]
  rw [hxl] at h hlc hs0
  obtain ⟨g', hg', _, _, hcz, hfz, _, _⟩ := h.2.1.at_ m (by omega)
  injection hg' with hg'
  injection hg' with hg'
  subst hg'
  obtain ⟨z, hz⟩ : ∃ z, (x :: l).getD m 0 = z := ⟨_, rfl⟩
  rw [hz] at hcz
  have hzl : (x :: l)[(x :: l).length - 1]? = some z := by rw [hxl, Nat.add_sub_cancel, ← hz]; exact get_getD (by omega)
  have hgb : g ≠ b := h.2.2.2 g rfl
  have hc1 : w.cell? ⟨b, 1, none⟩ = some (.slice (some ⟨g, 0, none⟩) (m + 1) c) := by have h1 := h.1; simp [World.cell?, h1]
  have hf1 : w.frozen? ⟨b, 1, none⟩ = false := by have h1 := h.1; simp [World.frozen?, h1]
  have b0 : (0 : Int) < (m : Int) + 1 := by omega
  have bm : (m : Int) < (m : Int) + 1 := by omega
  -- what the stores leave
  have hH2 : Hp ((w.setCell ⟨g, 0, none⟩ (.int .i64 z)).setCell ⟨b, 1, none⟩ (.slice (some ⟨g, 0, none⟩) m c)) b lo (.slice (some ⟨g, 0, none⟩) m c) (popped (x :: l) z) := by
    refine ⟨set_blk (cs := [_, _]) (set_other h.1 0 _ (Ne.symm hgb)) 1 _, ?_, h.2.2.1, fun k hk => h.2.2.2 k hk⟩
    unfold popped
    rw [hxl, Nat.add_sub_cancel]
    exact ((hs0 z).take (Nat.le_succ m) (by simp [hm]) (by omega)).only (only_set _ _ _ _) fun k hk e => by
      rw [show k = g by simpa [Value.ownBlock] using hk.symm] at e
      exact hgb e
  have HH := Lib.hid h
  have HH2 := Lib.hid hH2
  have HOK := Lib.hid hok
  have HZL := Lib.hid hzl
  have HM := Lib.hid hm
  have hxl2 := hxl
  clear hH2 hok hzl hs0 hrd hz hm hxl hxl2
  have hm64 : (m : Int) ≤ 9223372036854775807 := by have := HM.out; omega
  have hwr2 : wrap64 (m : Int) = (m : Int) := wrap64_id _ ⟨by omega, hm64⟩
  clear hm64
  go_enter Try.func22, Try.ntmps22
  go_wp2_with fail
  refine (Peek_some b lo _ x l _ HH.out).mono ?_
  rintro e _ ⟨he, q, rfl⟩
  subst he
  clear h
  go_wp2_with fail
  generalize hwq : w.drewN _ = wq
  have hc1q : wq.cell? ⟨b, 1, none⟩ = some (.slice (some ⟨g, 0, none⟩) (m + 1) c) := by rw [← hwq]; exact hc1
  have hf1q : wq.frozen? ⟨b, 1, none⟩ = false := by rw [← hwq]; exact hf1
  have hcz : wq.cell? ⟨g, m, none⟩ = some (.int .i64 z) := by rw [← hwq]; exact hcz
  have hcx : ∃ u, wq.cell? ⟨g, 0, none⟩ = some (.int .i64 u) := ⟨_, by rw [← hwq]; exact hc0⟩
  have hf0q : wq.frozen? ⟨g, 0, none⟩ = false := by rw [← hwq]; exact hf0
  obtain ⟨u, hcx⟩ := hcx
  have HWQ := Lib.hid hwq
  clear hwq hc1 hf1 hc0 hf0 hfz
  have hbg : ¬ b = g := fun e => hgb e.symm
  have hgb' : ¬ g = b := hgb
  go_region
  go_wp2_with fail
  clear hwr2
  have hH3 : Hp (((wq.setCell ⟨g, 0, none⟩ (.int .i64 z)).setCell ⟨b, 1, none⟩ (.slice (some ⟨g, 0, none⟩) m c)).drew) b lo (.slice (some ⟨g, 0, none⟩) m c) (popped (x :: l) z) := by
    rw [← HWQ.out]
    exact (HH2.out.drewN _).drewN _
  have hon : Only (HpB (.slice (some ⟨g, 0, none⟩) (m + 1) c) b) w (((wq.setCell ⟨g, 0, none⟩ (.int .i64 z)).setCell ⟨b, 1, none⟩ (.slice (some ⟨g, 0, none⟩) m c)).drew) := by
    rw [← HWQ.out]
    exact (((Only.of_below (below_drewN_self w _)).trans ((only_set _ g 0 _).mono fun k _ h => .inr (by rw [h]; rfl))).trans ((only_set _ b 1 _).mono fun k _ h => .inl h)).trans (Only.of_below (Below.refl _ _).drew)
  have hml : (popped (x :: l) z).length = m := by rw [popped_length]; simp [HM.out]
  have hm6 : m ≤ 1000000 := by have := HM.out; omega
  have hdn := DownOk.pop HOK.out z
  refine (sink_calls b lo (some ⟨g, 0, none⟩) m c _ _ hH3 hml hdn hm6).mono ?_
  rintro e w3 ⟨he, L, hH4, hok4, hpm, hon4⟩
  subst he
  have H4 := Lib.hid hH4
  have O4 := Lib.hid hok4
  have P4 := Lib.hid hpm
  have N4 := Lib.hid (hon.trans2 hon4 fun k _ h => h)
  clear hH3 hon hml hdn hH4 hok4 hpm hon4 HH HH2 hc1q hf1q hcz hcx hf0q
  go_wp2_with fail
  go_ret2
  refine ⟨rfl, _, L, ⟨H4.out, O4.out, N4.out, fun k hk => .inl hk⟩, ?_⟩
  refine P4.out.trans (List.Perm.cons_inv (a := x) ?_)
  exact popped_perm (by simp) HZL.out
/-! ### New -/
set_option maxHeartbeats 3200000 in
theorem New_calls (A : Option Addr) (c : Nat) (l : List Int) (w : World) (ha : Rd w .i64 A l) (hl : l.length ≤ 1000000) :
    Calls Try.prog 18 #[.func (.func 19) #[] #[], .slice A l.length c] w fun e w' => ∃ b v L, e = .returned (.pointer (some ⟨b, 0, none⟩)) ∧ w.heap.size ≤ b ∧ Hp w' b b v L ∧ HeapOk ltI L ∧ L.Perm l ∧ Below w.heap.size w w' := by
  have KA := Lib.hid ha
  clear ha
  go_enter Try.func18, Try.ntmps18
  go_wp2_with fail
  obtain ⟨w1, hw⟩ : ∃ W, w.alloc (.cells #[.func (.func 19) #[] #[], .slice none 0 0] 105) = W := ⟨_, rfl⟩
  rw [hw]
  have hH : Hp w1 w.heap.size w.heap.size (.slice none 0 0) [] := by
    refine ⟨by rw [← hw]; exact heap_alloc_new w _, World.ownsRow_nil _ _ _ _, Nat.le_refl _, fun k hk => by simp [Value.ownBlock] at hk⟩
  have hb1 : Below w.heap.size w w1 := by rw [← hw]; exact below_alloc1 (Below.refl _ _) _
  have HH := Lib.hid hH
  clear hw hH
  go_loopg [13] l.length (fun kq v13 w' => ∃ v L, kq ≤ l.length ∧ v13 = .int .i64 ((l.length - kq : Nat) : Int) ∧ Hp w' w.heap.size w.heap.size v L ∧ HeapOk ltI L ∧ L.Perm (l.take (l.length - kq)) ∧ Below w.heap.size w w')
  case atStart => exact ⟨_, [], Nat.le_refl _, by simp, HH.out, fun i a b h0 ha => by simp at ha, by simp, hb1⟩
  case round =>
    clear HH hb1
    obtain ⟨v, L, hk, rfl, hH, hok, hpm, hb⟩ := hrel
    have HH := Lib.hid hH
    have HOK := Lib.hid hok
    have HPM := Lib.hid hpm
    have HB := Lib.hid hb
    clear hH hok hpm hb
    cases gk with
    | zero =>
      simp only [Nat.sub_zero] at HPM ⊢
      go_wp2_with fail
      go_ret
      exact ⟨_, v, L, rfl, Nat.le_refl _, HH.out, HOK.out, by simpa using HPM.out, HB.out⟩
    | succ k1 =>
      obtain ⟨i, hi⟩ : ∃ i, l.length - (k1 + 1) = i := ⟨_, rfl⟩
      have hi2 : l.length - k1 = i + 1 := by omega
      have HI := Lib.hid hi2
      have hlt : i < l.length := by omega
      rw [hi] at HPM ⊢
      obtain ⟨ad, rfl, hca⟩ := KA.out.2 i hlt
      have hca' : wr.cell? (ad.add i) = _ := cell_below HB.out hca (World.block_lt_of_cell? _ _ hca)
      obtain ⟨x, hx⟩ : ∃ x, l.getD i 0 = x := ⟨_, rfl⟩
      rw [hx] at hca hca'
      have hLl : L.length ≤ 1000000 := by rw [HPM.out.length_eq]; simp; omega
      have htk : l.take (i + 1) = l.take i ++ [x] := by rw [← hx, List.take_add_one, get_getD hlt]; rfl
      have HTK := Lib.hid htk
      have hzb : w.heap.size ≤ wr.heap.size := HB.out.size
      clear hi hi2 hx htk
      go_wp2_with fail
      refine (Push_calls w.heap.size w.heap.size v L x _ HH.out HOK.out hLl).mono ?_
      rintro e w2 ⟨he, v', L', ⟨hH2, hok2, hon2, hfr2⟩, hpm2⟩
      subst he
      have H2 := Lib.hid hH2
      have O2 := Lib.hid hok2
      have P2 := Lib.hid hpm2
      have B2 := Lib.hid (HB.out.trans (hon2.below hzb fun k hk h => h.elim (fun h => by omega) fun h => by have := (HH.out.2.1.lt k h).1; omega))
      clear hH2 hok2 hon2 hfr2 hpm2
      go_wp2_with fail
      go_roundg k1
      case measure => omega
      case rel =>
        refine ⟨v', L', by omega, by rw [HI.out]; rfl, H2.out, O2.out, ?_, B2.out⟩
        rw [HI.out, HTK.out]
        exact P2.out.trans ((HPM.out.cons x).trans (List.perm_append_comm (l₁ := [x]) (l₂ := l.take i)))
end Go.Proofs.Ytacgkoclammggaa
