/-
  The heap of numbers (package heap): the contract of each method, by a list that is a heap. Condition: the heap's blocks are as the word Hp says; no more than a million numbers.
-/
import Derived.Test.YtacgkoclammggaaHeapMath
import Derived.BigRegion
import Derived.Deep.RegionHeld3
namespace Go.Proofs.Ytacgkoclammggaa
open Go.RowKit
set_option linter.unusedVariables false
set_option linter.unusedSimpArgs false

def ltI (a b : Int) : Bool := decide (a < b)
theorem ltI_wo : WO ltI := ⟨fun a b h => by simp [ltI] at *; omega, fun a b c h1 h2 => by simp [ltI] at *; omega⟩
theorem _root_.Go.Proofs.Ytacgkoclammggaa.Only.trans2 {S T : Nat → Prop} {a b c : World} (h1 : Only S a b) (h2 : Only T b c) (h : ∀ k, k < a.heap.size → T k → S k) : Only S a c :=
  ⟨h2.os.trans h1.os, h2.tape.trans h1.tape, h2.output.trans h1.output, Nat.le_trans h1.size h2.size, fun k hk hs => (h2.block k (by have := h1.size; omega) fun ht => hs (h k hk ht)).trans (h1.block k hk hs)⟩
theorem get_getD {L : List Int} {i : Nat} (h : i < L.length) : L[i]? = some (L.getD i 0) := by simp [List.getD, h]
def lessF : Value := .func (.func 19) #[] #[]
theorem Less_calls (a b : Int) (w : World) : Calls Try.prog 19 #[.int .i64 a, .int .i64 b] w fun e w' => e = .returned (.bool (decide (a < b))) ∧ ∃ n, w' = w.drewN n := by
  go_enter Try.func19, Try.ntmps19
  go_wp2_with fail
  go_ret
  exact ⟨rfl, 0, rfl⟩

theorem info_i64 : (Try.prog.info? 3).map (fun i => (i.zero, i.size, i.bytes)) = some (some (.int .i64 0), 1, 8) := by kernel_rfl
/-- A heap at block b: the function, the row v of numbers l. -/
def Hp (w : World) (b lo : Nat) (v : Value) (l : List Int) : Prop :=
  w.heap[b]? = some (.cells #[.func (.func 19) #[] #[], v] 105 (0, 0)) ∧ Own w lo 3 .i64 v l ∧ lo ≤ b ∧ (∀ k, v.ownBlock = some k → k ≠ b)
def HpB (v : Value) (b : Nat) (k : Nat) : Prop := k = b ∨ OwnB v k
/-- What a call that turns the heap leaves. -/
def HpTo (w w' : World) (b lo : Nat) (v v' : Value) (l' : List Int) : Prop :=
  Hp w' b lo v' l' ∧ HeapOk ltI l' ∧ Only (HpB v b) w w' ∧ ∀ k, v'.ownBlock = some k → v.ownBlock = some k ∨ w.heap.size ≤ k
theorem Hp.only {w w' : World} {S : Nat → Prop} {b lo : Nat} {v : Value} {l : List Int} (h : Hp w b lo v l) (ho : Only S w w') (hb : ¬ S b) (hv : ∀ k, v.ownBlock = some k → ¬ S k) : Hp w' b lo v l :=
  ⟨ho.obj h.1 hb, h.2.1.only ho hv, h.2.2⟩
theorem Hp.lt {w : World} {b lo : Nat} {v : Value} {l : List Int} (h : Hp w b lo v l) : b < w.heap.size := obj_lt h.1
theorem Hp.drewN {w : World} {b lo : Nat} {v : Value} {l : List Int} (h : Hp w b lo v l) (n : Nat) : Hp (w.drewN n) b lo v l := h.only (S := fun _ => False) (Only.of_below (below_drewN_self w n)) (fun h => h) fun _ _ h => h
theorem Hp.swap {w : World} {b lo g n c i j : Nat} {l : List Int} {x y : Int} (h : Hp w b lo (.slice (some ⟨g, 0, none⟩) n c) l) (hi : i < n) (hj : j < n) :
    Hp (((w.setCell ⟨g, i, none⟩ (.int .i64 y)).setCell ⟨g, j, none⟩ (.int .i64 x)).drew) b lo (.slice (some ⟨g, 0, none⟩) n c) (swp l i j y x) ∧ Only (HpB (.slice (some ⟨g, 0, none⟩) n c) b) w (((w.setCell ⟨g, i, none⟩ (.int .i64 y)).setCell ⟨g, j, none⟩ (.int .i64 x)).drew) := by
  obtain ⟨h1, h2, h3, h4⟩ := h
  have hgb : b ≠ g := fun e => h4 g rfl e.symm
  obtain ⟨g1, hg, _, _, _, _, hs, _⟩ := h2.at_ i hi
  injection hg with hg
  injection hg with hg
  subst hg
  have h5 := hs y
  obtain ⟨g1, hg, _, _, _, _, hs2, _⟩ := h5.at_ j hj
  injection hg with hg
  injection hg with hg
  subst hg
  have h6 := hs2 x
  refine ⟨⟨set_other (set_other h1 i _ hgb) j _ hgb, own_drew1 h6, h3, h4⟩, ?_⟩
  exact (((only_set w g i _).mono fun k _ h => .inr (by rw [h]; rfl)).trans ((only_set _ g j _).mono fun k _ h => .inr (by rw [h]; rfl))).trans (Only.of_below (Below.refl _ _).drew)
set_option maxHeartbeats 3200000 in
set_option maxRecDepth 1000000 in
theorem Push_calls (b lo : Nat) (v : Value) (l : List Int) (x : Int) (w : World) (h : Hp w b lo v l) (hok : HeapOk ltI l) (hl : l.length ≤ 1000000) :
    Calls Try.prog 20 #[.pointer (some ⟨b, 0, none⟩), .int .i64 x] w fun e w' => e = .returned (.tuple #[]) ∧ ∃ v' l', HpTo w w' b lo v v' l' ∧ l'.Perm (x :: l) := by
  obtain ⟨h1, h2, h3, h4⟩ := h
  have hb := obj_lt h1
  obtain ⟨A, c, rfl, hlc, hrd⟩ := h2.shape
  have hc1 : w.cell? ⟨b, 1, none⟩ = some (.slice A l.length c) := by simp [World.cell?, h1]
  have hf1 : w.frozen? ⟨b, 1, none⟩ = false := by simp [World.frozen?, h1]
  have H1 := Lib.hid h1
  have H2 := Lib.hid h2
  have HOK := Lib.hid hok
  clear h1 h2 hok hrd
  have hwr : IntKind.i64.wrap ((l.length : Int) + 1 - 1) = (l.length : Int) := by rw [i64_w, show ((l.length : Int) + 1 - 1) = (l.length : Int) by omega]; exact wrap64_id _ (by omega)
  go_enter Try.func20, Try.ntmps20
  go_wp2_with (at_builtin; refine wpList_appI _ rfl (.tmp 10) (.tmp 12) 22 3 rfl .i64 8 Try.underlying22 info_i64 (by omega) lo (.slice A l.length c) l rfl (some ⟨w.heap.size, 0, none⟩) 1 [x] rfl (H2.out.alloc1 _) (w.alloc (.cells #[.int .i64 x] 3)) (Below.refl _ _) (by simp; omega) (Rd.new w .i64 [x] 3 (by simp)) (by simp; omega) ?_; intro v1 w2 ho hgrow hbel hat hnil; obtain ⟨A1, c1, hv1, hlc1, _⟩ := ho.shape; rw [show (l ++ [x]).length = l.length + 1 by simp] at hv1 hlc1; subst hv1; have HO := Lib.hid ho; have HG := Lib.hid hgrow; have HAT := Lib.hid hat; have hfz : w2.frozen? ⟨b, 1, none⟩ = false := free_blk (hgrow.obj (obj_below ((Below.refl _ _).alloc (Nat.le_refl _) _) H1.out (obj_lt H1.out)) (fun h => h4 _ h rfl)) 1; have hcs : w2.cell? ⟨b, 1, none⟩ = some (.slice A l.length c) := hgrow.cell (cell_below ((Below.refl w.heap.size w).alloc (Nat.le_refl _) _) hc1 hb) (fun h => h4 _ h rfl); clear ho hgrow hbel hat hnil)
  obtain ⟨w3, hw⟩ : ∃ W, w2.setCell ⟨b, 1, none⟩ (.slice A1 (l.length + 1) c1) = W := ⟨_, rfl⟩
  rw [hw]
  have hoB : Only (HpB (.slice A l.length c) b) w w3 := by
    rw [← hw]
    exact ((Only.of_below (S := HpB (.slice A l.length c) b) (below_alloc1 (Below.refl _ _) _)).trans (HG.out.mono fun k _ h => .inr h)).trans ((only_set w2 b 1 _).mono fun k _ h => .inl h)
  have hfr : ∀ k, (Value.slice A1 (l.length + 1) c1).ownBlock = some k → (Value.slice A l.length c).ownBlock = some k ∨ w.heap.size ≤ k := fun k hk => by
    rcases HAT.out with h | h
    · exact .inl (h ▸ hk)
    · rw [hk] at h
      injection h with h
      exact .inr (by simp at h; omega)
  have hne : ∀ k, (Value.slice A1 (l.length + 1) c1).ownBlock = some k → k ≠ b := fun k hk => by
    rcases hfr k hk with h | h
    · exact h4 k h
    · omega
  have hHp : Hp w3 b lo (.slice A1 (l.length + 1) c1) (l ++ [x]) := by
    refine ⟨?_, ?_, h3, hne⟩
    · rw [← hw]
      exact set_blk (cs := [_, _]) (HG.out.obj (obj_below ((Below.refl _ _).alloc (Nat.le_refl _) _) H1.out hb) (fun h => h4 _ h rfl)) 1 _
    · rw [← hw]
      exact HO.out.only (only_set _ _ _ _) fun k hk h => hne k hk h
  have HHP := Lib.hid hHp
  have HOB := Lib.hid hoB
  have HFR := Lib.hid hfr
  have hc13 : w3.cell? ⟨b, 1, none⟩ = some (.slice A1 (l.length + 1) c1) := by have h := hHp.1; simp [World.cell?, h]
  clear hw hoB hfr hHp HO HG HAT hfz hc1 hf1 H1 H2
  clear hcs hwr
  have hU0 : UpOk ltI (l ++ [x]) l.length := UpOk.push HOK.out x
  have hP0 : (l ++ [x]).Perm (x :: l) := List.perm_append_comm (l₁ := l) (l₂ := [x])
  obtain ⟨g, rfl, hlg, _⟩ := HHP.out.2.1.at_ 0 (by omega)
  have hgb : g ≠ b := hne g rfl
  go_loopg [4] l.length (fun kq v4 w' => ∃ L : List Int, kq ≤ l.length ∧ v4 = .int .i64 ((kq : Nat) : Int) ∧ Hp w' b lo (.slice (some ⟨g, 0, none⟩) (l.length + 1) c1) L ∧ L.length = l.length + 1 ∧ UpOk ltI L kq ∧ L.Perm (x :: l) ∧ Only (HpB (.slice (some ⟨g, 0, none⟩) (l.length + 1) c1) b) w3 w')
  case atStart => exact ⟨l ++ [x], Nat.le_refl _, rfl, HHP.out, by simp, hU0, hP0, Only.refl _ _⟩
  case round =>
    obtain ⟨L, hk, rfl, hH, hLl, hup, hpm, hon⟩ := hrel
    have HH := Lib.hid hH
    have HUP := Lib.hid hup
    have HPM := Lib.hid hpm
    have HON := Lib.hid hon
    have hc1 : wr.cell? ⟨b, 1, none⟩ = some (.slice (some ⟨g, 0, none⟩) (l.length + 1) c1) := by have h := hH.1; simp [World.cell?, h]
    have hc0 : wr.cell? ⟨b, 0, none⟩ = some (.func (.func 19) #[] #[]) := by have h := hH.1; simp [World.cell?, h]
    clear hH hup hpm hon hc13 hU0 hP0 HHP
    cases gk with
    | zero =>
      go_wp2_with fail
      go_end0
      exact ⟨rfl, _, L, ⟨HH.out, HUP.out.stop (.inl rfl), HOB.out.trans2 HON.out (fun k hk h => h.imp id fun h => (HFR.out k h).resolve_right (by omega)), HFR.out⟩, HPM.out⟩
    | succ k1 =>
      obtain ⟨i, hi⟩ : ∃ i, k1 + 1 = i := ⟨_, rfl⟩
      obtain ⟨u, hu⟩ : ∃ u, k1 / 2 = u := ⟨_, rfl⟩
      have hui : (i - 1) / 2 = u := by omega
      rw [hi] at HUP hk ⊢
      have hpos : decide (0 < i) = true := decide_eq_true (by omega)
      have hwr1 : IntKind.i64.wrap ((i : Int) - 1) = (k1 : Int) := by rw [i64_w, show ((i : Int) - 1) = (k1 : Int) by omega]; exact wrap64_id _ (by omega)
      have hdiv : (k1 : Int).tdiv 2 = (u : Int) := by rw [Int.tdiv_eq_ediv_of_nonneg (by omega)]; omega
      have hwr2 : IntKind.i64.wrap (u : Int) = (u : Int) := by rw [i64_w]; exact wrap64_id _ (by omega)
      obtain ⟨g', hg', _, _, hci, hfi, hst⟩ := HH.out.2.1.at_ i (by omega)
      injection hg' with hg'
      injection hg' with hg'
      subst hg'
      obtain ⟨g', hg', _, _, hcu, hfu, hst2⟩ := HH.out.2.1.at_ u (by omega)
      injection hg' with hg'
      injection hg' with hg'
      subst hg'
      have hxi : L[i]? = some (L.getD i 0) := get_getD (by omega)
      have hxu : L[u]? = some (L.getD u 0) := get_getD (by omega)
      obtain ⟨xi, hxi'⟩ : ∃ x, L.getD i 0 = x := ⟨_, rfl⟩
      obtain ⟨xu, hxu'⟩ : ∃ x, L.getD u 0 = x := ⟨_, rfl⟩
      rw [hxi'] at hci hxi
      rw [hxu'] at hcu hxu
      have HXI := Lib.hid hxi
      have HXU := Lib.hid hxu
      have HI := Lib.hid hi
      have HU := Lib.hid hui
      have bi : (i : Int) < (l.length : Int) + 1 := by omega
      have bu : (u : Int) < (l.length : Int) + 1 := by omega
      clear hxi hxu hxi' hxu' hst hst2 hi hu hui
      by_cases hlt : xi < xu
      · have hlt' : decide (xi < xu) = true := decide_eq_true hlt
        go_wp2_with fail
        go_quiet ((go_at_call 19; exact Calls.quiet_of (Less_calls _ _ _)))
        go_wp2_with fail
        generalize hwq : wr.drewN _ = wq
        have hc1q : wq.cell? ⟨b, 1, none⟩ = some (.slice (some ⟨g, 0, none⟩) (l.length + 1) c1) := by rw [← hwq]; exact hc1
        have hciq : wq.cell? ⟨g, i, none⟩ = some (.int .i64 xi) := by rw [← hwq]; exact hci
        have hcuq : wq.cell? ⟨g, u, none⟩ = some (.int .i64 xu) := by rw [← hwq]; exact hcu
        have hfiq : wq.frozen? ⟨g, i, none⟩ = false := by rw [← hwq]; exact hfi
        have hfuq : wq.frozen? ⟨g, u, none⟩ = false := by rw [← hwq]; exact hfu
        have hiu : ¬ i = u := by have h1 := HI.out; have h2 := HU.out; omega
        have hui : ¬ u = i := by omega
        have hul : u ≤ l.length := by omega
        have hul2 : u < l.length + 1 := by omega
        have hil2 : i < l.length + 1 := by omega
        have hH2 : Hp wq b lo (.slice (some ⟨g, 0, none⟩) (l.length + 1) c1) L := by rw [← hwq]; exact HH.out.drewN _
        have hsw := hH2.swap (x := xi) (y := xu) hil2 hul2
        have HSW := Lib.hid hsw
        have HWQ := Lib.hid hwq
        clear hc0 hc1 hci hcu hfi hfu hsw hH2 hwq
        go_region
        go_wp2_with fail
        go_roundg u
        case measure => have h1 := HI.out; have h2 := HU.out; omega
        case rel =>
          refine ⟨swp L i u xu xi, hul, rfl, HSW.out.1, by rw [swp_length]; exact hLl, ?_, (swp_perm HXI.out HXU.out).trans HPM.out, HON.out.trans (Only.trans ?_ HSW.out.2)⟩
          · have h1 := HI.out
            have h2 := HU.out
            rw [← h2]
            exact HUP.out.swap ltI_wo (by omega) HXI.out (by rw [h2]; exact HXU.out) (decide_eq_true hlt)
          · rw [← HWQ.out]
            exact Only.of_below (below_drewN_self _ _)
      · have hlt' : decide (xi < xu) = false := decide_eq_false hlt
        go_wp2_with fail
        go_quiet ((go_at_call 19; exact Calls.quiet_of (Less_calls _ _ _)))
        go_wp2_with fail
        go_end0
        refine ⟨rfl, _, L, ⟨HH.out.drewN _, HUP.out.stop (.inr fun a b' ha hb' => ?_), HOB.out.trans2 (HON.out.trans (Only.of_below (below_drewN_self _ _))) (fun k hk h => h.imp id fun h => (HFR.out k h).resolve_right (by omega)), HFR.out⟩, HPM.out⟩
        have h2 := HU.out
        rw [h2, HXU.out] at hb'
        rw [HXI.out] at ha
        injection ha with ha
        injection hb' with hb'
        subst ha hb'
        exact hlt'
end Go.Proofs.Ytacgkoclammggaa
