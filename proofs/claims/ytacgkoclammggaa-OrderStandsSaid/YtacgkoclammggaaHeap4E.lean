
/-
  The heap of things of two whole numbers (api.Result): Pop. Condition: the heap's blocks are as the word HpE bx says; no more than a million things.
-/
import Derived.Test.YtacgkoclammggaaHeap3E
namespace Go.Proofs.Ytacgkoclammggaa
open Go.RowKit
set_option linter.unusedVariables false
set_option maxRecDepth 100000
set_option linter.unusedSimpArgs false

theorem OwnF.takeE {α : Type} {f : α → List Value} {q : Nat} (hq : ∀ x, (f x).length = q) {w : World} {base : Nat} {e : TypeId} {A : Option Addr} {n c m : Nat} {xs : List α} (h : OwnF w base e q f (.slice A n c) xs) (hm : m ≤ n) (hn : xs.length = n) (hn0 : 0 < n) : OwnF w base e q f (.slice A m c) (xs.take m) := by
  subst hn
  obtain ⟨h0, h⟩ := h
  rcases h with ⟨h1, h2⟩ | ⟨g, cap, cur, h1, hb, hg, hc, hcm, hs, ht⟩
  · injection h1 with _ h1
    omega
  · injection h1 with e1 e2 e3
    subst e1 e3
    have hl : (xs.take m).length = m := by simp; omega
    unfold OwnF
    rw [hl]
    refine ⟨by rw [cellsF_length hq, hl], .inr ⟨g, c, cur, rfl, hb, hg, by omega, hcm, hs, ?_⟩⟩
    have e : (xs.take m).flatMap f = (xs.flatMap f).take (m * q) := by
      rw [show xs.flatMap f = (xs.take m).flatMap f ++ (xs.drop m).flatMap f by rw [← List.flatMap_append, List.take_append_drop]]
      exact (List.take_left' (by rw [cellsF_length hq, hl])).symm
    rw [e, ← ht, List.take_take]
    congr 1
    have := Nat.mul_le_mul_right q hm
    omega
theorem PopE_none (bx b lo : Nat) (v : Value) (w : World) (h : HpE bx w b lo v []) :
    Calls Try.prog 87 #[.pointer (some ⟨b, 0, none⟩)] w fun e w' => e = .returned (.tuple #[.agg #[.int .i64 0, .int .i64 0, .int .i64 0], .bool false]) ∧ Below w.heap.size w w' := by
  obtain ⟨W, hW⟩ : ∃ W, w.alloc (.cells #[.int .i64 0, .int .i64 0, .int .i64 0] 124) = W := ⟨_, rfl⟩
  have hB : Below w.heap.size w W := by rw [← hW]; exact below_alloc1 (Below.refl _ _) _
  have HH := Lib.hid (h.keep hB)
  have hz : W.heap.size = w.heap.size + 1 := by rw [← hW]; simp
  have hx := (show W.heap[w.heap.size]? = some (.cells #[.int .i64 0, .int .i64 0, .int .i64 0] 124 (0, 0)) by rw [← hW]; exact heap_alloc_new _ _)
  have HB := Lib.hid hB
  have HX := Lib.hid hx
  have HZ := Lib.hid hz
  clear h hB hx hz
  go_enter Try.func87, Try.ntmps87
  go_wp2_with fail
  refine (PeekE_none bx b lo v _ HH.out).mono ?_
  rintro e W2 ⟨he, hb2⟩
  subst he
  have hx2 := obj_below hb2 HX.out (obj_lt HX.out)
  have hc0 : W2.cell? ⟨w.heap.size, 0, none⟩ = some (.int .i64 0) := by simp [World.cell?, hx2]
  have hc1 : W2.cell? ⟨w.heap.size, 1, none⟩ = some (.int .i64 0) := by simp [World.cell?, hx2]
  have hc2 : W2.cell? ⟨w.heap.size, 2, none⟩ = some (.int .i64 0) := by simp [World.cell?, hx2]
  have hf0 : W2.frozen? ⟨w.heap.size, 0, none⟩ = false := by simp [World.frozen?, hx2]
  have hf1 : W2.frozen? ⟨w.heap.size, 1, none⟩ = false := by simp [World.frozen?, hx2]
  have hf2 : W2.frozen? ⟨w.heap.size, 2, none⟩ = false := by simp [World.frozen?, hx2]
  have g0 := fun o => (World.cell?_alloc_lt (o := o) W2 _ (World.block_lt_of_cell? _ _ hc0)).trans hc0
  have g1 := fun o => (World.cell?_alloc_lt (o := o) W2 _ (World.block_lt_of_cell? _ _ hc1)).trans hc1
  have g2 := fun o => (World.cell?_alloc_lt (o := o) W2 _ (World.block_lt_of_cell? _ _ hc2)).trans hc2
  have gf : ∀ (o : Obj) (j : Nat), (W2.alloc o).frozen? ⟨w.heap.size, j, none⟩ = false := fun o j => by
    have h := obj_below (below_alloc1 (Below.refl W2.heap.size W2) o) hx2 (obj_lt hx2)
    simp [World.frozen?, h]
  have gf0 := fun o => gf o 0
  have gf1 := fun o => gf o 1
  have gf2 := fun o => gf o 2
  have hlt := (Below.after HB.out hb2).size
  have HB2 := Lib.hid (Below.after HB.out hb2)
  clear hx2 hb2 gf
  go_wp2_with fail
  refine bodyPost_ret ?_ rfl ⟨rfl, ?_⟩
  · rw [results_cell_tmp rfl]
    go_simp
  · exact below_set (below_set (below_set (below_alloc1 HB2.out _) (Nat.le_refl _) _ _) (Nat.le_refl _) _ _) (Nat.le_refl _) _ _
set_option maxHeartbeats 3200000 in
set_option maxRecDepth 1000000 in
theorem PopE_some (bx bs b lo : Nat) (v : Value) (x0 x1 x2 : Int) (l : List (Int × Int × Int)) (w : World) (h : HpE bx w b lo v ((x0, x1, x2) :: l)) (hok : HeapOk ltE ((x0, x1, x2) :: l)) (hl : l.length ≤ 1000000) (hsl : SlxE w bx bs) (hnx : Ns v b bx) (hns : Ns v b bs) :
    Calls Try.prog 87 #[.pointer (some ⟨b, 0, none⟩)] w fun e w' => e = .returned (.tuple #[.agg #[.int .i64 x0, .int .i64 x1, .int .i64 x2], .bool true]) ∧ ∃ v' l', HpToE bx w w' b lo v v' l' ∧ l'.Perm l ∧ v'.ownBlock = v.ownBlock := by
  obtain ⟨A, c, rfl, hlc⟩ := h.2.1.shape
  obtain ⟨g, _, rfl, hlg, hgw, _, _, _, _⟩ := h.2.1.at_ tri_q 0 (by simp) (by omega)
  obtain ⟨m, hm⟩ : ∃ m, l.length = m := ⟨_, rfl⟩
  have hxl : ((x0, x1, x2) :: l).length = m + 1 := by simp [hm]
  rw [hxl] at h hlc
  have hgb : g ≠ b := h.2.2.2 g rfl
  have hbw := h.lt
  have b0 : (0 : Int) < (m : Int) + 1 := by omega
  have bm : (m : Int) < (m : Int) + 1 := by omega
  obtain ⟨W, hW⟩ : ∃ W, w.alloc (.cells #[.int .i64 0, .int .i64 0, .int .i64 0] 124) = W := ⟨_, rfl⟩
  have hB : Below w.heap.size w W := by rw [← hW]; exact below_alloc1 (Below.refl _ _) _
  have HH := Lib.hid (h.keep hB)
  have hz : W.heap.size = w.heap.size + 1 := by rw [← hW]; simp
  have hx := (show W.heap[w.heap.size]? = some (.cells #[.int .i64 0, .int .i64 0, .int .i64 0] 124 (0, 0)) by rw [← hW]; exact heap_alloc_new _ _)
  have HB := Lib.hid hB
  have HX := Lib.hid hx
  have HZ := Lib.hid hz
  have HOK := Lib.hid hok
  have HM := Lib.hid hm
  have HXL := Lib.hid hxl
  clear h hB hx hz hok hm hxl
  have hm64 : (m : Int) ≤ 9223372036854775807 := by have := HM.out; omega
  have hwr2 : wrap64 (m : Int) = (m : Int) := wrap64_id _ ⟨by omega, hm64⟩
  clear hm64
  go_enter Try.func87, Try.ntmps87
  go_wp2_with fail
  refine (PeekE_some bx b lo _ x0 x1 x2 l _ HH.out).mono ?_
  rintro e W2 ⟨he, hb2⟩
  subst he
  have H2 := Lib.hid (HH.out.keep hb2)
  have hx2 := obj_below hb2 HX.out (obj_lt HX.out)
  have HX2 := Lib.hid hx2
  have hs2 := hb2.size
  have HB2 := Lib.hid (Below.after HB.out hb2)
  have hc1 : W2.cell? ⟨b, 1, none⟩ = some (.slice (some ⟨g, 0, none⟩) (m + 1) c) := by have h1 := H2.out.1; simp [World.cell?, h1]
  have gc1 := fun o => (World.cell?_alloc_lt (o := o) W2 _ (World.block_lt_of_cell? _ _ hc1)).trans hc1
  clear hx2 hb2
  go_wp2_with fail
  obtain ⟨W3, hW3⟩ : ∃ W3, W2.alloc (.cells #[.int .i64 x0, .int .i64 x1, .int .i64 x2] 124) = W3 := ⟨_, rfl⟩
  have hB3 : Below W2.heap.size W2 W3 := by rw [← hW3]; exact below_alloc1 (Below.refl _ _) _
  have h3 := H2.out.keep hB3
  have hr3 := obj_below hB3 HX2.out (obj_lt HX2.out)
  have hx3 := (show W3.heap[W2.heap.size]? = some (.cells #[.int .i64 x0, .int .i64 x1, .int .i64 x2] 124 (0, 0)) by rw [← hW3]; exact heap_alloc_new _ _)
  try rw [hW3]
  obtain ⟨g', ⟨z0, z1, z2⟩, hg', _, _, hzl, hcz, hfz, _⟩ := h3.2.1.at_ tri_q m (by omega) (by omega)
  injection hg' with hg'
  injection hg' with hg'
  subst hg'
  obtain ⟨g', ⟨u0, u1, u2⟩, hg', _, _, hul, hcu, _, _⟩ := h3.2.1.at_ tri_q 0 (by omega) (by omega)
  injection hg' with hg'
  injection hg' with hg'
  subst hg'
  have hcz0 : W3.cell? ⟨g, m * 3, none⟩ = some (.int .i64 z0) := hcz 0 (by omega)
  have hcz1 : W3.cell? ⟨g, m * 3 + 1, none⟩ = some (.int .i64 z1) := hcz 1 (by omega)
  have hcz2 : W3.cell? ⟨g, m * 3 + 2, none⟩ = some (.int .i64 z2) := hcz 2 (by omega)
  have hcu0 : W3.cell? ⟨g, 0, none⟩ = some (.int .i64 u0) := hcu 0 (by omega)
  have hcu1 : W3.cell? ⟨g, 1, none⟩ = some (.int .i64 u1) := hcu 1 (by omega)
  have hcu2 : W3.cell? ⟨g, 2, none⟩ = some (.int .i64 u2) := hcu 2 (by omega)
  have hf0 := hfz 0
  have hf1 := hfz 1
  have hf2 := hfz 2
  have hc13 : W3.cell? ⟨b, 1, none⟩ = some (.slice (some ⟨g, 0, none⟩) (m + 1) c) := by have h1 := h3.1; simp [World.cell?, h1]
  have hfb : W3.frozen? ⟨b, 1, none⟩ = false := by have h1 := h3.1; simp [World.frozen?, h1]
  have H3 := Lib.hid h3
  have HR3 := Lib.hid hr3
  have HX3 := Lib.hid hx3
  have HB3 := Lib.hid (Below.after HB2.out hB3)
  have HZL := Lib.hid hzl
  have hbg : ¬ b = g := fun e => hgb e.symm
  have hgb' : ¬ g = b := hgb
  have hs3 := hB3.size
  clear hW hW3 hB3 h3 hr3 hx3 hcz hfz hcu hul hzl hc1 gc1
  go_region
  go_wp2_with fail
  clear hwr2 hcz0 hcz1 hcz2 hcu0 hcu1 hcu2 hf0 hf1 hf2 hc13 hfb
  have hH4 : HpE bx (((((W3.setCell ⟨g, 0, none⟩ (.int .i64 z0)).setCell ⟨g, 1, none⟩ (.int .i64 z1)).setCell ⟨g, 2, none⟩ (.int .i64 z2)).setCell ⟨b, 1, none⟩ (.slice (some ⟨g, 0, none⟩) m c)).drew) b lo (.slice (some ⟨g, 0, none⟩) m c) (popped ((x0, x1, x2) :: l) (z0, z1, z2)) := by
    have h5 := H3.out.2.1.store3 0 (by omega) (z0, z1, z2)
    have h6 := OwnF.takeE tri_q h5 (Nat.le_succ m) (by rw [List.length_set]; exact HXL.out) (by omega)
    refine ⟨set_blk (cs := [_, _]) (set_other (set_other (set_other H3.out.1 _ _ (Ne.symm hgb)) _ _ (Ne.symm hgb)) _ _ (Ne.symm hgb)) 1 _, ?_, H3.out.2.2.1, fun k hk => H3.out.2.2.2 k hk⟩
    unfold popped
    rw [HXL.out, Nat.add_sub_cancel]
    exact own_drew1 (OwnF.only h6 (only_set _ _ _ _) fun k hk e => by
      rw [show k = g by simpa [Value.ownBlock] using hk.symm] at e
      exact hgb e)
  have hon : Only (HpBE (.slice (some ⟨g, 0, none⟩) (m + 1) c) b) w (((((W3.setCell ⟨g, 0, none⟩ (.int .i64 z0)).setCell ⟨g, 1, none⟩ (.int .i64 z1)).setCell ⟨g, 2, none⟩ (.int .i64 z2)).setCell ⟨b, 1, none⟩ (.slice (some ⟨g, 0, none⟩) m c)).drew) :=
    (((((Only.of_below HB3.out).trans ((only_set _ g 0 _).mono fun k _ h => .inr (by rw [h]; rfl))).trans ((only_set _ g 1 _).mono fun k _ h => .inr (by rw [h]; rfl))).trans ((only_set _ g 2 _).mono fun k _ h => .inr (by rw [h]; rfl))).trans ((only_set _ b 1 _).mono fun k _ h => .inl h)).trans (Only.of_below (Below.refl _ _).drew)
  have hs4 : w.heap.size ≤ W2.heap.size := HB2.out.size
  have hx4 : (((((W3.setCell ⟨g, 0, none⟩ (.int .i64 z0)).setCell ⟨g, 1, none⟩ (.int .i64 z1)).setCell ⟨g, 2, none⟩ (.int .i64 z2)).setCell ⟨b, 1, none⟩ (.slice (some ⟨g, 0, none⟩) m c)).drew).heap[W2.heap.size]? = some (.cells #[.int .i64 x0, .int .i64 x1, .int .i64 x2] 124 (0, 0)) := set_other (set_other (set_other (set_other HX3.out _ _ (by omega)) _ _ (by omega)) _ _ (by omega)) _ _ (by omega)
  have hr4 : (((((W3.setCell ⟨g, 0, none⟩ (.int .i64 z0)).setCell ⟨g, 1, none⟩ (.int .i64 z1)).setCell ⟨g, 2, none⟩ (.int .i64 z2)).setCell ⟨b, 1, none⟩ (.slice (some ⟨g, 0, none⟩) m c)).drew).heap[w.heap.size]? = some (.cells #[.int .i64 0, .int .i64 0, .int .i64 0] 124 (0, 0)) := set_other (set_other (set_other (set_other HR3.out _ _ (by omega)) _ _ (by omega)) _ _ (by omega)) _ _ (by omega)
  have hml : (popped ((x0, x1, x2) :: l) (z0, z1, z2)).length = m := by rw [popped_length]; simp [HM.out]
  have hm6 : m ≤ 1000000 := by have := HM.out; omega
  have hdn := DownOk.pop HOK.out (z0, z1, z2)
  have hsl4 := hsl.only hon hnx hns
  refine (sinkE_calls bx bs b lo (some ⟨g, 0, none⟩) m c _ _ hH4 hml hdn hm6 hsl4 hnx hns).mono ?_
  rintro e W6 ⟨he, L, hH6, hok6, hpm, hon6⟩
  subst he
  have hnb : ∀ k, w.heap.size ≤ k → ¬ HpBE (.slice (some ⟨g, 0, none⟩) m c) b k := fun k hk h => by
    rcases h with h | h
    · omega
    · have : g = k := by simpa [OwnB, Value.ownBlock] using h
      omega
  have hx6 := hon6.obj hx4 (hnb _ hs4)
  have hr6 := hon6.obj hr4 (hnb _ (Nat.le_refl _))
  have hcx0 : W6.cell? ⟨W2.heap.size, 0, none⟩ = some (.int .i64 x0) := by simp [World.cell?, hx6]
  have hcx1 : W6.cell? ⟨W2.heap.size, 1, none⟩ = some (.int .i64 x1) := by simp [World.cell?, hx6]
  have hcx2 : W6.cell? ⟨W2.heap.size, 2, none⟩ = some (.int .i64 x2) := by simp [World.cell?, hx6]
  have hcr0 : W6.cell? ⟨w.heap.size, 0, none⟩ = some (.int .i64 0) := by simp [World.cell?, hr6]
  have hcr1 : W6.cell? ⟨w.heap.size, 1, none⟩ = some (.int .i64 0) := by simp [World.cell?, hr6]
  have hcr2 : W6.cell? ⟨w.heap.size, 2, none⟩ = some (.int .i64 0) := by simp [World.cell?, hr6]
  have hfr0 : W6.frozen? ⟨w.heap.size, 0, none⟩ = false := by simp [World.frozen?, hr6]
  have hfr1 : W6.frozen? ⟨w.heap.size, 1, none⟩ = false := by simp [World.frozen?, hr6]
  have hfr2 : W6.frozen? ⟨w.heap.size, 2, none⟩ = false := by simp [World.frozen?, hr6]
  have H6 := Lib.hid hH6
  have O6 := Lib.hid hok6
  have P6 := Lib.hid hpm
  have N6 := Lib.hid (hon.trans2E hon6 fun k _ h => h)
  clear hH4 hon hx4 hr4 hml hdn hH6 hok6 hpm hon6 hnb hx6 hr6 hsl4
  go_wp2_with fail
  refine bodyPost_ret ?_ rfl ⟨rfl, .slice (some ⟨g, 0, none⟩) m c, L, ⟨?_, O6.out, ?_, fun k hk => .inl hk⟩, ?_, rfl⟩
  · rw [results_cell_tmp rfl]
    go_simp
  · refine HpE.only H6.out (((only_set _ _ 0 _).trans (only_set _ _ 1 _)).trans (only_set _ _ 2 _)) (by omega) fun k hk h => ?_
    have : g = k := by simpa [Value.ownBlock] using hk
    omega
  · exact N6.out.trans2E (((only_set _ _ 0 _).trans (only_set _ _ 1 _)).trans (only_set _ _ 2 _)) fun k hk h => by omega
  · refine P6.out.trans (List.Perm.cons_inv (a := (x0, x1, x2)) ?_)
    exact popped_perm (by simp) (by rw [HXL.out, Nat.add_sub_cancel]; exact HZL.out)
end Go.Proofs.Ytacgkoclammggaa
