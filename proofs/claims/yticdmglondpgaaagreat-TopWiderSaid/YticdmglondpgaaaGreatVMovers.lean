/-
  The movers: all signs the other way; a coordinate more; turned. Condition: small coordinates.
-/
import Derived.Deep.RegionLaw
import Derived.Test.YticdmglondpgaaaGreatVMoved
import Derived.Test.YticdmglondpgaaaGreatVRef4R

namespace Go.Proofs.YticdmglondpgaaaGreat
open Go.RowKit
set_option linter.unusedVariables false
set_option maxRecDepth 100000
set_option linter.unusedSimpArgs false

attribute [local go_sem] Oper.semAt_some

theorem info_i32V : (Tryz.prog.info? 21).map (fun i => (i.zero, i.size, i.bytes)) = some (some (.int .i32 0), 1, 4) := by kernel_rfl
set_option maxHeartbeats 6400000 in
set_option maxRecDepth 100000 in
theorem neg_mv (D : Nat) (w : World) (hD : D ≤ 1024) : MvC 34 #[] negL D w := by
  intro W A c xs _ hr hc hv
  obtain ⟨n, hn⟩ : ∃ n, xs.length = n := ⟨_, rfl⟩
  have HN := Lib.hid hn
  have HR := Lib.hid hr
  have HV := Lib.hid hv.2
  have hn2 : n ≤ 1024 := by have := hv.1; omega
  rw [hn] at hc
  simp only [hn, List.append_toArray, List.append_nil]
  clear hr hv hn
  go_enter Tryz.func34, Tryz.ntmps34
  go_wp2_with fail
  go_loopg [3, 7] n (fun kk v3 v7 w' => kk ≤ n ∧ v7 = .int .i64 ((n - kk : Nat)) ∧ Own w' W.heap.size 21 .i32 v3 (negL (xs.take (n - kk))) ∧ Below W.heap.size W w')
  case atStart => exact ⟨Nat.le_refl _, by simp, by rw [Nat.sub_self]; exact World.ownsRow_nil _ _ _ _, Below.refl _ _⟩
  case round =>
    obtain ⟨hkk, rfl, HY0, HBI0⟩ := hrel
    rename World => wi
    have HY := Lib.hid HY0
    have HBI := Lib.hid HBI0
    have hzi := HBI0.size
    clear HY0 HBI0
    cases gk with
    | zero =>
      have hy := HY.out
      rw [Nat.sub_zero, show xs.take n = xs from by rw [← HN.out, List.take_length]] at hy
      have HY2 := Lib.hid hy
      simp only [Nat.sub_zero]
      clear HY hy
      go_wp2_with fail
      go_ret
      exact ⟨_, rfl, HY2.out, HBI.out⟩
    | succ k2 =>
      obtain ⟨k, hk2⟩ : ∃ k, n - (k2 + 1) = k := ⟨_, rfl⟩
      have hk3 : n - k2 = k + 1 := by omega
      have HK3 := Lib.hid hk3
      have hkD : k < n := by omega
      have hkD2 : (k : Int) < (n : Int) := by omega
      rw [hk2] at HY ⊢
      clear hk2 hk3
      obtain ⟨ad2, rfl, hcx⟩ := (HR.out.below HBI.out).2 k (by rw [HN.out]; exact hkD)
      have hb := HV.out (xs.getD k 0) (by have : k < xs.length := by rw [HN.out]; exact hkD
                                          simp [List.getD, this])
      have hst := Lib.hid (show negL (xs.take (k + 1)) = negL (xs.take k) ++ [-(xs.getD k 0)] by
        have hkk : k < xs.length := by rw [HN.out]; exact hkD
        rw [List.take_succ_eq_append_getElem hkk]; unfold negL; rw [List.map_append]; simp [List.getD, hkk])
      have hsl := Lib.hid (show (negL (xs.take k)).length = k by simp only [negL, List.length_map, List.length_take, HN.out]; omega)
      obtain ⟨x, hx⟩ : ∃ x, xs.getD k 0 = x := ⟨_, rfl⟩
      rw [hx] at hcx hb hst
      clear hx
      have hwx : IntKind.i32.wrap (-x) = -x := by rw [i32_w]; exact wrap32_id _ (by omega)
      have hwx2 : wrap32 (-x) = -x := wrap32_id _ (by omega)
      clear hb
      go_wp2_with (first
        | (at_builtin; refine wpList_appI _ rfl (.tmp 10) (.tmp 16) 29 21 rfl .i32 4 Tryz.underlying29 info_i32V (by omega) W.heap.size u3 (negL (xs.take k)) rfl (some ⟨wi.heap.size, 0, none⟩) 1 [-x] rfl (HY.out.alloc1 _) W (HBI.out.alloc hzi _) (by rw [World.size_alloc]; omega) (Rd.new wi .i32 [-x] 21 (by simp)) (by rw [hsl.out]; simp; omega) ?_; intro v1 w5 hown1 hgrow1 hbel1 hat1 hnil1; have hz5 := hbel1.size))
      have HO1 := Lib.hid hown1
      have HB1 := Lib.hid hbel1
      clear hown1 hgrow1 hbel1 hat1 hnil1
      go_wp2
      go_roundg k2
      case measure => omega
      case rel =>
        rw [HK3.out, hst.out]
        exact ⟨by omega, rfl, HO1.out, HB1.out⟩
theorem step_appV {P : Program} (w : World) {ops : Array Oper} {o : Oper} {a : Act} {K : Act → World → Prop} {Q : Exit → Act → World → Prop} {E: Prop} (hgd : o.guard = none) (s x : Operand) (t e : TypeId)
    (ho : o.op = .call { callee := .builtin .append, args := #[s, x], argTypes := #[t, t] })
    (k : IntKind) (bytes : Nat) (ht : P.underlying t = some (.slice e)) (hinfo : (P.info? e).map (fun i => (i.zero, i.size, i.bytes)) = some (some (.int k 0), 1, bytes)) (hb0 : 0 < bytes)
    (base : Nat) (v : Value) (xs : List Int) (hs : a.eval s = v) (A : Option Addr) (m c : Nat) (ys : List Int) (hx : a.eval x = .slice A m c) (hm : m = ys.length) (hown : Own w base e k v xs) (w0 : World) (HB : Below base w0 w) (hbase : base ≤ w.heap.size)
    (hnews : Rd w k A ys) (hbytes : (xs.length + ys.length) * bytes ≤ 140737488355328)
    (h : ∀ v' w', Own w' base e k v' (xs ++ ys) → Only (OwnB v) w w' → Below base w0 w' → (v'.ownBlock = v.ownBlock ∨ v'.ownBlock = some w.heap.size) → (v' = .slice none 0 0 ↔ v = .slice none 0 0 ∧ ys.length = 0) → K (a.put o.dst v') w') :
    if Region.wanted o (yielded ops a.tmps) = true then Oper.wp P o a w K Q else E := by
  subst hm
  exact step_app w hgd s x t e ho (.int k 0) 1 bytes ht hinfo rfl (by omega) hb0 base v xs.length (nums k xs) hs A ys.length c hx hown w0 HB hbase (nums k ys) (by simp [nums]) hnews.c (nums_one _ _) hbytes
    fun v' w' h1 h2 h3 h4 h5 => h v' w' (by unfold Own; rw [nums_append, List.length_append]; exact h1) h2 h3 h4 h5
theorem own_emptyV (w : World) (base n : Nat) (e : TypeId) (k : IntKind) (h : w.heap.size = n) (hb : base ≤ n) : Own (w.alloc (.cells #[] e)) base e k (.slice (some ⟨n, 0, none⟩) 0 0) [] := by
  have h1 := OwnF.empty_at (f := fun x : Int => [Value.int k x]) (q := 1) w e n base h hb
  exact h1
theorem own_drewV {w : World} {base : Nat} {e : TypeId} {k : IntKind} {v : Value} {xs : List Int} (h : Own w base e k v xs) : Own w.drew base e k v xs := own_drew1 h
theorem rd_oneV (W : World) (x : Int) (e : TypeId) (n : Nat) (hn : W.heap.size = n) : Rd (W.alloc (.cells #[.int .i32 x] e)) .i32 (some ⟨n, 0, none⟩) [x] := by
  subst hn
  exact Rd.new W .i32 [x] e (by simp)
theorem rd_drew1V {w : World} {k : IntKind} {A : Option Addr} {xs : List Int} (h : Rd w k A xs) : Rd w.drew k A xs := h.below (Below.refl _ _).drew
set_option maxHeartbeats 6400000 in
set_option maxRecDepth 100000 in
theorem wide_mv (cc : Int) (b D : Nat) (w : World) (hD : D ≤ 1024) (hcell : w.cell? ⟨b, 0, none⟩ = some (.int .i32 cc)) : MvC 39 #[.pointer (some ⟨b, 0, none⟩)] (wideL cc) D w := by
  intro W A c xs hbw hr hc hv
  obtain ⟨n, hn⟩ : ∃ n, xs.length = n := ⟨_, rfl⟩
  have HN := Lib.hid hn
  have HR := Lib.hid hr
  have hn2 : n ≤ 1024 := by have := hv.1; omega
  have hcw := cell_below hbw hcell (World.block_lt_of_cell? _ _ hcell)
  have hcl := World.block_lt_of_cell? _ _ hcw
  have hself : Below W.heap.size W W := Below.refl _ _
  rw [hn] at hc ⊢
  simp only [List.append_toArray, List.cons_append, List.nil_append]
  clear hr hv hn hbw hcell
  go_enter Tryz.func39, Tryz.ntmps39
  go_wp2_with fail
  go_region_law
    (first
      | (refine step_appV _ (by rfl) (.tmp 4) (.tmp 5) 29 21 (by rfl) .i32 4 Tryz.underlying29 info_i32V (by omega) W.heap.size (.slice (some ⟨_, 0, none⟩) 0 0) [] (by rfl) A n c xs (by rfl) HN.out.symm (by repeat (first | with_reducible refine own_drewV ?_ | exact own_emptyV _ _ _ _ _ (by first | rfl | (simp; done) | (simp; omega)) (by first | omega | (simp; done) | (simp; omega)) | with_reducible refine Own.alloc1 ?_ _)) W (by first | ((repeat (first | assumption | exact Below.refl _ _ | apply below_drew1 | apply below_alloc1)); done)) (by first | omega | (simp; done) | (simp; omega)) (HR.out.below (by first | ((repeat (first | assumption | exact Below.refl _ _ | apply below_drew1 | apply below_alloc1)); done))) (by rw [HN.out]; simp; omega) ?_; intro v1 w3 hown hgrow hbel hat hnil; have hcb := cell_below hbel hcw hcl; have hown2 := List.nil_append xs ▸ hown)
      | (refine step_appV _ (by rfl) (.tmp 6) (.tmp 8) 29 21 (by rfl) .i32 4 Tryz.underlying29 info_i32V (by omega) W.heap.size v1 xs (by rfl) _ 1 1 [cc] (by rfl) rfl (by repeat (first | with_reducible exact hown2 | with_reducible refine own_drewV ?_ | with_reducible refine Own.alloc1 ?_ _)) W (by first | ((repeat (first | assumption | exact Below.refl _ _ | apply below_drew1 | apply below_alloc1)); done)) (by have := hbel.size; first | omega | (simp; done) | (simp; omega)) (by repeat (first | exact rd_oneV _ _ _ _ (by first | rfl | (simp; done) | (simp; omega)) | refine Rd.onlyB ?_ hgrow (fun ad _ e => by injection e with e; subst e; simp [OwnB, Value.ownBlock]) | with_reducible refine rd_drew1V ?_ | with_reducible refine Rd.alloc ?_ _)) (by rw [HN.out]; simp; omega) ?_; intro v2 w4 hownF hgrow2 hbelF hat2 hnil2))
  all_goals
    go_wp2_with fail
    go_ret
    exact ⟨_, rfl, hownF, hbelF⟩
set_option maxHeartbeats 6400000 in
set_option maxRecDepth 100000 in
theorem turn_mv (at_ b D : Nat) (w : World) (hat : at_ ≤ D) (hD : D ≤ 1024) (hcell : w.cell? ⟨b, 0, none⟩ = some (.int .i64 at_)) : MvC 37 #[.pointer (some ⟨b, 0, none⟩)] (turnL at_) D w := by
  intro W A c xs hbw hr hc hv
  obtain ⟨n, hn⟩ : ∃ n, xs.length = n := ⟨_, rfl⟩
  have HN := Lib.hid hn
  have hn2 : n ≤ 1024 := by have := hv.1; omega
  have han : at_ ≤ n := by have := hv.1; omega
  have hcw := cell_below hbw hcell (World.block_lt_of_cell? _ _ hcell)
  have hcl := World.block_lt_of_cell? _ _ hcw
  have hself : Below W.heap.size W W := Below.refl _ _
  have hcut := Rd.cutR (m := at_) (c := c) hr (by omega) (by omega)
  have HR1 := Lib.hid hcut.1
  have HR2 := Lib.hid hcut.2
  have HL1 := Lib.hid (show at_ = (xs.take at_).length by rw [List.length_take]; omega)
  have HL2 := Lib.hid (show n - at_ = (xs.drop at_).length by rw [List.length_drop]; omega)
  have bp1 : (at_ : Int) ≤ (n : Int) := by omega
  have bp2 : (at_ : Int) ≤ (c : Int) := by omega
  have bp3 : (0 : Int) ≤ (at_ : Int) := by omega
  have bp4 : (n : Int) ≤ (c : Int) := by omega
  rw [hn] at hc ⊢
  simp only [List.append_toArray, List.cons_append, List.nil_append]
  clear hr hv hn hbw hcell hcut
  by_cases hca : c = at_
  · have hca2 : at_ = c := hca.symm
    subst hca2
    have hr2 := HR2.out
    rw [if_pos rfl] at hr2
    replace HR2 := Lib.hid hr2
    clear hr2
    go_enter Tryz.func37, Tryz.ntmps37
    go_wp2_with fail
    go_region_law
      (first
        | (refine step_appV _ (by rfl) (.tmp 4) (.tmp 7) 29 21 (by rfl) .i32 4 Tryz.underlying29 info_i32V (by omega) W.heap.size (.slice (some ⟨_, 0, none⟩) 0 0) [] (by rfl) A 0 0 (xs.drop at_) (by rfl) (by have := HL2.out; omega) (by repeat (first | with_reducible refine own_drewV ?_ | exact own_emptyV _ _ _ _ _ (by first | rfl | (simp; done) | (simp; omega)) (by first | omega | (simp; done) | (simp; omega)) | with_reducible refine Own.alloc1 ?_ _)) W (by first | ((repeat (first | assumption | exact Below.refl _ _ | apply below_drew1 | apply below_alloc1)); done)) (by first | omega | (simp; done) | (simp; omega)) (HR2.out.below (by first | ((repeat (first | assumption | exact Below.refl _ _ | apply below_drew1 | apply below_alloc1)); done))) (by have := HL2.out; simp only [List.length_nil]; omega) ?_; intro v1 w3 hown hgrow hbel hat1 hnil; have hcb := cell_below hbel hcw hcl; have hown2 := List.nil_append (xs.drop at_) ▸ hown)
        | (refine step_appV _ (by rfl) (.tmp 8) (.tmp 11) 29 21 (by rfl) .i32 4 Tryz.underlying29 info_i32V (by omega) W.heap.size v1 (xs.drop at_) (by rfl) A at_ at_ (xs.take at_) (by rfl) HL1.out (by repeat (first | with_reducible exact hown2 | with_reducible refine own_drewV ?_ | with_reducible refine Own.alloc1 ?_ _)) W (by first | ((repeat (first | assumption | exact Below.refl _ _ | apply below_drew1 | apply below_alloc1)); done)) (by have := hbel.size; first | omega | (simp; done) | (simp; omega)) (HR1.out.below (by first | ((repeat (first | assumption | exact Below.refl _ _ | apply below_drew1 | apply below_alloc1)); done))) (by have := HL1.out; have := HL2.out; omega) ?_; intro v2 w4 hownF hgrow2 hbelF hat2 hnil2))
    all_goals
      go_wp2_with fail
      go_ret
      exact ⟨_, rfl, hownF, hbelF⟩
  · have hr2 := HR2.out
    rw [if_neg hca] at hr2
    replace HR2 := Lib.hid hr2
    clear hr2
    go_enter Tryz.func37, Tryz.ntmps37
    go_wp2_with fail
    go_region_law
      (first
        | (refine step_appV _ (by rfl) (.tmp 4) (.tmp 7) 29 21 (by rfl) .i32 4 Tryz.underlying29 info_i32V (by omega) W.heap.size (.slice (some ⟨_, 0, none⟩) 0 0) [] (by rfl) _ (n - at_) (c - at_) (xs.drop at_) (by rfl) HL2.out (by repeat (first | with_reducible refine own_drewV ?_ | exact own_emptyV _ _ _ _ _ (by first | rfl | (simp; done) | (simp; omega)) (by first | omega | (simp; done) | (simp; omega)) | with_reducible refine Own.alloc1 ?_ _)) W (by first | ((repeat (first | assumption | exact Below.refl _ _ | apply below_drew1 | apply below_alloc1)); done)) (by first | omega | (simp; done) | (simp; omega)) (HR2.out.below (by first | ((repeat (first | assumption | exact Below.refl _ _ | apply below_drew1 | apply below_alloc1)); done))) (by have := HL2.out; simp only [List.length_nil]; omega) ?_; intro v1 w3 hown hgrow hbel hat1 hnil; have hcb := cell_below hbel hcw hcl; have hown2 := List.nil_append (xs.drop at_) ▸ hown)
        | (refine step_appV _ (by rfl) (.tmp 8) (.tmp 11) 29 21 (by rfl) .i32 4 Tryz.underlying29 info_i32V (by omega) W.heap.size v1 (xs.drop at_) (by rfl) A at_ c (xs.take at_) (by rfl) HL1.out (by repeat (first | with_reducible exact hown2 | with_reducible refine own_drewV ?_ | with_reducible refine Own.alloc1 ?_ _)) W (by first | ((repeat (first | assumption | exact Below.refl _ _ | apply below_drew1 | apply below_alloc1)); done)) (by have := hbel.size; first | omega | (simp; done) | (simp; omega)) (HR1.out.below (by first | ((repeat (first | assumption | exact Below.refl _ _ | apply below_drew1 | apply below_alloc1)); done))) (by have := HL1.out; have := HL2.out; omega) ?_; intro v2 w4 hownF hgrow2 hbelF hat2 hnil2))
    all_goals
      go_wp2_with fail
      go_ret
      exact ⟨_, rfl, hownF, hbelF⟩
end Go.Proofs.YticdmglondpgaaaGreat
