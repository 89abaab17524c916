/-
  The statement DataNew: the walk. Conditions: the numbers lie in their kinds' ranges.
-/
import Derived.Test.YtgjcajffkhjlbaaData3
import Derived.Shelf.Abstract
namespace Go.Proofs.Ytgjcajffkhjlbaa
open Go.RowKit
set_option linter.unusedVariables false
set_option linter.unusedSimpArgs false
attribute [local go_sem] Oper.semAt_some

theorem rows_of2 {w : World} {A B : Option Addr} {c d : Nat} {xs ys : List Int} (t : TypeId) (hc : xs.length ≤ c) (hd : ys.length ≤ d) (ha : Rd w .i32 A xs) (hb : Rd w .i32 B ys) :
    Rows (w.alloc (.cells #[.slice A xs.length c, .slice B ys.length d] t)) .i32 (some ⟨w.heap.size, 0, none⟩) [xs, ys] := by
  have hb' := heap_alloc_new w (.cells #[.slice A xs.length c, .slice B ys.length d] t)
  refine ⟨by simp, fun j hj => ?_⟩
  simp at hj
  rcases (by omega : j = 0 ∨ j = 1) with rfl | rfl
  · exact ⟨_, A, c, rfl, by rw [add_plain]; exact cell_blk (cs := [_, _]) hb' 0, hc, ha.alloc _⟩
  · exact ⟨_, B, d, rfl, by rw [add_plain]; exact cell_blk (cs := [_, _]) hb' 1, hd, hb.alloc _⟩
theorem rows_of1 {w : World} {A : Option Addr} {c : Nat} {xs : List Int} (t : TypeId) (hc : xs.length ≤ c) (ha : Rd w .i32 A xs) : Rows (w.alloc (.cells #[.slice A xs.length c] t)) .i32 (some ⟨w.heap.size, 0, none⟩) [xs] := by
  have hb' := heap_alloc_new w (.cells #[.slice A xs.length c] t)
  refine ⟨by simp, fun j hj => ?_⟩
  simp at hj
  subst hj
  exact ⟨_, A, c, rfl, by rw [add_plain]; exact cell_blk (cs := [_]) hb' 0, hc, ha.alloc _⟩
theorem below_putObj4 {B b : Nat} {w W : World} (h : Below B w W) (hb : B ≤ b) (o : Obj) : Below B w (W.putObj b o) := h.trans ⟨rfl, rfl, rfl, by simp, fun k hk => World.putObj_heap_other (by omega)⟩
theorem It.onlyB {w w' : World} {b dim n : Nat} {rows : List (List Int)} (h : It w b dim rows) (hn : w.heap.size ≤ n) (hw : Only (fun k => n ≤ k) w w') : It w' b dim rows := by
  obtain ⟨A, c, hv⟩ := h.v
  exact (hv.only hw fun k hk h => by have := (hv.blk k hk).2; omega).it
set_option maxHeartbeats 6400000 in
set_option maxRecDepth 100000 in
theorem DataNew_law (A : Option Addr) (ca : Nat) (xs : List Int) (B : Option Addr) (cb : Nat) (ys : List Int) (w : World) (hca : xs.length ≤ ca) (ha : Rd w .i32 A xs) (ua : ∀ n ∈ xs, (Lit.int .i32 n).wf = true) (na : A = none → xs = [] ∧ ca = 0) (la : xs.length * 4 ≤ 140737488351232) (hcb : ys.length ≤ cb) (hb : Rd w .i32 B ys) (ub : ∀ n ∈ ys, (Lit.int .i32 n).wf = true) (nb : B = none → ys = [] ∧ cb = 0) (lb : ys.length * 4 ≤ 140737488351232) :
    Calls Try.prog 15 #[.slice A xs.length ca, .slice B ys.length cb] w fun e w' => e = .returned (.bool true) ∧ Below w.heap.size w w' := by
  have KA := Lib.hid ha
  have KB := Lib.hid hb
  clear ha hb ua ub na nb
  by_cases h0 : 1024 < xs.length
  · have h0' : decide (1024 < (xs.length : Int)) = true := by simp; omega
    go_enter Try.func15, Try.ntmps15
    go_wp2_with fail
    refine (awake10_calls _).mono ?_
    rintro e w1 ⟨he, hb⟩
    subst he
    go_wp2_with fail
    go_ret
    exact ⟨rfl, hb⟩
  have h0' : decide (1024 < (xs.length : Int)) = false := by simp; omega
  replace h0 : xs.length ≤ 1024 := by omega
  by_cases h1 : 1024 < ys.length
  · have h1' : decide (1024 < (ys.length : Int)) = true := by simp; omega
    go_enter Try.func15, Try.ntmps15
    go_wp2_with fail
    refine (awake10_calls _).mono ?_
    rintro e w1 ⟨he, hb⟩
    subst he
    go_wp2_with fail
    go_ret
    exact ⟨rfl, hb⟩
  have h1' : decide (1024 < (ys.length : Int)) = false := by simp; omega
  replace h1 : ys.length ≤ 1024 := by omega
  refine (callsIn_wide (n := 5)).1 ?_
  refine callsIn_of_wp_marks Try.func15 rfl trivial ?_ rfl
  refine wpIn_wide.2 ?_
  simp only [Try.ntmps15, List.size_toArray, List.length_cons, List.length_nil, Nat.reduceAdd, Nat.reduceSub, Array.replicate_succ, Array.replicate_zero, List.push_toArray, List.append_toArray, List.nil_append, List.cons_append]
  go_wp2_with fail
  refine (awake10_calls _).mono ?_
  rintro e w1 ⟨he, hb1⟩
  subst he
  have hz1 := hb1.size
  go_wp2_with fail
  have hrows := rows_of2 (w := w1) 22 hca hcb (KA.out.below hb1) (KB.out.below hb1)
  refine (Of_calls (xs.length : Int) _ 2 [xs, ys] _ hrows (by simp)).mono ?_
  rintro e w2 ⟨v, f, he, hchk, hf0, hf1, hbn⟩
  subst he
  have hb2 : Below w.heap.size w w2 := hb1.trans (((below_alloc1 (Below.refl _ _) _).trans (hbn.mono (by simp))).mono hz1)
  have hz12 : w1.heap.size ≤ w2.heap.size := Nat.le_trans (by simp) hbn.size
  clear hrows
  by_cases hf : f = 0
  · subst hf
    obtain ⟨bX, rfl, hbX, hit⟩ := hf1 rfl
    clear hf0 hf1 hbn
    have hn1 := hit.1
    rw [Int.toNat_natCast] at hit hn1
    have hyl : ys.length = xs.length := hit.2.2.1 ys (by simp)
    have hchk1 : chkV (xs.length : Int) [xs] = 0 := by
      unfold chkV chkL at hchk ⊢
      split at hchk
      · omega
      · rename_i hh
        rw [if_neg hh]
        split at hchk
        · rename_i h5
          exact absurd hchk h5
        · rename_i h5
          rw [if_neg h5]
          rfl
    have HX2 := Lib.hid hit
    have HCHK := Lib.hid hchk1
    have hbXw : w1.heap.size ≤ bX := Nat.le_trans (by simp) hbX
    have hxX2 := hit.lt
    clear hit hchk hchk1 hyl hbX
    have hz2 := hb2.size
    go_wp2_with (first | (at_builtin; refine wpList_appI _ rfl (.tmp 46) (.tmp 47) 22 21 rfl .i32 4 Try.underlying22 info_i32 (by omega) w2.heap.size _ [] rfl A ca xs rfl (Own.empty w2 _ _) w2 ((Below.refl _ _).alloc (Nat.le_refl _) _) (by simp) ((KA.out.below hb2).alloc _) (by simp; omega) ?_; intro vW w3 ho hgrow hbn hat hnil; clear hat hnil hgrow; rw [List.nil_append] at ho; obtain ⟨AW, cW, hv, hcv, _⟩ := ho.shape; subst hv; have OW := Lib.hid ho; have hcvW := hcv; clear ho hcv; have HBW := Lib.hid hbn; clear hbn) | (at_builtin; refine wpList_appI _ rfl (.tmp 49) (.tmp 50) 22 21 rfl .i32 4 Try.underlying22 info_i32 (by omega) w3.heap.size _ [] rfl A ca xs rfl (Own.empty w3 _ _) w3 ((Below.refl _ _).alloc (Nat.le_refl _) _) (by simp) ((KA.out.below (hb2.trans (HBW.out.mono hz2))).alloc _) (by simp; omega) ?_; intro vP w4 ho hgrow hbn hat hnil; clear hat hnil hgrow; rw [List.nil_append] at ho; obtain ⟨AP, cP, hv, hcv, _⟩ := ho.shape; subst hv; have OP := Lib.hid ho; have hcvP := hcv; clear ho hcv; have HBP := Lib.hid hbn; clear hbn) | (at_builtin; refine wpList_appI _ rfl (.tmp 52) (.tmp 53) 22 21 rfl .i32 4 Try.underlying22 info_i32 (by omega) w4.heap.size _ [] rfl AP cP xs rfl (Own.empty w4 _ _) w4 ((Below.refl _ _).alloc (Nat.le_refl _) _) (by simp) ((OP.out.rd.2).alloc _) (by simp; omega) ?_; intro vC w5 ho hgrow hbn hat hnil; clear hat hnil hgrow; rw [List.nil_append] at ho; obtain ⟨AC, cC, hv, hcv, _⟩ := ho.shape; subst hv; have OC := Lib.hid ho; have hcvC := hcv; clear ho hcv; have HBC := Lib.hid hbn; clear hbn))
    have kw5 : Below w.heap.size w w5 := hb2.trans ((HBW.out.trans ((HBP.out.trans (HBC.out.mono HBP.out.size)).mono HBW.out.size)).mono hz2)
    have z23 := HBW.out.size
    have z34 := HBP.out.size
    have z45 := HBC.out.size
    have hrows1 := rows_of1 (w := w5) 22 hcvC OC.out.rd.2
    refine (Of_calls (xs.length : Int) _ 1 [xs] _ hrows1 (by simp)).mono ?_
    rintro e w6 ⟨v, f, he, hchk, hf0, hf1, hbn⟩
    subst he
    rw [HCHK.out] at hchk
    subst hchk
    obtain ⟨bY, rfl, hbY, hitY⟩ := hf1 rfl
    rw [Int.toNat_natCast] at hitY
    have hb56 : Below w5.heap.size w5 w6 := (below_alloc1 (Below.refl _ _) _).trans (hbn.mono (by simp))
    have hbYw : w5.heap.size < bY := Nat.lt_of_lt_of_le (by simp) hbY
    have z56 := hb56.size
    have k2 : Below w2.heap.size w2 w6 := HBW.out.trans ((HBP.out.trans ((HBC.out.trans (hb56.mono z45)).mono z34)).mono z23)
    have k3 : Below w3.heap.size w3 w6 := HBP.out.trans ((HBC.out.trans (hb56.mono z45)).mono z34)
    have kw6 := kw5.trans (hb56.mono kw5.size)
    obtain ⟨AY, cY, hitYv⟩ := hitY.v
    have HVY := Lib.hid hitYv
    obtain ⟨x0, hx0⟩ : ∃ x, xs.getD 0 0 = x := ⟨_, rfl⟩
    obtain ⟨z, hz⟩ : ∃ z, IntKind.i32.wrap (x0 + 1) = z := ⟨_, rfl⟩
    have hOC6 := OC.out.keep hb56
    obtain ⟨g, rfl, hg4, _, hgc, hgf, hgs, _⟩ := hOC6.at_ 0 (by omega)
    have hg5 : g < w5.heap.size := (OC.out.lt g rfl).2
    rw [hx0] at hgc
    have hb0 : (0 : Int) < (xs.length : Int) := by omega
    have hle0 : ((xs.length : Int) == 0) = false := beq_eq_false_iff_ne.2 (by omega)
    clear hrows1 hf0 hf1 hbn hitY hitYv hbY hOC6 hgs
    go_wp2_with fail
    obtain ⟨w7, hw7⟩ : ∃ W, w6.setCell ⟨g, 0, none⟩ (.int .i32 z) = W := ⟨_, rfl⟩
    have hX7 : Below w2.heap.size w2 w7 := by rw [← hw7]; exact below_set k2 (by omega) _ _
    have h37 : Below w3.heap.size w3 w7 := by rw [← hw7]; exact below_set k3 (by omega) _ _
    have hw7w : Below w.heap.size w w7 := by rw [← hw7]; exact below_set kw6 (by omega) _ _
    have hY7 : It w7 bY xs.length [xs] := by
      rw [← hw7]
      exact (HVY.out.only (only_set w6 g 0 _) fun k hk e => by have := (HVY.out.blk k hk).1; omega).it
    rw [hw7]
    have HY7 := Lib.hid hY7
    have HX7 := Lib.hid (HX2.out.below hX7)
    have HW7 := Lib.hid (OW.out.keep h37)
    have hbY7 := hY7.lt
    clear k2 k3 kw6 kw5 hw7 hX7 h37 hY7 hgc hgf
    refine (At_calls bX xs.length [xs, ys] 0 _ HX7.out (by simp)).mono ?_
    rintro e w8 ⟨v8, he, ho8, hb78⟩
    subst he
    obtain ⟨A8, c8, rfl, hc8, _⟩ := ho8.shape
    replace ho8 : Own w8 w7.heap.size 21 .i32 (.slice A8 xs.length c8) xs := ho8
    change xs.length ≤ c8 at hc8
    obtain ⟨g8, rfl, hg8, _, hg8c, hg8f, _, _⟩ := ho8.at_ 0 (by omega)
    rw [hx0] at hg8c
    have H78 := Lib.hid hb78
    have z78 := hb78.size
    clear ho8 hb78
    go_wp2_with fail
    obtain ⟨w9, hw9⟩ : ∃ W, w8.setCell ⟨g8, 0, none⟩ (.int .i32 z) = W := ⟨_, rfl⟩
    have h79 : Below w7.heap.size w7 w9 := by rw [← hw9]; exact below_set H78.out (by omega) _ _
    rw [hw9]
    have H79 := Lib.hid h79
    have z79 := h79.size
    have HX9 := Lib.hid (HX7.out.below h79)
    clear hw9 h79 hg8c hg8f
    refine (DAll_calls bX w9).mono ?_
    rintro e w10 ⟨he, hw10⟩
    subst he
    have hbn10 : Below w9.heap.size w9 w10 := by rw [hw10]; exact below_alloc1 (Below.refl _ _) _
    have bB10 : w10.heap[w9.heap.size]? = some (.cells #[.pointer (some ⟨bX, 0, none⟩)] 46 (0, 0)) := by rw [hw10]; exact heap_alloc_new _ _
    have z910 : w10.heap.size ≤ w9.heap.size + 1 ∧ w9.heap.size + 1 ≤ w10.heap.size := by rw [hw10]; simp
    have H910 := Lib.hid hbn10
    have HBB := Lib.hid bB10
    clear hw10 hbn10 bB10
    go_wp2_with fail
    refine (wpIn_wide (n := 5)).1 ?_
    refine wpIn_rangeD rfl (by omega) (gf := 59) (lb := #[.pointer (some ⟨w9.heap.size, 0, none⟩)]) rfl trivial (enters_of Try.func59 (by kernel_rfl) rfl)
      (ditems_iter _ w9.heap.size bX xs.length [xs, ys] w9 w10 H910.out HX9.out HBB.out)
      (fun k h => h.elim) (fun h k => Only.trans h k) (fun W l o o' hl _ _ => KpD.putObj (by omega) (by omega)) XD.putObj
      (fun xs A B h _ => h) (fun xs A B h _ => h) (fun _ => rfl)
      (fun pre W => Below w9.heap.size w9 W)
      (fun c pre W => False)
      (fun pre A B h hs => by
        have hs' : Only (fun k => k = w10.heap.size + 1) A B := Only.mono hs fun k _ h => h.elim (fun h => h.elim) fun h => h
        exact h.trans (hs'.below h.size fun k hk h => by omega)) (fun c pre A B h hs => h) H910.out ?a1 ?assign ?body ?done ?stop
    case assign =>
      intro l x W K hK
      gi_wp2
      exact hK
    case body =>
      clear HBB
      rintro l2 pre ⟨x1, B1, n1, c1⟩ A0 W hIW hlen hsz hIA hst ⟨hx1, hx2, hx3, hx4⟩
      simp only at hx1 hx2 hx3 hx4
      subst hx1 hx2
      have hrl := HX9.out.rowlen pre.length hlen
      obtain ⟨r, hr⟩ : ∃ r, ([xs, ys] : List (List Int)).getD pre.length [] = r := ⟨_, rfl⟩
      rw [hr] at hrl hx3 hx4 ⊢
      have hrl1 : 1 ≤ r.length := by omega
      clear hr hrl
      obtain ⟨g9, rfl, hg9, hg9l, hg9c, hg9f, _, _⟩ := hx4.at_ 0 (by omega)
      obtain ⟨y0, hy0⟩ : ∃ x, r.getD 0 0 = x := ⟨_, rfl⟩
      obtain ⟨z9, hz9⟩ : ∃ z, IntKind.i32.wrap (y0 + 1) = z := ⟨_, rfl⟩
      rw [hy0] at hg9c
      have br : (0 : Int) < (r.length : Int) := by omega
      obtain ⟨cs, t, fz, hcs⟩ := own_cells hx4 g9 rfl
      have HCS := Lib.hid hcs
      clear hx4 hst hcs hy0
      gi_wp2
      obtain ⟨WE, hWE⟩ : ∃ WE, W.setCell ⟨g9, 0, none⟩ (.int .i32 z9) = WE := ⟨_, rfl⟩
      rw [hWE]
      have hall : Only (fun b => b = g9) W WE := by rw [← hWE]; exact only_set _ _ _ _
      have hkf : KeepsFrom w10.heap.size W WE := ⟨hall.size, fun k o hk hh hc => hall.obj hh fun h => by
        subst h
        have h9 := HCS.out
        rw [hh] at h9
        injection h9 with h9
        rw [h9] at hc
        cases hc⟩
      exact ⟨hkf, hall.mono fun k _ h he => by rcases he with he | he <;> omega, hIW.trans (hall.below hIW.size fun k hk h => by omega)⟩
    case done =>
      rintro _ ps W rfl hps hIW hK
      clear HBB
      have z9W := hIW.size
      have h7W : Below w7.heap.size w7 W := H79.out.trans (hIW.mono z79)
      have HXW := Lib.hid (HX9.out.below hIW)
      have HYW := Lib.hid (HY7.out.below h7W)
      have HWW := Lib.hid (HW7.out.keep h7W)
      have z7W := h7W.size
      have hwW : Below w.heap.size w W := hw7w.trans (h7W.mono hw7w.size)
      have HK := Lib.hid hK
      clear hK h7W hIW
      go_wp2_with fail
      refine (At_calls bX xs.length [xs, ys] 0 _ HXW.out (by simp)).mono ?_
      rintro e w11 ⟨v11, he, ho11, hb11⟩
      subst he
      obtain ⟨A11, c11, rfl, _, _⟩ := ho11.shape
      have O11 := Lib.hid (show Own w11 W.heap.size 21 .i32 (.slice A11 xs.length c11) xs from ho11)
      have HY11 := Lib.hid (HYW.out.below hb11)
      have HW11 := Lib.hid (HWW.out.keep hb11)
      have hw11 := hwW.trans (hb11.mono hwW.size)
      have HK11 := Lib.hid (obj_below hb11 HK.out (obj_lt HK.out))
      clear ho11 hb11
      go_wp2_with fail
      refine (At_calls bY xs.length [xs] 0 _ HY11.out (by simp)).mono ?_
      rintro e w12 ⟨v12, he, ho12, hb12⟩
      subst he
      obtain ⟨A12, c12, rfl, _, _⟩ := ho12.shape
      have R12 := Lib.hid (show Rd w12 .i32 A12 xs from (show Own w12 w11.heap.size 21 .i32 (.slice A12 xs.length c12) xs from ho12).rd.2)
      have R11 := Lib.hid (O11.out.keep hb12).rd.2
      have RW := Lib.hid (HW11.out.keep hb12).rd.2
      have hw12 := hw11.trans (hb12.mono hw11.size)
      have HK12 := Lib.hid (obj_below hb12 HK11.out (obj_lt HK11.out))
      clear ho12 hb12
      go_wp2_with fail
      refine (refSame_calls A11 AW c11 cW xs xs _ R11.out RW.out).mono ?_
      rintro e _ ⟨he, q1, rfl⟩
      rw [decide_eq_true (rfl : xs = xs)] at he
      subst he
      go_wp2_with fail
      refine (refSame_calls A12 AW c12 cW xs xs _ (R12.out.drewN q1) (RW.out.drewN q1)).mono ?_
      rintro e _ ⟨he, q2, rfl⟩
      rw [decide_eq_true (rfl : xs = xs)] at he
      subst he
      go_wp2_with fail
      exact ⟨by simp, .inl ⟨_, _, rfl, run_takeDeferred (show (w12.drewN _).heap[w10.heap.size]? = _ from HK12.out), _, results_tmp rfl _ _ _, rfl, below_putObj4 (below_drewN hw12 _) (by omega) _⟩⟩
    case stop =>
      rintro b cc pre W _ _ h
      exact h.elim
  · obtain rfl := hf0 hf
    have hf' : (f != 0) = true := by simp [hf]
    clear hf0 hf1 hchk
    go_wp2_with fail
    exact ⟨_, results_tmp rfl _ _ _, rfl, hb2⟩
end Go.Proofs.Ytgjcajffkhjlbaa
