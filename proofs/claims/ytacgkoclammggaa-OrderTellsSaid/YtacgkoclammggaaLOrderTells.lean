
/-
  The statement OrderTells: the walk. Conditions: the numbers lie in their kinds' ranges.
-/
import Derived.Test.YtacgkoclammggaaStab8R
import Derived.Test.YtacgkoclammggaaLaw4
import Derived.Test.YtacgkoclammggaaOpenS
namespace Go.Proofs.Ytacgkoclammggaa
open Go.RowKit
set_option linter.unusedVariables false
set_option maxRecDepth 100000
set_option linter.unusedSimpArgs false

theorem cells_rtask : Try.prog.cellsOf 90 = 2 := by kernel_rfl
set_option maxRecDepth 1000000 in
theorem open_rtask {H : Type} {enc : TypeId × Value → H} {W : World} {held : Bool} {r : Reach} {b0 : Nat} {v : Value} {d : DataW H} {p : List MemPlace}
    (hv : Value.okWide Try.prog W r b0 90 v) (h : DataW.Trod enc Try.prog W 0 (fun _ => true) held 90 v d p) :
    ∃ a0 a1, v = .agg #[.int .i64 a0, .int .i64 a1] ∧ (Lit.int .i64 a0).wf = true ∧ (Lit.int .i64 a1).wf = true := by
  obtain ⟨c0, c1, y0, y1, n, rfl, _, _, hy0, hy1⟩ := Go.Joins.open_agg2 Try.underlying90 (by kernel_rfl) cells_rtask hv h
  obtain ⟨a0, rfl, h0⟩ := open_num Try.underlying2 hy0
  obtain ⟨a1, rfl, h1⟩ := open_num Try.underlying3 hy1
  exact ⟨a0, a1, rfl, h0, h1⟩
theorem aheadB_iff2 (a0 a1 b0 b1 : Int) : aheadB a0 a1 b0 b1 = true ↔ (b0 < a0 ∨ (a0 = b0 ∧ a1 < b1)) := by
  unfold aheadB orV cmpV
  rw [decide_eq_true_iff]
  repeat' split
  all_goals omega
theorem refAhead_calls (a0 a1 b0 b1 : Int) (w : World) : Calls Try.prog 59 #[.agg #[.int .i64 a0, .int .i64 a1], .agg #[.int .i64 b0, .int .i64 b1]] w fun e w' => e = .returned (.bool (aheadB a0 a1 b0 b1)) ∧ Below w.heap.size w w' := by
  obtain ⟨r, hr⟩ : ∃ r, aheadB a0 a1 b0 b1 = r := ⟨_, rfl⟩
  have hm := aheadB_iff2 a0 a1 b0 b1
  rw [hr] at hm ⊢
  have HM := Lib.hid hm
  clear hm hr
  by_cases h : a0 = b0
  · subst h
    have h' : (a0 != a0) = false := by simp
    obtain ⟨q, hq⟩ : ∃ q, decide (a1 < b1) = q := ⟨_, rfl⟩
    have hqr : q = r := by
      rw [← hq, Bool.eq_iff_iff, HM.out, decide_eq_true_iff]
      omega
    subst hqr
    go_enter Try.func59, Try.ntmps59
    go_wp2_with fail
    go_ret
    exact ⟨rfl, by repeat (first | exact Below.refl _ _ | apply below_drew1 | apply below_alloc1)⟩
  · have h' : (a0 != b0) = true := by simp [h]
    obtain ⟨q, hq⟩ : ∃ q, decide (b0 < a0) = q := ⟨_, rfl⟩
    have hqr : q = r := by
      rw [← hq, Bool.eq_iff_iff, HM.out, decide_eq_true_iff]
      omega
    subst hqr
    go_enter Try.func59, Try.ntmps59
    go_wp2_with fail
    go_ret
    exact ⟨rfl, by repeat (first | exact Below.refl _ _ | apply below_drew1 | apply below_alloc1)⟩
set_option maxHeartbeats 6400000 in
set_option maxRecDepth 1000000 in
theorem OrderTells_law (a0 a1 b0 b1 c0 c1 d0 d1 : Int) (A : Option Addr) (c : Nat) (l : List (Int × Int)) (w : World) (ha0 : (Lit.int .i64 a0).wf = true) (ha1 : (Lit.int .i64 a1).wf = true) (hb0 : (Lit.int .i64 b0).wf = true) (hb1 : (Lit.int .i64 b1).wf = true) (hc0 : (Lit.int .i64 c0).wf = true) (hc1 : (Lit.int .i64 c1).wf = true) (hd0 : (Lit.int .i64 d0).wf = true) (hd1 : (Lit.int .i64 d1).wf = true) (hcl : l.length ≤ c) (ha : RdP w .i64 .i64 A l) (hu : ∀ x ∈ l, (Lit.int .i64 x.1).wf = true ∧ (Lit.int .i64 x.2).wf = true) :
    Calls Try.prog 13 #[.agg #[.int .i64 a0, .int .i64 a1], .agg #[.int .i64 b0, .int .i64 b1], .agg #[.int .i64 c0, .int .i64 c1], .agg #[.int .i64 d0, .int .i64 d1], .slice A l.length c] w fun e w' => e = .returned (.bool true) ∧ Below w.heap.size w w' := by
  have KA := Lib.hid ha
  clear ha hu ha0 ha1 hb0 hb1 hc0 hc1 hd0 hd1
  obtain ⟨p, hp⟩ : ∃ p, nearB a0 a1 b0 b1 = p := ⟨_, rfl⟩
  obtain ⟨q, hq⟩ : ∃ q, aheadB c0 c1 d0 d1 = q := ⟨_, rfl⟩
  have HP := Lib.hid hp
  have HQ := Lib.hid hq
  clear hp hq
  obtain ⟨N, hN⟩ : ∃ N, l.length = N := ⟨_, rfl⟩
  have HN := Lib.hid hN
  rw [hN] at hcl ⊢
  clear hN
  obtain ⟨w1, hw1⟩ : ∃ W, (((w.alloc (.cells #[.int .i64 a0, .int .i64 a1] 41)).alloc (.cells #[.int .i64 b0, .int .i64 b1] 41)).alloc (.cells #[.int .i64 c0, .int .i64 c1] 90)).alloc (.cells #[.int .i64 d0, .int .i64 d1] 90) = W := ⟨_, rfl⟩
  have k1 : Below w.heap.size w w1 := by rw [← hw1]; exact below_alloc1 (below_alloc1 (below_alloc1 (below_alloc1 (Below.refl _ _) _) _) _) _
  have ba1 : w1.heap[w.heap.size]? = some (.cells #[.int .i64 a0, .int .i64 a1] 41 (0, 0)) := by
    rw [← hw1]
    exact obj_below ((((Below.refl _ _).alloc (Nat.le_refl _) _).alloc (by simp) _).alloc (by simp) _) (heap_alloc_new w _) (obj_lt (heap_alloc_new w _))
  have bb1 : w1.heap[w.heap.size + 1]? = some (.cells #[.int .i64 b0, .int .i64 b1] 41 (0, 0)) := by
    have h := heap_alloc_new (w.alloc (.cells #[.int .i64 a0, .int .i64 a1] 41)) (.cells #[.int .i64 b0, .int .i64 b1] 41)
    rw [← hw1]
    rw [World.size_alloc] at h
    exact obj_below (((Below.refl _ _).alloc (Nat.le_refl _) _).alloc (by simp) _) h (obj_lt h)
  have bc1 : w1.heap[w.heap.size + 1 + 1]? = some (.cells #[.int .i64 c0, .int .i64 c1] 90 (0, 0)) := by
    have h := heap_alloc_new ((w.alloc (.cells #[.int .i64 a0, .int .i64 a1] 41)).alloc (.cells #[.int .i64 b0, .int .i64 b1] 41)) (.cells #[.int .i64 c0, .int .i64 c1] 90)
    rw [← hw1]
    rw [World.size_alloc, World.size_alloc] at h
    exact obj_below ((Below.refl _ _).alloc (Nat.le_refl _) _) h (obj_lt h)
  have bd1 : w1.heap[w.heap.size + 1 + 1 + 1]? = some (.cells #[.int .i64 d0, .int .i64 d1] 90 (0, 0)) := by
    have h := heap_alloc_new (((w.alloc (.cells #[.int .i64 a0, .int .i64 a1] 41)).alloc (.cells #[.int .i64 b0, .int .i64 b1] 41)).alloc (.cells #[.int .i64 c0, .int .i64 c1] 90)) (.cells #[.int .i64 d0, .int .i64 d1] 90)
    rw [← hw1]
    rw [World.size_alloc, World.size_alloc, World.size_alloc] at h
    exact h
  by_cases h0 : 100 < N
  · have h0' : decide (100 < (N : Int)) = true := by simp; omega
    go_enter Try.func13, Try.ntmps13
    go_wp2_with fail
    (try rw [hw1])
    refine (awake4_calls _).mono ?_
    rintro e w2 ⟨he, hb2⟩
    subst he
    go_wp2_with fail
    go_ret
    exact ⟨rfl, k1.trans (hb2.mono k1.size)⟩
  have h0' : decide (100 < (N : Int)) = false := by simp; omega
  go_enter Try.func13, Try.ntmps13
  go_wp2_with fail
  (try rw [hw1])
  clear hw1
  refine (awake4_calls _).mono ?_
  rintro e w2 ⟨he, hb2⟩
  subst he
  have BW2 := Lib.hid (k1.trans (hb2.mono k1.size))
  have BA2 := Lib.hid (obj_below hb2 ba1 (obj_lt ba1))
  have BB2 := Lib.hid (obj_below hb2 bb1 (obj_lt bb1))
  have BC2 := Lib.hid (obj_below hb2 bc1 (obj_lt bc1))
  have BD2 := Lib.hid (obj_below hb2 bd1 (obj_lt bd1))
  have LA2 := Lib.hid ((KA.out.below k1).below hb2)
  clear k1 hb2 ba1 bb1 bc1 bd1 KA
  go_upto_region 6 with (first
    | (at_builtin; refine wpList_appF (q := 2) (f := twoR) _ rfl (.tmp 19) (.tmp 20) 49 41 rfl (.agg #[.int .i64 0, .int .i64 0]) 16 Try.underlying49 infoR rfl (by omega) (by omega) twoR_q twoR_one w2.heap.size (.slice (some ⟨w2.heap.size, 0, none⟩) 0 0) [] rfl A c l (by rw [HN.out]; rfl) (OwnF.empty_at _ _ _ _ rfl (Nat.le_refl _)) w2 (below_alloc1 (Below.refl _ _) _) (by rw [World.size_alloc]; omega) ((LA2.out.below (below_alloc1 (Below.refl _ _) _)).c) (by have := HN.out; simp; omega) ?_; intro vW w3 hown hgrow hbel hat hnil; rw [List.nil_append] at hown; obtain ⟨AW, cW, hvW, hcW⟩ := hown.shape; subst hvW; have HW1 := Lib.hid hown; have HB3 := Lib.hid hbel; clear hown hgrow hbel hat hnil))
  have BW3 := Lib.hid (BW2.out.trans (HB3.out.mono BW2.out.size))
  have BA3 := Lib.hid (obj_below HB3.out BA2.out (obj_lt BA2.out))
  have BB3 := Lib.hid (obj_below HB3.out BB2.out (obj_lt BB2.out))
  have BC3 := Lib.hid (obj_below HB3.out BC2.out (obj_lt BC2.out))
  have BD3 := Lib.hid (obj_below HB3.out BD2.out (obj_lt BD2.out))
  have LA3 := Lib.hid (LA2.out.below HB3.out)
  have hz := obj_lt BD3.out
  have hc0 : w3.cell? ⟨w.heap.size + 1 + 1, 0, none⟩ = some (.int .i64 c0) := by have h := BC3.out; simp [World.cell?, h]
  have hc1 : w3.cell? ⟨w.heap.size + 1 + 1, 1, none⟩ = some (.int .i64 c1) := by have h := BC3.out; simp [World.cell?, h]
  have hd0 : w3.cell? ⟨w.heap.size + 1 + 1 + 1, 0, none⟩ = some (.int .i64 d0) := by have h := BD3.out; simp [World.cell?, h]
  have hd1 : w3.cell? ⟨w.heap.size + 1 + 1 + 1, 1, none⟩ = some (.int .i64 d1) := by have h := BD3.out; simp [World.cell?, h]
  have gc0 := fun o => (World.cell?_alloc_lt (o := o) w3 _ (World.block_lt_of_cell? _ _ hc0)).trans hc0
  have Gc0 := fun o o' => (World.cell?_alloc_lt (o := o') (w3.alloc o) _ (World.block_lt_of_cell? _ _ (gc0 o))).trans (gc0 o)
  have gc1 := fun o => (World.cell?_alloc_lt (o := o) w3 _ (World.block_lt_of_cell? _ _ hc1)).trans hc1
  have Gc1 := fun o o' => (World.cell?_alloc_lt (o := o') (w3.alloc o) _ (World.block_lt_of_cell? _ _ (gc1 o))).trans (gc1 o)
  have gd0 := fun o => (World.cell?_alloc_lt (o := o) w3 _ (World.block_lt_of_cell? _ _ hd0)).trans hd0
  have Gd0 := fun o o' => (World.cell?_alloc_lt (o := o') (w3.alloc o) _ (World.block_lt_of_cell? _ _ (gd0 o))).trans (gd0 o)
  have gd1 := fun o => (World.cell?_alloc_lt (o := o) w3 _ (World.block_lt_of_cell? _ _ hd1)).trans hd1
  have Gd1 := fun o o' => (World.cell?_alloc_lt (o := o') (w3.alloc o) _ (World.block_lt_of_cell? _ _ (gd1 o))).trans (gd1 o)
  have n1 : ¬ w.heap.size + 1 + 1 = w3.heap.size := by omega
  have n2 : ¬ w.heap.size + 1 + 1 + 1 = w3.heap.size := by omega
  have n3 : ¬ w.heap.size + 1 + 1 = w3.heap.size + 1 := by omega
  have n4 : ¬ w.heap.size + 1 + 1 + 1 = w3.heap.size + 1 := by omega
  clear BW2 BA2 BB2 BC2 BD2 LA2 HB3
  go_cut [12, 13] (fun s12 s13 wx => ∃ g h, s12 = .pointer (some ⟨g, 0, none⟩) ∧ s13 = .pointer (some ⟨h, 0, none⟩) ∧ wx.heap[g]? = some (.cells #[.int .i64 c0, .int .i64 c1] 45 (0, 0)) ∧ wx.heap[h]? = some (.cells #[.int .i64 d0, .int .i64 d1] 45 (0, 0)) ∧ Below w3.heap.size w3 wx)
  case first =>
    go_region
    all_goals
      go_wp2_with fail
      go_meet
      have kbz := below_drew1 (below_alloc1 (below_alloc1 (Below.refl w3.heap.size w3) (.cells #[.int .i64 c0, .int .i64 c1] 45)) (.cells #[.int .i64 d0, .int .i64 d1] 45))
      have kby := below_drew1 (below_alloc1 (below_alloc1 (Below.refl w3.heap.size w3) (.cells #[.int .i64 d0, .int .i64 d1] 45)) (.cells #[.int .i64 c0, .int .i64 c1] 45))
      have h1 := obj_below (B := w3.heap.size + 1) ((Below.refl _ (w3.alloc (.cells #[.int .i64 c0, .int .i64 c1] 45))).alloc (by simp) (.cells #[.int .i64 d0, .int .i64 d1] 45)) (heap_alloc_new w3 (.cells #[.int .i64 c0, .int .i64 c1] 45)) (by omega)
      have h2 := heap_alloc_new (w3.alloc (.cells #[.int .i64 c0, .int .i64 c1] 45)) (.cells #[.int .i64 d0, .int .i64 d1] 45)
      have h3 := obj_below (B := w3.heap.size + 1) ((Below.refl _ (w3.alloc (.cells #[.int .i64 d0, .int .i64 d1] 45))).alloc (by simp) (.cells #[.int .i64 c0, .int .i64 c1] 45)) (heap_alloc_new w3 (.cells #[.int .i64 d0, .int .i64 d1] 45)) (by omega)
      have h4 := heap_alloc_new (w3.alloc (.cells #[.int .i64 d0, .int .i64 d1] 45)) (.cells #[.int .i64 c0, .int .i64 c1] 45)
      rw [World.size_alloc] at h2 h4
      first
        | exact ⟨_, _, rfl, rfl, h1, h2, kbz⟩
        | exact ⟨_, _, rfl, rfl, h4, h3, kby⟩
  obtain ⟨g, h, rfl, rfl, bx, by', k9⟩ := hcut
  obtain ⟨w4, hw4⟩ : ∃ W : World, wc = W := ⟨_, rfl⟩
  rw [hw4] at bx by' k9 ⊢
  clear hw4 hc0 hc1 hd0 hd1 gc0 gc1 gd0 gd1 Gc0 Gc1 Gd0 Gd1 n1 n2 n3 n4
  have ba4 := obj_below k9 BA3.out (obj_lt BA3.out)
  have bb4 := obj_below k9 BB3.out (obj_lt BB3.out)
  have bc4 := obj_below k9 BC3.out (obj_lt BC3.out)
  have bd4 := obj_below k9 BD3.out (obj_lt BD3.out)
  have e00 : w4.cell? ⟨w.heap.size, 0, none⟩ = some (.int .i64 a0) := by simp [World.cell?, ba4]
  have e01 : w4.cell? ⟨w.heap.size, 1, none⟩ = some (.int .i64 a1) := by simp [World.cell?, ba4]
  have e10 : w4.cell? ⟨w.heap.size + 1, 0, none⟩ = some (.int .i64 b0) := by simp [World.cell?, bb4]
  have e11 : w4.cell? ⟨w.heap.size + 1, 1, none⟩ = some (.int .i64 b1) := by simp [World.cell?, bb4]
  have e20 : w4.cell? ⟨g, 0, none⟩ = some (.int .i64 c0) := by simp [World.cell?, bx]
  have e21 : w4.cell? ⟨g, 1, none⟩ = some (.int .i64 c1) := by simp [World.cell?, bx]
  have e30 : w4.cell? ⟨h, 0, none⟩ = some (.int .i64 d0) := by simp [World.cell?, by']
  have e31 : w4.cell? ⟨h, 1, none⟩ = some (.int .i64 d1) := by simp [World.cell?, by']
  have e40 : w4.cell? ⟨w.heap.size + 1 + 1, 0, none⟩ = some (.int .i64 c0) := by simp [World.cell?, bc4]
  have e41 : w4.cell? ⟨w.heap.size + 1 + 1, 1, none⟩ = some (.int .i64 c1) := by simp [World.cell?, bc4]
  have e50 : w4.cell? ⟨w.heap.size + 1 + 1 + 1, 0, none⟩ = some (.int .i64 d0) := by simp [World.cell?, bd4]
  have e51 : w4.cell? ⟨w.heap.size + 1 + 1 + 1, 1, none⟩ = some (.int .i64 d1) := by simp [World.cell?, bd4]
  have BW4 := Lib.hid (BW3.out.trans (k9.mono BW3.out.size))
  have LA4 := Lib.hid (LA3.out.below k9)
  have OW4 := Lib.hid (HW1.out.keep k9)
  have hbs : Below w4.heap.size w4 w4 := Below.refl _ _
  obtain ⟨S, hS⟩ : ∃ S, sortI ltR (0, 0) l = S := ⟨_, rfl⟩
  have hSl : S.length = N := by rw [← hS, sortI_length, HN.out]
  have HSO := Lib.hid (show ∀ W, Below w4.heap.size w4 W → Calls Try.prog 60 #[.func (.func 29) #[] #[], .slice A N c] W fun e w' => ∃ v, e = .returned v ∧ OwnF w' W.heap.size 41 2 twoR v S ∧ Below W.heap.size W w' from fun W hW => by
    have h := SortSR_calls A c l W (LA4.out.below hW) (by rw [HN.out]; omega) (by simp [List.pairwise_iff_getElem])
    rw [HN.out, hS] at h
    exact h)
  have HRO := Lib.hid (show ∀ W, Below w4.heap.size w4 W → Calls Try.prog 35 #[.slice A N c] W fun e w' => ∃ v, e = .returned v ∧ OwnF w' W.heap.size 41 2 twoR v S ∧ Below W.heap.size W w' from fun W hW => by
    have h := SortR_calls A c l W (LA4.out.below hW) (by rw [HN.out]; omega)
    rw [HN.out, hS] at h
    exact h)
  have HSA := Lib.hid (show ∀ W A1 A2 c1 c2, RdP W .i64 .i64 A1 S → RdP W .i64 .i64 A2 S → Calls Try.prog 36 #[.slice A1 N c1, .slice A2 N c2] W fun e w' => e = .returned (.bool true) ∧ ∃ n, w' = W.drewN n from fun W A1 A2 c1 c2 h1 h2 => by
    have h := SameR_calls A1 A2 c1 c2 S S W h1 h2
    rw [decide_eq_true (rfl : S = S), hSl] at h
    exact h)
  have HSB := Lib.hid (show ∀ W, Below w4.heap.size w4 W → Calls Try.prog 36 #[.slice A N c, .slice AW N cW] W fun e w' => e = .returned (.bool true) ∧ ∃ n, w' = W.drewN n from fun W hW => by
    have h := SameR_calls A AW c cW l l W (LA4.out.below hW) ((OW4.out.keep hW).rdp rfl)
    rw [decide_eq_true (rfl : l = l), HN.out] at h
    exact h)
  have HSL := Lib.hid hSl
  rw [HN.out]
  clear hS hSl ba4 bb4 bc4 bd4 bx by' k9 BA3 BB3 BC3 BD3 LA3 BW3 HW1 hz
  go_wp2_with fail
  cases p <;> cases q
  all_goals
    first | go_region_held3 (fun w' => w'.cell? ⟨w.heap.size, 0, none⟩ = some (.int .i64 a0) ∧ w'.cell? ⟨w.heap.size, 1, none⟩ = some (.int .i64 a1) ∧ w'.cell? ⟨w.heap.size + 1, 0, none⟩ = some (.int .i64 b0) ∧ w'.cell? ⟨w.heap.size + 1, 1, none⟩ = some (.int .i64 b1) ∧ w'.cell? ⟨g, 0, none⟩ = some (.int .i64 c0) ∧ w'.cell? ⟨g, 1, none⟩ = some (.int .i64 c1) ∧ w'.cell? ⟨h, 0, none⟩ = some (.int .i64 d0) ∧ w'.cell? ⟨h, 1, none⟩ = some (.int .i64 d1) ∧ w'.cell? ⟨w.heap.size + 1 + 1, 0, none⟩ = some (.int .i64 c0) ∧ w'.cell? ⟨w.heap.size + 1 + 1, 1, none⟩ = some (.int .i64 c1) ∧ w'.cell? ⟨w.heap.size + 1 + 1 + 1, 0, none⟩ = some (.int .i64 d0) ∧ w'.cell? ⟨w.heap.size + 1 + 1 + 1, 1, none⟩ = some (.int .i64 d1) ∧ Below w4.heap.size w4 w')
      (first | exact ⟨cell_below (B := w4.heap.size) (w := w4) (by first | ((repeat (first | with_reducible assumption | with_reducible exact Below.refl _ _ | with_reducible apply below_drew1 | with_reducible apply below_alloc1 | with_reducible apply below_drewN)); done)) e00 (World.block_lt_of_cell? _ _ e00), cell_below (B := w4.heap.size) (w := w4) (by first | ((repeat (first | with_reducible assumption | with_reducible exact Below.refl _ _ | with_reducible apply below_drew1 | with_reducible apply below_alloc1 | with_reducible apply below_drewN)); done)) e01 (World.block_lt_of_cell? _ _ e01), cell_below (B := w4.heap.size) (w := w4) (by first | ((repeat (first | with_reducible assumption | with_reducible exact Below.refl _ _ | with_reducible apply below_drew1 | with_reducible apply below_alloc1 | with_reducible apply below_drewN)); done)) e10 (World.block_lt_of_cell? _ _ e10), cell_below (B := w4.heap.size) (w := w4) (by first | ((repeat (first | with_reducible assumption | with_reducible exact Below.refl _ _ | with_reducible apply below_drew1 | with_reducible apply below_alloc1 | with_reducible apply below_drewN)); done)) e11 (World.block_lt_of_cell? _ _ e11), cell_below (B := w4.heap.size) (w := w4) (by first | ((repeat (first | with_reducible assumption | with_reducible exact Below.refl _ _ | with_reducible apply below_drew1 | with_reducible apply below_alloc1 | with_reducible apply below_drewN)); done)) e20 (World.block_lt_of_cell? _ _ e20), cell_below (B := w4.heap.size) (w := w4) (by first | ((repeat (first | with_reducible assumption | with_reducible exact Below.refl _ _ | with_reducible apply below_drew1 | with_reducible apply below_alloc1 | with_reducible apply below_drewN)); done)) e21 (World.block_lt_of_cell? _ _ e21), cell_below (B := w4.heap.size) (w := w4) (by first | ((repeat (first | with_reducible assumption | with_reducible exact Below.refl _ _ | with_reducible apply below_drew1 | with_reducible apply below_alloc1 | with_reducible apply below_drewN)); done)) e30 (World.block_lt_of_cell? _ _ e30), cell_below (B := w4.heap.size) (w := w4) (by first | ((repeat (first | with_reducible assumption | with_reducible exact Below.refl _ _ | with_reducible apply below_drew1 | with_reducible apply below_alloc1 | with_reducible apply below_drewN)); done)) e31 (World.block_lt_of_cell? _ _ e31), cell_below (B := w4.heap.size) (w := w4) (by first | ((repeat (first | with_reducible assumption | with_reducible exact Below.refl _ _ | with_reducible apply below_drew1 | with_reducible apply below_alloc1 | with_reducible apply below_drewN)); done)) e40 (World.block_lt_of_cell? _ _ e40), cell_below (B := w4.heap.size) (w := w4) (by first | ((repeat (first | with_reducible assumption | with_reducible exact Below.refl _ _ | with_reducible apply below_drew1 | with_reducible apply below_alloc1 | with_reducible apply below_drewN)); done)) e41 (World.block_lt_of_cell? _ _ e41), cell_below (B := w4.heap.size) (w := w4) (by first | ((repeat (first | with_reducible assumption | with_reducible exact Below.refl _ _ | with_reducible apply below_drew1 | with_reducible apply below_alloc1 | with_reducible apply below_drewN)); done)) e50 (World.block_lt_of_cell? _ _ e50), cell_below (B := w4.heap.size) (w := w4) (by first | ((repeat (first | with_reducible assumption | with_reducible exact Below.refl _ _ | with_reducible apply below_drew1 | with_reducible apply below_alloc1 | with_reducible apply below_drewN)); done)) e51 (World.block_lt_of_cell? _ _ e51), (by first | ((repeat (first | with_reducible assumption | with_reducible exact Below.refl _ _ | with_reducible apply below_drew1 | with_reducible apply below_alloc1 | with_reducible apply below_drewN)); done))⟩ | go_keep)
      (first
        | (go_at_call 29; go_split_ands; (with_reducible refine (Nearer_calls a0 a1 b0 b1 _).mono ?_); rintro e w5 ⟨he, hbq⟩; rw [HP.out] at he; subst he; have hB5 : Below w4.heap.size w4 w5 := Below.after (by first | ((repeat (first | with_reducible assumption | with_reducible exact Below.refl _ _ | with_reducible apply below_drew1 | with_reducible apply below_alloc1 | with_reducible apply below_drewN)); done)) hbq)
        | (go_at_call 58; go_split_ands; (with_reducible refine (refNearer_calls a0 a1 b0 b1 _).mono ?_); rintro e w6 ⟨he, hbq⟩; rw [HP.out] at he; subst he; have hB6 : Below w4.heap.size w4 w6 := Below.after (by first | ((repeat (first | with_reducible assumption | with_reducible exact Below.refl _ _ | with_reducible apply below_drew1 | with_reducible apply below_alloc1 | with_reducible apply below_drewN)); done)) hbq)
        | (go_at_call 31; go_split_ands; (with_reducible refine (Ahead_calls c0 c1 d0 d1 _).mono ?_); rintro e w7 ⟨he, hbq⟩; rw [HQ.out] at he; subst he; have hB7 : Below w4.heap.size w4 w7 := Below.after (by first | ((repeat (first | with_reducible assumption | with_reducible exact Below.refl _ _ | with_reducible apply below_drew1 | with_reducible apply below_alloc1 | with_reducible apply below_drewN)); done)) hbq)
        | (go_at_call 59; go_split_ands; (with_reducible refine (refAhead_calls c0 c1 d0 d1 _).mono ?_); rintro e w8 ⟨he, hbq⟩; rw [HQ.out] at he; subst he; have hB8 : Below w4.heap.size w4 w8 := Below.after (by first | ((repeat (first | with_reducible assumption | with_reducible exact Below.refl _ _ | with_reducible apply below_drew1 | with_reducible apply below_alloc1 | with_reducible apply below_drewN)); done)) hbq)
        | (go_at_call 60; go_split_ands; (with_reducible refine Calls.mono (HSO.out _ ?_) ?_); (exact (by first | ((repeat (first | with_reducible assumption | with_reducible exact Below.refl _ _ | with_reducible apply below_drew1 | with_reducible apply below_alloc1 | with_reducible apply below_drewN)); done))); rintro e w9 ⟨v, he, hO9, hbq⟩; subst he; obtain ⟨A9, c9, hv9, _⟩ := hO9.shape; rw [HSL.out] at hv9; subst hv9; have hB9 : Below w4.heap.size w4 w9 := Below.after (by first | ((repeat (first | with_reducible assumption | with_reducible exact Below.refl _ _ | with_reducible apply below_drew1 | with_reducible apply below_alloc1 | with_reducible apply below_drewN)); done)) hbq; have HR9 := Lib.hid (hO9.rdp rfl))
        | (go_at_call 35; go_split_ands; (with_reducible refine Calls.mono (HRO.out _ ?_) ?_); (exact (by first | ((repeat (first | with_reducible assumption | with_reducible exact Below.refl _ _ | with_reducible apply below_drew1 | with_reducible apply below_alloc1 | with_reducible apply below_drewN)); done))); rintro e wz ⟨v, he, hOz, hbq⟩; subst he; obtain ⟨Az, cz, hvz, _⟩ := hOz.shape; rw [HSL.out] at hvz; subst hvz; have hbz : Below w9.heap.size w9 wz := Below.after (by first | ((repeat (first | with_reducible assumption | with_reducible exact Below.refl _ _ | with_reducible apply below_drew1 | with_reducible apply below_alloc1 | with_reducible apply below_drewN)); done)) hbq; have hBz : Below w4.heap.size w4 wz := hB9.trans (hbz.mono hB9.size); have HRz := Lib.hid (hOz.rdp rfl); have HR9z := Lib.hid (HR9.out.below hbz))
        | (go_at_call_of 36 (Value.slice AW N cW); go_split_ands; (with_reducible refine Calls.mono (HSB.out _ ?_) ?_); (exact (by first | ((repeat (first | with_reducible assumption | with_reducible exact Below.refl _ _ | with_reducible apply below_drew1 | with_reducible apply below_alloc1 | with_reducible apply below_drewN)); done))); rintro e _ ⟨he, qq, rfl⟩; subst he)
        | (go_at_call 36; go_split_ands; (with_reducible refine Calls.mono (HSA.out _ _ _ _ _ ?_ ?_) ?_); (exact HR9z.out.below (by first | ((repeat (first | with_reducible assumption | with_reducible exact Below.refl _ _ | with_reducible apply below_drew1 | with_reducible apply below_alloc1 | with_reducible apply below_drewN)); done))); (exact HRz.out.below (by first | ((repeat (first | with_reducible assumption | with_reducible exact Below.refl _ _ | with_reducible apply below_drew1 | with_reducible apply below_alloc1 | with_reducible apply below_drewN)); done))); rintro e _ ⟨he, qq, rfl⟩; subst he)) | fail "held"
  all_goals
    go_wp2_with fail
    go_ret
    refine ⟨rfl, BW4.out.trans (Below.mono ?_ BW4.out.size)⟩
    repeat (first | with_reducible assumption | with_reducible apply below_drew1 | with_reducible apply below_drewN)
end Go.Proofs.Ytacgkoclammggaa
