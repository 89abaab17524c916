/-
  The statement OrderTotal: the walk. Conditions: the numbers lie in their kinds' ranges.
-/
import Derived.Test.YtacgkoclammggaaLaw4
import Derived.Test.YtacgkoclammggaaOpenS
import Derived.BigRegion
namespace Go.Proofs.Ytacgkoclammggaa
open Go.RowKit
set_option linter.unusedVariables false
set_option linter.unusedSimpArgs false

theorem nearB_iff (a0 a1 b0 b1 : Int) : nearB a0 a1 b0 b1 = true ↔ (a1 < b1 ∨ (a1 = b1 ∧ a0 < b0)) := by
  unfold nearB orV cmpV
  rw [decide_eq_true_iff]
  repeat' split
  all_goals omega
theorem aheadB_iff (a0 a1 b0 b1 : Int) : aheadB a0 a1 b0 b1 = true ↔ (b0 < a0 ∨ (a0 = b0 ∧ a1 < b1)) := by
  unfold aheadB orV cmpV
  rw [decide_eq_true_iff]
  repeat' split
  all_goals omega
/-- what Compare of an order tells: the other way round it is the other sign; 0 just of the same. -/
theorem three {X Y E : Bool} (h1 : ¬ (X = true ∧ Y = true)) (h2 : E = true ↔ (X = false ∧ Y = false)) :
    ∃ n m : Int, (if X then -1 else if Y then 1 else 0) = n ∧ (if Y then -1 else if X then 1 else 0) = m ∧ IntKind.i64.wrap (-m) = n ∧ (n == 0) = E := by
  cases X <;> cases Y <;> cases E <;> simp at h1 h2 ⊢ <;> decide
theorem eqRes (a0 a1 b0 b1 : Int) (t : Nat) : True := trivial
set_option maxHeartbeats 6400000 in
set_option maxRecDepth 100000 in
theorem OrderTotal_law (a0 a1 b0 b1 c0 c1 : Int) (w : World) (ha0 : (Lit.int .i64 a0).wf = true) (ha1 : (Lit.int .i64 a1).wf = true) (hb0 : (Lit.int .i64 b0).wf = true) (hb1 : (Lit.int .i64 b1).wf = true) (hc0 : (Lit.int .i64 c0).wf = true) (hc1 : (Lit.int .i64 c1).wf = true) :
    Calls Try.prog 6 #[.agg #[.int .i64 a0, .int .i64 a1], .agg #[.int .i64 b0, .int .i64 b1], .agg #[.int .i64 c0, .int .i64 c1]] w fun e w' => e = .returned (.bool true) ∧ Below w.heap.size w w' := by
  clear ha0 ha1 hb0 hb1 hc0 hc1
  obtain ⟨X, hX⟩ : ∃ X, nearB a0 a1 b0 b1 = X := ⟨_, rfl⟩
  obtain ⟨Y, hY⟩ : ∃ Y, nearB b0 b1 a0 a1 = Y := ⟨_, rfl⟩
  obtain ⟨V, hV⟩ : ∃ V, nearB b0 b1 c0 c1 = V := ⟨_, rfl⟩
  obtain ⟨P, hP⟩ : ∃ P, aheadB a1 a0 b1 b0 = P := ⟨_, rfl⟩
  obtain ⟨Q, hQ⟩ : ∃ Q, aheadB b1 b0 a1 a0 = Q := ⟨_, rfl⟩
  obtain ⟨E, hE⟩ : ∃ E : Bool, decide (a0 = b0 ∧ a1 = b1) = E := ⟨_, rfl⟩
  have iX := nearB_iff a0 a1 b0 b1
  have iY := nearB_iff b0 b1 a0 a1
  have iV := nearB_iff b0 b1 c0 c1
  have iU := nearB_iff a0 a1 c0 c1
  have iA := nearB_iff a0 a1 a0 a1
  have iP := aheadB_iff a1 a0 b1 b0
  have iQ := aheadB_iff b1 b0 a1 a0
  have iB := aheadB_iff a1 a0 a1 a0
  rw [hX] at iX
  rw [hY] at iY
  rw [hV] at iV
  rw [hP] at iP
  rw [hQ] at iQ
  have iE : E = true ↔ (a0 = b0 ∧ a1 = b1) := by rw [← hE]; exact decide_eq_true_iff
  have eA : nearB a0 a1 a0 a1 = false := Bool.eq_false_iff.2 fun h => by have := iA.1 h; omega
  have eB : aheadB a1 a0 a1 a0 = false := Bool.eq_false_iff.2 fun h => by have := iB.1 h; omega
  have nt : ∀ {B : Bool} {p : Prop}, (B = true ↔ p) → (B = false ↔ ¬ p) := fun {B p} h => by rw [← h]; cases B <;> simp
  obtain ⟨n, m, hn, hm, hw, hz⟩ := three (X := X) (Y := Y) (E := E) (by rw [iX, iY]; omega) (by rw [iE, nt iX, nt iY]; omega)
  obtain ⟨k, j, hk, hj, hv, hy⟩ := three (X := P) (Y := Q) (E := E) (by rw [iP, iQ]; omega) (by rw [iE, nt iP, nt iQ]; omega)
  have hU : X = true → V = true → nearB a0 a1 c0 c1 = true := fun x v => by
    rw [iU]
    have := iX.1 x
    have := iV.1 v
    omega
  have EX := Lib.hid hX
  have EY := Lib.hid hY
  have EV := Lib.hid hV
  have EP := Lib.hid hP
  have EQ := Lib.hid hQ
  have EN := Lib.hid hn
  have EM := Lib.hid hm
  have EK := Lib.hid hk
  have EJ := Lib.hid hj
  have EA := Lib.hid eA
  have EB := Lib.hid eB
  have EU := Lib.hid hU
  have EE := Lib.hid hE
  clear hX hY hV hP hQ hE iX iY iV iU iA iP iQ iB iE eA eB nt hn hm hk hj hU
  go_enter Try.func6, Try.ntmps6
  go_wp2_with fail
  obtain ⟨w1, hw1⟩ : ∃ W, ((w.alloc (.cells #[.int .i64 a0, .int .i64 a1] 41)).alloc (.cells #[.int .i64 b0, .int .i64 b1] 41)).alloc (.cells #[.int .i64 c0, .int .i64 c1] 41) = W := ⟨_, rfl⟩
  rw [hw1]
  have k1 : Below w.heap.size w w1 := by rw [← hw1]; exact below_alloc1 (below_alloc1 (below_alloc1 (Below.refl _ _) _) _) _
  have ba := heap_alloc_new w (.cells #[.int .i64 a0, .int .i64 a1] 41)
  have bb := heap_alloc_new (w.alloc (.cells #[.int .i64 a0, .int .i64 a1] 41)) (.cells #[.int .i64 b0, .int .i64 b1] 41)
  have bc := heap_alloc_new ((w.alloc (.cells #[.int .i64 a0, .int .i64 a1] 41)).alloc (.cells #[.int .i64 b0, .int .i64 b1] 41)) (.cells #[.int .i64 c0, .int .i64 c1] 41)
  rw [World.size_alloc] at bb
  rw [World.size_alloc, World.size_alloc] at bc
  have ba1 : w1.heap[w.heap.size]? = some (.cells #[.int .i64 a0, .int .i64 a1] 41 (0, 0)) := by rw [← hw1]; exact obj_below (((Below.refl _ _).alloc (Nat.le_refl _) _).alloc (by simp) _) ba (obj_lt ba)
  have bb1 : w1.heap[w.heap.size + 1]? = some (.cells #[.int .i64 b0, .int .i64 b1] 41 (0, 0)) := by rw [← hw1]; exact obj_below ((Below.refl _ _).alloc (Nat.le_refl _) _) bb (obj_lt bb)
  have bc1 : w1.heap[w.heap.size + 1 + 1]? = some (.cells #[.int .i64 c0, .int .i64 c1] 41 (0, 0)) := by rw [← hw1]; exact bc
  clear hw1 ba bb bc
  refine (awake4_calls _).mono ?_
  rintro e w2 ⟨he, hbn⟩
  subst he
  have k2 := k1.trans (hbn.mono k1.size)
  have ba1 := obj_below hbn ba1 (obj_lt ba1)
  have bb1 := obj_below hbn bb1 (obj_lt bb1)
  have bc1 := obj_below hbn bc1 (obj_lt bc1)
  clear hbn k1
  have ha0 : w2.cell? ⟨w.heap.size, 0, none⟩ = some (.int .i64 a0) := by simp [World.cell?, ba1]
  have ha1 : w2.cell? ⟨w.heap.size, 1, none⟩ = some (.int .i64 a1) := by simp [World.cell?, ba1]
  have hb0 : w2.cell? ⟨w.heap.size + 1, 0, none⟩ = some (.int .i64 b0) := by simp [World.cell?, bb1]
  have hb1 : w2.cell? ⟨w.heap.size + 1, 1, none⟩ = some (.int .i64 b1) := by simp [World.cell?, bb1]
  have hc0 : w2.cell? ⟨w.heap.size + 1 + 1, 0, none⟩ = some (.int .i64 c0) := by simp [World.cell?, bc1]
  have hc1 : w2.cell? ⟨w.heap.size + 1 + 1, 1, none⟩ = some (.int .i64 c1) := by simp [World.cell?, bc1]
  have hbs : Below w2.heap.size w2 w2 := Below.refl _ _
  go_wp2_with fail
  go_region_held3 (fun w' => w'.cell? ⟨w.heap.size, 0, none⟩ = some (.int .i64 a0) ∧ w'.cell? ⟨w.heap.size, 1, none⟩ = some (.int .i64 a1) ∧ w'.cell? ⟨w.heap.size + 1, 0, none⟩ = some (.int .i64 b0) ∧ w'.cell? ⟨w.heap.size + 1, 1, none⟩ = some (.int .i64 b1) ∧ Below w2.heap.size w2 w')
    (first | exact ⟨cell_below (B := w2.heap.size) (w := w2) (by repeat (first | assumption | exact Below.refl _ _ | apply below_drew1 | apply below_alloc1)) ha0 (World.block_lt_of_cell? _ _ ha0), cell_below (B := w2.heap.size) (w := w2) (by repeat (first | assumption | exact Below.refl _ _ | apply below_drew1 | apply below_alloc1)) ha1 (World.block_lt_of_cell? _ _ ha1), cell_below (B := w2.heap.size) (w := w2) (by repeat (first | assumption | exact Below.refl _ _ | apply below_drew1 | apply below_alloc1)) hb0 (World.block_lt_of_cell? _ _ hb0), cell_below (B := w2.heap.size) (w := w2) (by repeat (first | assumption | exact Below.refl _ _ | apply below_drew1 | apply below_alloc1)) hb1 (World.block_lt_of_cell? _ _ hb1), (by repeat (first | assumption | exact Below.refl _ _ | apply below_drew1 | apply below_alloc1))⟩ | go_keep)
    (first
      | (go_at_call 28; go_split_ands; (with_reducible refine (CompareR_calls a0 a1 b0 b1 _).mono ?_); rintro e w3 ⟨he, hbn⟩; rw [EX.out, EY.out, EN.out] at he; subst he; have hB3 : Below w2.heap.size w2 w3 := Below.after (by repeat (first | assumption | exact Below.refl _ _ | apply below_drew1 | apply below_alloc1)) hbn)
      | (go_at_call 28; go_split_ands; (with_reducible refine (CompareR_calls b0 b1 a0 a1 _).mono ?_); rintro e w4 ⟨he, hbn⟩; rw [EX.out, EY.out, EM.out] at he; subst he; have hB4 : Below w2.heap.size w2 w4 := Below.after (by repeat (first | assumption | exact Below.refl _ _ | apply below_drew1 | apply below_alloc1)) hbn))
  have k4 := k2.trans (hB4.mono k2.size)
  have hbn := hB4
  have ba1 := obj_below hbn ba1 (obj_lt ba1)
  have bb1 := obj_below hbn bb1 (obj_lt bb1)
  have bc1 := obj_below hbn bc1 (obj_lt bc1)
  clear ha0 ha1 hb0 hb1 hc0 hc1
  have ha0 : w4.cell? ⟨w.heap.size, 0, none⟩ = some (.int .i64 a0) := by simp [World.cell?, ba1]
  have ha1 : w4.cell? ⟨w.heap.size, 1, none⟩ = some (.int .i64 a1) := by simp [World.cell?, ba1]
  have hb0 : w4.cell? ⟨w.heap.size + 1, 0, none⟩ = some (.int .i64 b0) := by simp [World.cell?, bb1]
  have hb1 : w4.cell? ⟨w.heap.size + 1, 1, none⟩ = some (.int .i64 b1) := by simp [World.cell?, bb1]
  have hc0 : w4.cell? ⟨w.heap.size + 1 + 1, 0, none⟩ = some (.int .i64 c0) := by simp [World.cell?, bc1]
  have hc1 : w4.cell? ⟨w.heap.size + 1 + 1, 1, none⟩ = some (.int .i64 c1) := by simp [World.cell?, bc1]
  clear hbn hB4 k2 hbs
  have tnn : (n != n) = false := by simp
  have KF := Lib.hid (show Below w.heap.size w w4 from k4)
  clear k4
  go_upto_region 4 with fail
  go_cut [37] (fun s37 wx => s37 = .bool false ∧ Below w.heap.size w wx ∧ wx.heap[w.heap.size]? = some (.cells #[.int .i64 a0, .int .i64 a1] 41 (0, 0)) ∧ wx.heap[w.heap.size + 1]? = some (.cells #[.int .i64 b0, .int .i64 b1] 41 (0, 0)) ∧ wx.heap[w.heap.size + 1 + 1]? = some (.cells #[.int .i64 c0, .int .i64 c1] 41 (0, 0)))
  case first =>
    rcases (by by_cases h0 : a0 = b0 <;> by_cases h1 : a1 = b1 <;> simp [h0, h1] : (a0 = b0 ∧ a1 = b1) ∨ ¬ a0 = b0 ∨ (a0 = b0 ∧ ¬ a1 = b1)) with hc | hc | hc
    · obtain ⟨rfl, rfl⟩ : a0 = b0 ∧ a1 = b1 := hc
      obtain rfl : E = true := by rw [← EE.out]; simp
      go_wp2_with fail
      refine (Nearer_calls a0 a1 a0 a1 _).mono ?_
      rintro e w5 ⟨he, hbn⟩
      rw [EA.out] at he
      subst he
      go_wp2_with fail
      go_meet
      exact ⟨rfl, KF.out.trans (hbn.mono KF.out.size), obj_below hbn ba1 (obj_lt ba1), obj_below hbn bb1 (obj_lt bb1), obj_below hbn bc1 (obj_lt bc1)⟩
    · obtain rfl : E = false := by rw [← EE.out]; simp [hc]
      have nc0 : ¬ b0 = a0 := fun h => hc h.symm
      go_wp2_with fail
      refine (Nearer_calls a0 a1 a0 a1 _).mono ?_
      rintro e w5 ⟨he, hbn⟩
      rw [EA.out] at he
      subst he
      go_wp2_with fail
      go_meet
      exact ⟨rfl, KF.out.trans (hbn.mono KF.out.size), obj_below hbn ba1 (obj_lt ba1), obj_below hbn bb1 (obj_lt bb1), obj_below hbn bc1 (obj_lt bc1)⟩
    · obtain ⟨rfl, hc⟩ : a0 = b0 ∧ ¬ a1 = b1 := hc
      obtain rfl : E = false := by rw [← EE.out]; simp [hc]
      have nc1 : ¬ b1 = a1 := fun h => hc h.symm
      go_wp2_with fail
      refine (Nearer_calls a0 a1 a0 a1 _).mono ?_
      rintro e w5 ⟨he, hbn⟩
      rw [EA.out] at he
      subst he
      go_wp2_with fail
      go_meet
      exact ⟨rfl, KF.out.trans (hbn.mono KF.out.size), obj_below hbn ba1 (obj_lt ba1), obj_below hbn bb1 (obj_lt bb1), obj_below hbn bc1 (obj_lt bc1)⟩
  case rest =>
    obtain ⟨rfl, k5, ba5, bb5, bc5⟩ := hcut
    clear KF ha0 ha1 hb0 hb1 hc0 hc1 ba1 bb1 bc1
    have ha0 : wc.cell? ⟨w.heap.size, 0, none⟩ = some (.int .i64 a0) := by simp [World.cell?, ba5]
    have ha1 : wc.cell? ⟨w.heap.size, 1, none⟩ = some (.int .i64 a1) := by simp [World.cell?, ba5]
    have hb0 : wc.cell? ⟨w.heap.size + 1, 0, none⟩ = some (.int .i64 b0) := by simp [World.cell?, bb5]
    have hb1 : wc.cell? ⟨w.heap.size + 1, 1, none⟩ = some (.int .i64 b1) := by simp [World.cell?, bb5]
    have hc0 : wc.cell? ⟨w.heap.size + 1 + 1, 0, none⟩ = some (.int .i64 c0) := by simp [World.cell?, bc5]
    have hc1 : wc.cell? ⟨w.heap.size + 1 + 1, 1, none⟩ = some (.int .i64 c1) := by simp [World.cell?, bc5]
    go_upto_region 6 with fail
    go_cut [51] (fun s51 wx => s51 = .bool false ∧ Below w.heap.size w wx ∧ wx.heap[w.heap.size]? = some (.cells #[.int .i64 a0, .int .i64 a1] 41 (0, 0)) ∧ wx.heap[w.heap.size + 1]? = some (.cells #[.int .i64 b0, .int .i64 b1] 41 (0, 0)) ∧ wx.heap[w.heap.size + 1 + 1]? = some (.cells #[.int .i64 c0, .int .i64 c1] 41 (0, 0)))
    case first =>
      have kwc := k5
      have bawc := ba5
      have bbwc := bb5
      have bcwc := bc5
      go_wp2_with fail
      refine (Nearer_calls a0 a1 b0 b1 _).mono ?_
      rintro e w6 ⟨he, hbn⟩
      rw [EX.out] at he
      subst he
      have kw6 : Below w.heap.size w w6 := kwc.trans (hbn.mono kwc.size)
      have baw6 := obj_below hbn bawc (obj_lt bawc)
      have bbw6 := obj_below hbn bbwc (obj_lt bbwc)
      have bcw6 := obj_below hbn bcwc (obj_lt bcwc)
      clear hbn ha0 ha1 hb0 hb1 hc0 hc1
      have ha0 : w6.cell? ⟨w.heap.size, 0, none⟩ = some (.int .i64 a0) := by simp [World.cell?, baw6]
      have ha1 : w6.cell? ⟨w.heap.size, 1, none⟩ = some (.int .i64 a1) := by simp [World.cell?, baw6]
      have hb0 : w6.cell? ⟨w.heap.size + 1, 0, none⟩ = some (.int .i64 b0) := by simp [World.cell?, bbw6]
      have hb1 : w6.cell? ⟨w.heap.size + 1, 1, none⟩ = some (.int .i64 b1) := by simp [World.cell?, bbw6]
      have hc0 : w6.cell? ⟨w.heap.size + 1 + 1, 0, none⟩ = some (.int .i64 c0) := by simp [World.cell?, bcw6]
      have hc1 : w6.cell? ⟨w.heap.size + 1 + 1, 1, none⟩ = some (.int .i64 c1) := by simp [World.cell?, bcw6]
      cases X with
      | false =>
        go_wp2_with fail
        go_meet
        exact ⟨rfl, kw6, baw6, bbw6, bcw6⟩
      | true =>
        go_wp2_with fail
        refine (Nearer_calls b0 b1 c0 c1 _).mono ?_
        rintro e w7 ⟨he, hbn⟩
        rw [EV.out] at he
        subst he
        have kw7 : Below w.heap.size w w7 := kw6.trans (hbn.mono kw6.size)
        have baw7 := obj_below hbn baw6 (obj_lt baw6)
        have bbw7 := obj_below hbn bbw6 (obj_lt bbw6)
        have bcw7 := obj_below hbn bcw6 (obj_lt bcw6)
        clear hbn ha0 ha1 hb0 hb1 hc0 hc1
        have ha0 : w7.cell? ⟨w.heap.size, 0, none⟩ = some (.int .i64 a0) := by simp [World.cell?, baw7]
        have ha1 : w7.cell? ⟨w.heap.size, 1, none⟩ = some (.int .i64 a1) := by simp [World.cell?, baw7]
        have hb0 : w7.cell? ⟨w.heap.size + 1, 0, none⟩ = some (.int .i64 b0) := by simp [World.cell?, bbw7]
        have hb1 : w7.cell? ⟨w.heap.size + 1, 1, none⟩ = some (.int .i64 b1) := by simp [World.cell?, bbw7]
        have hc0 : w7.cell? ⟨w.heap.size + 1 + 1, 0, none⟩ = some (.int .i64 c0) := by simp [World.cell?, bcw7]
        have hc1 : w7.cell? ⟨w.heap.size + 1 + 1, 1, none⟩ = some (.int .i64 c1) := by simp [World.cell?, bcw7]
        cases V with
        | false =>
          go_wp2_with fail
          go_meet
          exact ⟨rfl, kw7, baw7, bbw7, bcw7⟩
        | true =>
          have EU2 := Lib.hid (EU.out (by simp) (by simp))
          go_wp2_with fail
          refine (Nearer_calls a0 a1 c0 c1 _).mono ?_
          rintro e w8 ⟨he, hbn⟩
          rw [EU2.out] at he
          subst he
          have kw8 : Below w.heap.size w w8 := kw7.trans (hbn.mono kw7.size)
          have baw8 := obj_below hbn baw7 (obj_lt baw7)
          have bbw8 := obj_below hbn bbw7 (obj_lt bbw7)
          have bcw8 := obj_below hbn bcw7 (obj_lt bcw7)
          clear hbn ha0 ha1 hb0 hb1 hc0 hc1
          have ha0 : w8.cell? ⟨w.heap.size, 0, none⟩ = some (.int .i64 a0) := by simp [World.cell?, baw8]
          have ha1 : w8.cell? ⟨w.heap.size, 1, none⟩ = some (.int .i64 a1) := by simp [World.cell?, baw8]
          have hb0 : w8.cell? ⟨w.heap.size + 1, 0, none⟩ = some (.int .i64 b0) := by simp [World.cell?, bbw8]
          have hb1 : w8.cell? ⟨w.heap.size + 1, 1, none⟩ = some (.int .i64 b1) := by simp [World.cell?, bbw8]
          have hc0 : w8.cell? ⟨w.heap.size + 1 + 1, 0, none⟩ = some (.int .i64 c0) := by simp [World.cell?, bcw8]
          have hc1 : w8.cell? ⟨w.heap.size + 1 + 1, 1, none⟩ = some (.int .i64 c1) := by simp [World.cell?, bcw8]
          go_wp2_with fail
          go_meet
          exact ⟨rfl, kw8, baw8, bbw8, bcw8⟩
    case rest =>
      obtain ⟨rfl, k6, ba6, bb6, bc6⟩ := hcut
      clear k5 ba5 bb5 bc5 ha0 ha1 hb0 hb1 hc0 hc1
      have ha0 : wc.cell? ⟨w.heap.size, 0, none⟩ = some (.int .i64 a0) := by simp [World.cell?, ba6]
      have ha1 : wc.cell? ⟨w.heap.size, 1, none⟩ = some (.int .i64 a1) := by simp [World.cell?, ba6]
      have hb0 : wc.cell? ⟨w.heap.size + 1, 0, none⟩ = some (.int .i64 b0) := by simp [World.cell?, bb6]
      have hb1 : wc.cell? ⟨w.heap.size + 1, 1, none⟩ = some (.int .i64 b1) := by simp [World.cell?, bb6]
      have hc0 : wc.cell? ⟨w.heap.size + 1 + 1, 0, none⟩ = some (.int .i64 c0) := by simp [World.cell?, bc6]
      have hc1 : wc.cell? ⟨w.heap.size + 1 + 1, 1, none⟩ = some (.int .i64 c1) := by simp [World.cell?, bc6]
      have ga0 := fun o => (World.cell?_alloc_lt (o := o) wc _ (World.block_lt_of_cell? _ _ ha0)).trans ha0
      have Ga0 := fun o o' => (World.cell?_alloc_lt (o := o') (wc.alloc o) _ (World.block_lt_of_cell? _ _ (ga0 o))).trans (ga0 o)
      have ga1 := fun o => (World.cell?_alloc_lt (o := o) wc _ (World.block_lt_of_cell? _ _ ha1)).trans ha1
      have Ga1 := fun o o' => (World.cell?_alloc_lt (o := o') (wc.alloc o) _ (World.block_lt_of_cell? _ _ (ga1 o))).trans (ga1 o)
      have gb0 := fun o => (World.cell?_alloc_lt (o := o) wc _ (World.block_lt_of_cell? _ _ hb0)).trans hb0
      have Gb0 := fun o o' => (World.cell?_alloc_lt (o := o') (wc.alloc o) _ (World.block_lt_of_cell? _ _ (gb0 o))).trans (gb0 o)
      have gb1 := fun o => (World.cell?_alloc_lt (o := o) wc _ (World.block_lt_of_cell? _ _ hb1)).trans hb1
      have Gb1 := fun o o' => (World.cell?_alloc_lt (o := o') (wc.alloc o) _ (World.block_lt_of_cell? _ _ (gb1 o))).trans (gb1 o)
      have hlw : w.heap.size + 1 < wc.heap.size := obj_lt bb6
      have n1 : ¬ w.heap.size = wc.heap.size := by omega
      have n2 : ¬ w.heap.size + 1 = wc.heap.size := by omega
      have n3 : ¬ w.heap.size = wc.heap.size + 1 := by omega
      go_upto_region 8 with fail
      go_cut [9, 10] (fun s9 s10 wx => ∃ g h, s9 = .pointer (some ⟨g, 0, none⟩) ∧ s10 = .pointer (some ⟨h, 0, none⟩) ∧ wx.heap[g]? = some (.cells #[.int .i64 a1, .int .i64 a0] 45 (0, 0)) ∧ wx.heap[h]? = some (.cells #[.int .i64 b1, .int .i64 b0] 45 (0, 0)) ∧ Below w.heap.size w wx)
      case first =>
        go_region
        all_goals
          go_wp2_with fail
          go_meet
          have kbz := k6.trans ((below_drew1 (below_alloc1 (below_alloc1 (Below.refl wc.heap.size wc) (.cells #[.int .i64 a1, .int .i64 a0] 45)) (.cells #[.int .i64 b1, .int .i64 b0] 45))).mono k6.size)
          have kby := k6.trans ((below_drew1 (below_alloc1 (below_alloc1 (Below.refl wc.heap.size wc) (.cells #[.int .i64 b1, .int .i64 b0] 45)) (.cells #[.int .i64 a1, .int .i64 a0] 45))).mono k6.size)
          have h1 := obj_below (B := wc.heap.size + 1) ((Below.refl _ (wc.alloc (.cells #[.int .i64 a1, .int .i64 a0] 45))).alloc (by simp) (.cells #[.int .i64 b1, .int .i64 b0] 45)) (heap_alloc_new wc (.cells #[.int .i64 a1, .int .i64 a0] 45)) (by omega)
          have h2 := heap_alloc_new (wc.alloc (.cells #[.int .i64 a1, .int .i64 a0] 45)) (.cells #[.int .i64 b1, .int .i64 b0] 45)
          have h3 := obj_below (B := wc.heap.size + 1) ((Below.refl _ (wc.alloc (.cells #[.int .i64 b1, .int .i64 b0] 45))).alloc (by simp) (.cells #[.int .i64 a1, .int .i64 a0] 45)) (heap_alloc_new wc (.cells #[.int .i64 b1, .int .i64 b0] 45)) (by omega)
          have h4 := heap_alloc_new (wc.alloc (.cells #[.int .i64 b1, .int .i64 b0] 45)) (.cells #[.int .i64 a1, .int .i64 a0] 45)
          rw [World.size_alloc] at h2 h4
          first
            | exact ⟨_, _, rfl, rfl, h1, h2, kbz⟩
            | exact ⟨_, _, rfl, rfl, h4, h3, kby⟩
      case rest =>
        obtain ⟨g, h, rfl, rfl, bx, by', k9⟩ := hcut
        have hx0 : wc.cell? ⟨g, 0, none⟩ = some (.int .i64 a1) := by simp [World.cell?, bx]
        have hx1 : wc.cell? ⟨g, 1, none⟩ = some (.int .i64 a0) := by simp [World.cell?, bx]
        have hy0 : wc.cell? ⟨h, 0, none⟩ = some (.int .i64 b1) := by simp [World.cell?, by']
        have hy1 : wc.cell? ⟨h, 1, none⟩ = some (.int .i64 b0) := by simp [World.cell?, by']
        have hbs : Below wc.heap.size wc wc := Below.refl _ _
        go_wp2_with fail
        go_region_held3 (fun w' => w'.cell? ⟨g, 0, none⟩ = some (.int .i64 a1) ∧ w'.cell? ⟨g, 1, none⟩ = some (.int .i64 a0) ∧ w'.cell? ⟨h, 0, none⟩ = some (.int .i64 b1) ∧ w'.cell? ⟨h, 1, none⟩ = some (.int .i64 b0) ∧ Below wc.heap.size wc w')
          (first | exact ⟨cell_below (B := wc.heap.size) (w := wc) (by repeat (first | assumption | exact Below.refl _ _ | apply below_drew1 | apply below_alloc1)) hx0 (World.block_lt_of_cell? _ _ hx0), cell_below (B := wc.heap.size) (w := wc) (by repeat (first | assumption | exact Below.refl _ _ | apply below_drew1 | apply below_alloc1)) hx1 (World.block_lt_of_cell? _ _ hx1), cell_below (B := wc.heap.size) (w := wc) (by repeat (first | assumption | exact Below.refl _ _ | apply below_drew1 | apply below_alloc1)) hy0 (World.block_lt_of_cell? _ _ hy0), cell_below (B := wc.heap.size) (w := wc) (by repeat (first | assumption | exact Below.refl _ _ | apply below_drew1 | apply below_alloc1)) hy1 (World.block_lt_of_cell? _ _ hy1), (by repeat (first | assumption | exact Below.refl _ _ | apply below_drew1 | apply below_alloc1))⟩ | go_keep)
          (first
            | (go_at_call 30; go_split_ands; (with_reducible refine (CompareT_calls a1 a0 b1 b0 _).mono ?_); rintro e w11 ⟨he, hbn⟩; rw [EP.out, EQ.out, EK.out] at he; subst he; have hB11 : Below wc.heap.size wc w11 := Below.after (by repeat (first | assumption | exact Below.refl _ _ | apply below_drew1 | apply below_alloc1)) hbn)
            | (go_at_call 30; go_split_ands; (with_reducible refine (CompareT_calls b1 b0 a1 a0 _).mono ?_); rintro e w12 ⟨he, hbn⟩; rw [EP.out, EQ.out, EJ.out] at he; subst he; have hB12 : Below wc.heap.size wc w12 := Below.after (by repeat (first | assumption | exact Below.refl _ _ | apply below_drew1 | apply below_alloc1)) hbn))
        have k12 := k9.trans (hB12.mono k9.size)
        have bx12 := obj_below hB12 bx (obj_lt bx)
        have by12 := obj_below hB12 by' (obj_lt by')
        clear hx0 hx1 hy0 hy1
        have hx0 : w12.cell? ⟨g, 0, none⟩ = some (.int .i64 a1) := by simp [World.cell?, bx12]
        have hx1 : w12.cell? ⟨g, 1, none⟩ = some (.int .i64 a0) := by simp [World.cell?, bx12]
        have hy0 : w12.cell? ⟨h, 0, none⟩ = some (.int .i64 b1) := by simp [World.cell?, by12]
        have hy1 : w12.cell? ⟨h, 1, none⟩ = some (.int .i64 b0) := by simp [World.cell?, by12]
        have tkk : (k == k) = true := by simp
        rcases (by by_cases h0 : a0 = b0 <;> by_cases h1 : a1 = b1 <;> simp [h0, h1] : (a0 = b0 ∧ a1 = b1) ∨ ¬ a0 = b0 ∨ (a0 = b0 ∧ ¬ a1 = b1)) with hc | hc | hc
        · obtain ⟨rfl, rfl⟩ : a0 = b0 ∧ a1 = b1 := hc
          obtain rfl : E = true := by rw [← EE.out]; simp
          go_wp2_with fail
          refine (Ahead_calls a1 a0 a1 a0 _).mono ?_
          rintro e w13 ⟨he, hbn⟩
          rw [EB.out] at he
          subst he
          go_wp2_with fail
          go_ret
          exact ⟨by simp, k12.trans (hbn.mono k12.size)⟩
        · obtain rfl : E = false := by rw [← EE.out]; simp [hc]
          have nc0 : ¬ b0 = a0 := fun h => hc h.symm
          go_wp2_with fail
          refine (Ahead_calls a1 a0 a1 a0 _).mono ?_
          rintro e w13 ⟨he, hbn⟩
          rw [EB.out] at he
          subst he
          go_wp2_with fail
          go_ret
          exact ⟨by simp, k12.trans (hbn.mono k12.size)⟩
        · obtain ⟨rfl, hc⟩ : a0 = b0 ∧ ¬ a1 = b1 := hc
          obtain rfl : E = false := by rw [← EE.out]; simp [hc]
          have nc1 : ¬ b1 = a1 := fun h => hc h.symm
          go_wp2_with fail
          refine (Ahead_calls a1 a0 a1 a0 _).mono ?_
          rintro e w13 ⟨he, hbn⟩
          rw [EB.out] at he
          subst he
          go_wp2_with fail
          go_ret
          exact ⟨by simp, k12.trans (hbn.mono k12.size)⟩
end Go.Proofs.Ytacgkoclammggaa
