/-
  The statement PlaneBetween as a walk: it answers true and leaves all memory that was there as it was. Condition: the three arguments read as lists of int32 within the form's reach.
-/
import Derived.Test.YtgjcajffkhjlbaaLaw11
import Derived.Test.YtgjcajffkhjlbaaOpen
import Derived.Test.YtgjcajffkhjlbaaPlaneMath
namespace Go.Proofs.Ytgjcajffkhjlbaa
open Go.RowKit
set_option linter.unusedVariables false
set_option linter.unusedSimpArgs false

set_option maxHeartbeats 1600000 in
set_option maxRecDepth 100000 in
theorem PlaneBetween_law (A : Option Addr) (c : Nat) (xs : List Int) (B : Option Addr) (d : Nat) (ys : List Int) (C : Option Addr) (f : Nat) (vs : List Int) (w : World)
    (hA : Rd w .i32 A xs) (rA : ∀ n ∈ xs, (Lit.int .i32 n).wf = true) (nA : A = none → xs = [] ∧ c = 0) (lA : xs.length * 4 ≤ 140737488351232)
    (hB : Rd w .i32 B ys) (rB : ∀ n ∈ ys, (Lit.int .i32 n).wf = true) (nB : B = none → ys = [] ∧ d = 0) (lB : ys.length * 4 ≤ 140737488351232)
    (hC : Rd w .i32 C vs) (rC : ∀ n ∈ vs, (Lit.int .i32 n).wf = true) (nC : C = none → vs = [] ∧ f = 0) (lC : vs.length * 4 ≤ 140737488351232)
    : Calls Try.prog 13 #[.slice A xs.length c, .slice B ys.length d, .slice C vs.length f] w fun e w' => e = .returned (.bool true) ∧ Below w.heap.size w w' := by
  replace rA := Lib.hid (r32_of_wf rA)
  have KA := Lib.hid hA
  clear hA nA
  replace rB := Lib.hid (r32_of_wf rB)
  have KB := Lib.hid hB
  clear hB nB
  replace rC := Lib.hid (r32_of_wf rC)
  have KC := Lib.hid hC
  clear hC nC
  obtain ⟨c1, E1'⟩ : ∃ p, checkV xs (xs.length : Int) = p := ⟨_, rfl⟩
  obtain ⟨c2, E2'⟩ : ∃ p, checkV ys (xs.length : Int) = p := ⟨_, rfl⟩
  obtain ⟨c3, E3'⟩ : ∃ p, checkV vs (xs.length : Int) = p := ⟨_, rfl⟩
  have E1 := Lib.hid E1'
  have E2 := Lib.hid E2'
  have E3 := Lib.hid E3'
  clear E1' E2' E3'
  by_cases hn : 1024 < xs.length
  · have hn' : decide (1024 < (xs.length : Int)) = true := by simp; omega
    go_enter Try.func13, Try.ntmps13
    go_wp2_with fail
    refine (awake_calls _).mono ?_
    rintro e w1 ⟨rfl, hb1⟩
    go_wp2_with fail
    go_ret
    exact ⟨rfl, hb1⟩
  have hn' : decide (1024 < (xs.length : Int)) = false := by simp; omega
  replace hn : xs.length ≤ 1024 := by omega
  go_enter Try.func13, Try.ntmps13
  have k_w : Below w.heap.size w w := Below.refl _ _
  go_wp2_with fail
  refine (awake_calls _  ).mono ?_
  rintro e w1 ⟨he, hbn⟩
  subst he
  have k_w_w1 : Below w.heap.size w w1 := k_w.trans (hbn.mono k_w.size)
  clear k_w
  clear hbn
  go_wp2_with fail
  refine (Check_calls A c xs (xs.length : Int) _ (KA.out.below k_w_w1) ).mono ?_
  rintro e _ ⟨he, rfl⟩
  rw [E1.out] at he
  subst he
  by_cases hc1 : ¬ c1 = 0
  · have t1 : (c1 != 0) = true := by simp [hc1]
    clear hc1
    go_wp2_with fail
    go_ret
    exact ⟨rfl, k_w_w1⟩
  replace hc1 := Decidable.not_not.1 hc1
  have t1 : (c1 != 0) = false := by simp [hc1]
  have c10 := Lib.hid hc1
  clear hc1
  go_wp2_with fail
  refine (Check_calls B d ys (xs.length : Int) _ (KB.out.below k_w_w1) ).mono ?_
  rintro e _ ⟨he, rfl⟩
  rw [E2.out] at he
  subst he
  by_cases hc2 : ¬ c2 = 0
  · have t2 : (c2 != 0) = true := by simp [hc2]
    clear hc2
    go_wp2_with fail
    go_ret
    exact ⟨rfl, k_w_w1⟩
  replace hc2 := Decidable.not_not.1 hc2
  have t2 : (c2 != 0) = false := by simp [hc2]
  have c20 := Lib.hid hc2
  clear hc2
  go_wp2_with fail
  refine (Check_calls C f vs (xs.length : Int) _ (KC.out.below k_w_w1) ).mono ?_
  rintro e _ ⟨he, rfl⟩
  rw [E3.out] at he
  subst he
  by_cases hc3 : ¬ c3 = 0
  · have t3 : (c3 != 0) = true := by simp [hc3]
    clear hc3
    go_wp2_with fail
    go_ret
    exact ⟨rfl, k_w_w1⟩
  replace hc3 := Decidable.not_not.1 hc3
  have t3 : (c3 != 0) = false := by simp [hc3]
  have c30 := Lib.hid hc3
  clear hc3
  have H : Hid (1 ≤ xs.length ∧ ys.length = xs.length ∧ vs.length = xs.length ∧ B20 xs ∧ B20 ys ∧ B20 vs) := by
    have h1 := checkV_zero (E1.out.trans c10.out)
    have h2 := checkV_zero (E2.out.trans c20.out)
    have h3 := checkV_zero (E3.out.trans c30.out)
    exact ⟨by omega, by omega, by omega, h1.2.2.2, h2.2.2.2, h3.2.2.2⟩
  obtain ⟨g1, g2, g3, g4, g5, g6⟩ := H.out
  have q1 := btw_margin g4 g5 g4 hn g2 rfl
  have q2 := btw_margin g4 g5 g5 hn g2 g2
  have q3 := btw_margin g4 g5 g6 hn g2 g3
  have b0 := far_bd g4 g5 hn
  have b1 := far_bd g6 g5 (by omega)
  have b2 := far_bd g6 g4 (by omega)
  obtain ⟨o1, o2, o3⟩ := btw_off g4 g5 hn
  have q4 := checkP_ok (dim := xs.length) (ns := less xs ys) (off := betweenOff xs ys) (by omega) (by omega) (by rw [less_length]; omega) (less_b21 g4 g5) (by omega)
  rw [far_self] at q1 q2
  have RL : Hid (R32 (less xs ys)) := R32.less _ _
  obtain ⟨L, EL'⟩ : ∃ p, less xs ys = p := ⟨_, rfl⟩
  obtain ⟨off, EO'⟩ : ∃ p, betweenOff xs ys = p := ⟨_, rfl⟩
  obtain ⟨p1, P1'⟩ : ∃ p, far xs ys = p := ⟨_, rfl⟩
  obtain ⟨p2, P2'⟩ : ∃ p, far vs ys = p := ⟨_, rfl⟩
  obtain ⟨p3, P3'⟩ : ∃ p, far vs xs = p := ⟨_, rfl⟩
  rw [EL', EO'] at q1 q2 q3 q4
  rw [EL'] at RL
  rw [far_comm ys xs, P1'] at q2
  rw [P1'] at q1 b0
  rw [P2', P3'] at q3
  rw [P2'] at b1
  rw [P3'] at b2
  have D1 : Hid (wrap64 (far xs ys) = p1) := by rw [P1', Hid, wrap64_id _ (by omega)]
  have D2 : Hid (wrap64 (far vs ys) = p2) := by rw [P2', Hid, wrap64_id _ (by omega)]
  have D3 : Hid (wrap64 (far vs xs) = p3) := by rw [P3', Hid, wrap64_id _ (by omega)]
  have Q1 := Lib.hid (show margin L off xs = p1 by omega)
  have Q2 := Lib.hid (show margin L off ys = -p1 by omega)
  have Q3 := Lib.hid q3
  have Q4 := Lib.hid q4
  have S3 : Hid (decide (0 ≤ margin L off vs) = decide (p3 ≤ p2)) := by
    rw [q3]
    exact decide_eq_decide.2 (by omega)
  have x1 : (p1 != p1) = false := by simp
  have x2 : (-p1 != -p1) = false := by simp
  have x3 : (p2 - p3 == p2 - p3) = true := by simp
  have x4 : (decide (p3 ≤ p2) == decide (p3 ≤ p2)) = true := by simp
  have x5 : ((0 : Int) != 0) = false := by simp
  have hs : xs.length ≤ 35184372088832 := by omega
  have EL := Lib.hid EL'
  have EO := Lib.hid EO'
  have P1 := Lib.hid P1'
  have P2 := Lib.hid P2'
  have P3 := Lib.hid P3'
  clear EL' EO' P1' P2' P3'
  clear q1 q2 q3 q4 g1 g2 g3 g4 g5 g6 o1 o2 o3
  go_wp2_with fail
  refine (Between_calls A B c d xs ys _ (KA.out.below k_w_w1) (KB.out.below k_w_w1) rA.out rB.out hs).mono ?_
  rintro e w2 ⟨v4, he, ho, hbn⟩
  rw [EO.out] at he
  subst he
  rw [EL.out] at ho
  obtain ⟨AL, cL, hv, hcv, hRV⟩ := ho.shape
  subst hv
  have KL := Lib.hid hRV
  have OL := Lib.hid ho
  clear ho hRV hcv
  have k_w_w2 : Below w.heap.size w w2 := k_w_w1.trans (hbn.mono k_w_w1.size)
  clear k_w_w1
  clear hbn
  have k_w2 : Below w2.heap.size w2 w2 := Below.refl _ _
  go_wp2_with fail
  obtain ⟨w3, hw⟩ : ∃ W, w2.alloc (.cells #[.slice AL L.length cL, .int .i64 off] 30) = W := ⟨_, rfl⟩
  rw [hw]
  have hbn : Below w2.heap.size w2 w3 := by rw [← hw]; exact below_alloc1 (Below.refl _ _) _
  have b3 : w3.heap[w2.heap.size]? = some (.cells #[.slice AL L.length cL, .int .i64 off] 30 (0, 0)) := by rw [← hw]; exact heap_alloc_new _ _
  clear hw
  have k_w_w3 : Below w.heap.size w w3 := k_w_w2.trans (hbn.mono k_w_w2.size)
  have k_w2_w3 : Below w2.heap.size w2 w3 := k_w2.trans (hbn.mono k_w2.size)
  clear k_w_w2
  clear k_w2
  clear hbn
  have b2 := b3
  clear b3
  have h_p0 : w3.cell? ⟨w2.heap.size, 0, none⟩ = some (.slice AL L.length cL) := by simp [World.cell?, b2]
  have h_p1 : w3.cell? ⟨w2.heap.size, 1, none⟩ = some (.int .i64 off) := by simp [World.cell?, b2]
  have b_p := Lib.hid b2
  clear b2
  go_wp2_with fail
  refine (Far_b A B c d xs ys _ (KA.out.below k_w_w3) (KB.out.below k_w_w3) rA.out rB.out).mono ?_
  rintro e w4 ⟨he, hbn⟩
  rw [D1.out] at he
  subst he
  have k_w_w4 : Below w.heap.size w w4 := k_w_w3.trans (hbn.mono k_w_w3.size)
  have k_w2_w4 : Below w2.heap.size w2 w4 := k_w2_w3.trans (hbn.mono k_w2_w3.size)
  clear k_w_w3
  clear k_w2_w3
  have b2 := obj_below hbn b_p.out (obj_lt b_p.out)
  clear b_p h_p0 h_p1
  have h_p0 : w4.cell? ⟨w2.heap.size, 0, none⟩ = some (.slice AL L.length cL) := by simp [World.cell?, b2]
  have h_p1 : w4.cell? ⟨w2.heap.size, 1, none⟩ = some (.int .i64 off) := by simp [World.cell?, b2]
  have b_p := Lib.hid b2
  clear b2
  clear hbn
  go_wp2_with fail
  refine (pCheck_calls AL cL L off (xs.length : Int) _ (KL.out.below k_w2_w4) ).mono ?_
  rintro e w5 ⟨he, hbn⟩
  rw [Q4.out] at he
  subst he
  have k_w_w5 : Below w.heap.size w w5 := k_w_w4.trans (hbn.mono k_w_w4.size)
  have k_w2_w5 : Below w2.heap.size w2 w5 := k_w2_w4.trans (hbn.mono k_w2_w4.size)
  clear k_w_w4
  clear k_w2_w4
  have b2 := obj_below hbn b_p.out (obj_lt b_p.out)
  clear b_p h_p0 h_p1
  have h_p0 : w5.cell? ⟨w2.heap.size, 0, none⟩ = some (.slice AL L.length cL) := by simp [World.cell?, b2]
  have h_p1 : w5.cell? ⟨w2.heap.size, 1, none⟩ = some (.int .i64 off) := by simp [World.cell?, b2]
  have b_p := Lib.hid b2
  clear b2
  clear hbn
  go_wp2_with fail
  refine (Margin_calls AL A cL c L xs off _ (KL.out.below k_w2_w5) (KA.out.below k_w_w5) RL.out rA.out).mono ?_
  rintro e w6 ⟨he, hbn⟩
  rw [Q1.out] at he
  subst he
  have k_w_w6 : Below w.heap.size w w6 := k_w_w5.trans (hbn.mono k_w_w5.size)
  have k_w2_w6 : Below w2.heap.size w2 w6 := k_w2_w5.trans (hbn.mono k_w2_w5.size)
  clear k_w_w5
  clear k_w2_w5
  have b2 := obj_below hbn b_p.out (obj_lt b_p.out)
  clear b_p h_p0 h_p1
  have h_p0 : w6.cell? ⟨w2.heap.size, 0, none⟩ = some (.slice AL L.length cL) := by simp [World.cell?, b2]
  have h_p1 : w6.cell? ⟨w2.heap.size, 1, none⟩ = some (.int .i64 off) := by simp [World.cell?, b2]
  have b_p := Lib.hid b2
  clear b2
  clear hbn
  go_wp2_with fail
  refine (Margin_calls AL B cL d L ys off _ (KL.out.below k_w2_w6) (KB.out.below k_w_w6) RL.out rB.out).mono ?_
  rintro e w7 ⟨he, hbn⟩
  rw [Q2.out] at he
  subst he
  have k_w_w7 : Below w.heap.size w w7 := k_w_w6.trans (hbn.mono k_w_w6.size)
  have k_w2_w7 : Below w2.heap.size w2 w7 := k_w2_w6.trans (hbn.mono k_w2_w6.size)
  clear k_w_w6
  clear k_w2_w6
  have b2 := obj_below hbn b_p.out (obj_lt b_p.out)
  clear b_p h_p0 h_p1
  have h_p0 : w7.cell? ⟨w2.heap.size, 0, none⟩ = some (.slice AL L.length cL) := by simp [World.cell?, b2]
  have h_p1 : w7.cell? ⟨w2.heap.size, 1, none⟩ = some (.int .i64 off) := by simp [World.cell?, b2]
  have b_p := Lib.hid b2
  clear b2
  clear hbn
  go_wp2_with fail
  refine (Margin_calls AL C cL f L vs off _ (KL.out.below k_w2_w7) (KC.out.below k_w_w7) RL.out rC.out).mono ?_
  rintro e w8 ⟨he, hbn⟩
  rw [Q3.out] at he
  subst he
  have k_w_w8 : Below w.heap.size w w8 := k_w_w7.trans (hbn.mono k_w_w7.size)
  have k_w2_w8 : Below w2.heap.size w2 w8 := k_w2_w7.trans (hbn.mono k_w2_w7.size)
  clear k_w_w7
  clear k_w2_w7
  have b2 := obj_below hbn b_p.out (obj_lt b_p.out)
  clear b_p h_p0 h_p1
  have h_p0 : w8.cell? ⟨w2.heap.size, 0, none⟩ = some (.slice AL L.length cL) := by simp [World.cell?, b2]
  have h_p1 : w8.cell? ⟨w2.heap.size, 1, none⟩ = some (.int .i64 off) := by simp [World.cell?, b2]
  have b_p := Lib.hid b2
  clear b2
  clear hbn
  go_wp2_with fail
  refine (Far_b C B f d vs ys _ (KC.out.below k_w_w8) (KB.out.below k_w_w8) rC.out rB.out).mono ?_
  rintro e w9 ⟨he, hbn⟩
  rw [D2.out] at he
  subst he
  have k_w_w9 : Below w.heap.size w w9 := k_w_w8.trans (hbn.mono k_w_w8.size)
  have k_w2_w9 : Below w2.heap.size w2 w9 := k_w2_w8.trans (hbn.mono k_w2_w8.size)
  clear k_w_w8
  clear k_w2_w8
  have b2 := obj_below hbn b_p.out (obj_lt b_p.out)
  clear b_p h_p0 h_p1
  have h_p0 : w9.cell? ⟨w2.heap.size, 0, none⟩ = some (.slice AL L.length cL) := by simp [World.cell?, b2]
  have h_p1 : w9.cell? ⟨w2.heap.size, 1, none⟩ = some (.int .i64 off) := by simp [World.cell?, b2]
  have b_p := Lib.hid b2
  clear b2
  clear hbn
  go_wp2_with fail
  refine (Far_b C A f c vs xs _ (KC.out.below k_w_w9) (KA.out.below k_w_w9) rC.out rA.out).mono ?_
  rintro e w10 ⟨he, hbn⟩
  rw [D3.out] at he
  subst he
  have k_w_w10 : Below w.heap.size w w10 := k_w_w9.trans (hbn.mono k_w_w9.size)
  have k_w2_w10 : Below w2.heap.size w2 w10 := k_w2_w9.trans (hbn.mono k_w2_w9.size)
  clear k_w_w9
  clear k_w2_w9
  have b2 := obj_below hbn b_p.out (obj_lt b_p.out)
  clear b_p h_p0 h_p1
  have h_p0 : w10.cell? ⟨w2.heap.size, 0, none⟩ = some (.slice AL L.length cL) := by simp [World.cell?, b2]
  have h_p1 : w10.cell? ⟨w2.heap.size, 1, none⟩ = some (.int .i64 off) := by simp [World.cell?, b2]
  have b_p := Lib.hid b2
  clear b2
  clear hbn
  go_wp2_with fail
  refine (Side_calls AL C cL f L vs off _ (KL.out.below k_w2_w10) (KC.out.below k_w_w10) RL.out rC.out).mono ?_
  rintro e w11 ⟨he, hbn⟩
  rw [S3.out] at he
  subst he
  have k_w_w11 : Below w.heap.size w w11 := k_w_w10.trans (hbn.mono k_w_w10.size)
  have k_w2_w11 : Below w2.heap.size w2 w11 := k_w2_w10.trans (hbn.mono k_w2_w10.size)
  clear k_w_w10
  clear k_w2_w10
  have b2 := obj_below hbn b_p.out (obj_lt b_p.out)
  clear b_p h_p0 h_p1
  have h_p0 : w11.cell? ⟨w2.heap.size, 0, none⟩ = some (.slice AL L.length cL) := by simp [World.cell?, b2]
  have h_p1 : w11.cell? ⟨w2.heap.size, 1, none⟩ = some (.int .i64 off) := by simp [World.cell?, b2]
  have b_p := Lib.hid b2
  clear b2
  clear hbn
  go_wp2_with fail
  refine (Far_b C A f c vs xs _ (KC.out.below k_w_w11) (KA.out.below k_w_w11) rC.out rA.out).mono ?_
  rintro e w12 ⟨he, hbn⟩
  rw [D3.out] at he
  subst he
  have k_w_w12 : Below w.heap.size w w12 := k_w_w11.trans (hbn.mono k_w_w11.size)
  have k_w2_w12 : Below w2.heap.size w2 w12 := k_w2_w11.trans (hbn.mono k_w2_w11.size)
  clear k_w_w11
  clear k_w2_w11
  have b2 := obj_below hbn b_p.out (obj_lt b_p.out)
  clear b_p h_p0 h_p1
  have h_p0 : w12.cell? ⟨w2.heap.size, 0, none⟩ = some (.slice AL L.length cL) := by simp [World.cell?, b2]
  have h_p1 : w12.cell? ⟨w2.heap.size, 1, none⟩ = some (.int .i64 off) := by simp [World.cell?, b2]
  have b_p := Lib.hid b2
  clear b2
  clear hbn
  go_wp2_with fail
  refine (Far_b C B f d vs ys _ (KC.out.below k_w_w12) (KB.out.below k_w_w12) rC.out rB.out).mono ?_
  rintro e w13 ⟨he, hbn⟩
  rw [D2.out] at he
  subst he
  have k_w_w13 : Below w.heap.size w w13 := k_w_w12.trans (hbn.mono k_w_w12.size)
  have k_w2_w13 : Below w2.heap.size w2 w13 := k_w2_w12.trans (hbn.mono k_w2_w12.size)
  clear k_w_w12
  clear k_w2_w12
  have b2 := obj_below hbn b_p.out (obj_lt b_p.out)
  clear b_p h_p0 h_p1
  have h_p0 : w13.cell? ⟨w2.heap.size, 0, none⟩ = some (.slice AL L.length cL) := by simp [World.cell?, b2]
  have h_p1 : w13.cell? ⟨w2.heap.size, 1, none⟩ = some (.int .i64 off) := by simp [World.cell?, b2]
  have b_p := Lib.hid b2
  clear b2
  clear hbn
  go_wp2_with fail
  go_ret
  exact ⟨rfl, k_w_w13⟩
end Go.Proofs.Ytgjcajffkhjlbaa
