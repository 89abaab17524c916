/-
  The statement VecBounds as a walk: it answers true and leaves all memory that was there as it was. Condition: the two arguments read as lists of int32 within the form's reach.
-/
import Derived.Test.YtgjcajffkhjlbaaLaw03
import Derived.Test.YtgjcajffkhjlbaaOpen
import Derived.Test.YtgjcajffkhjlbaaVecMath
namespace Go.Proofs.Ytgjcajffkhjlbaa
open Go.RowKit
set_option linter.unusedVariables false
set_option linter.unusedSimpArgs false

set_option maxHeartbeats 1600000 in
set_option maxRecDepth 100000 in
theorem VecBounds_law (A : Option Addr) (c : Nat) (xs : List Int) (B : Option Addr) (d : Nat) (ys : List Int) (w : World)
    (hA : Rd w .i32 A xs) (rA : ∀ n ∈ xs, (Lit.int .i32 n).wf = true) (nA : A = none → xs = [] ∧ c = 0) (lA : xs.length * 4 ≤ 140737488351232)
    (hB : Rd w .i32 B ys) (rB : ∀ n ∈ ys, (Lit.int .i32 n).wf = true) (nB : B = none → ys = [] ∧ d = 0) (lB : ys.length * 4 ≤ 140737488351232)
    : Calls Try.prog 8 #[.slice A xs.length c, .slice B ys.length d] w fun e w' => e = .returned (.bool true) ∧ Below w.heap.size w w' := by
  replace rA := Lib.hid (r32_of_wf rA)
  have KA := Lib.hid hA
  clear hA nA
  replace rB := Lib.hid (r32_of_wf rB)
  have KB := Lib.hid hB
  clear hB nB
  obtain ⟨f1, E1'⟩ : ∃ p, decide (xs.length ≤ 1100 ∧ ys.length ≤ 1100) = p := ⟨_, rfl⟩
  obtain ⟨c1, E3'⟩ : ∃ p, checkV xs (xs.length : Int) = p := ⟨_, rfl⟩
  obtain ⟨c2, E4'⟩ : ∃ p, checkV ys (xs.length : Int) = p := ⟨_, rfl⟩
  obtain ⟨p1, E5'⟩ : ∃ p, wrap64 (dot xs ys) = p := ⟨_, rfl⟩
  obtain ⟨p2, E6'⟩ : ∃ p, wrap64 (far xs ys) = p := ⟨_, rfl⟩
  obtain ⟨z1, E7'⟩ : ∃ p, decide (xs = ys) = p := ⟨_, rfl⟩
  obtain ⟨p3, E8'⟩ : ∃ p, wrap64 (far ys xs) = p := ⟨_, rfl⟩
  obtain ⟨p4, E9'⟩ : ∃ p, wrap64 (dot ys xs) = p := ⟨_, rfl⟩
  obtain ⟨p6, E11'⟩ : ∃ p, wrap64 (dot xs xs) = p := ⟨_, rfl⟩
  obtain ⟨p7, E12'⟩ : ∃ p, wrap64 (dot ys ys) = p := ⟨_, rfl⟩
  have E1 := Lib.hid E1'
  have E3 := Lib.hid E3'
  have E4 := Lib.hid E4'
  have E5 := Lib.hid E5'
  have E6 := Lib.hid E6'
  have E7 := Lib.hid E7'
  have E8 := Lib.hid E8'
  have E9 := Lib.hid E9'
  have E11 := Lib.hid E11'
  have E12 := Lib.hid E12'
  clear E1' E3' E4' E5' E6' E7' E8' E9' E11' E12'
  go_enter Try.func8, Try.ntmps8
  have k_w : Below w.heap.size w w := Below.refl _ _
  go_wp2_with fail
  refine (awake_calls _  ).mono ?_
  rintro e w1 ⟨he, hbn⟩
  subst he
  have k_w_w1 : Below w.heap.size w w1 := k_w.trans (hbn.mono k_w.size)
  clear k_w
  clear hbn
  go_wp2_with fail
  refine (few_calls A B xs.length ys.length c d _  ).mono ?_
  rintro e _ ⟨he, rfl⟩
  rw [E1.out] at he
  subst he
  cases f1 with
  | false =>
    go_wp2_with fail
    go_ret
    exact ⟨rfl, k_w_w1⟩
  | true =>
    go_wp2_with fail
    refine (Check_calls A c xs (xs.length : Int) _ (KA.out.below k_w_w1) ).mono ?_
    rintro e _ ⟨he, rfl⟩
    rw [E3.out] at he
    subst he
    by_cases hc1 : ¬ c1 = 0
    · have t1 : (c1 != 0) = true := by simp [hc1]
      clear hc1
      go_wp2_with fail
      go_ret
      exact ⟨rfl, k_w_w1⟩
    replace hc1 := Decidable.not_not.1 hc1
    have t1 : (c1 != 0) = false := by simp [hc1]
    have c10 := Lib.hid hc1
    clear hc1
    go_wp2_with fail
    refine (Check_calls B d ys (xs.length : Int) _ (KB.out.below k_w_w1) ).mono ?_
    rintro e _ ⟨he, rfl⟩
    rw [E4.out] at he
    subst he
    by_cases hc2 : ¬ c2 = 0
    · have t2 : (c2 != 0) = true := by simp [hc2]
      clear hc2
      go_wp2_with fail
      go_ret
      exact ⟨rfl, k_w_w1⟩
    replace hc2 := Decidable.not_not.1 hc2
    have t2 : (c2 != 0) = false := by simp [hc2]
    have c20 := Lib.hid hc2
    clear hc2
    have H : Hid (1 ≤ xs.length ∧ xs.length ≤ 1024 ∧ ys.length = xs.length ∧ B20 xs ∧ B20 ys) := by
      have h1 := checkV_zero (E3.out.trans c10.out)
      have h2 := checkV_zero (E4.out.trans c20.out)
      exact ⟨by omega, by omega, by omega, h1.2.2.2, h2.2.2.2⟩
    obtain ⟨g1, g2, g3, g4, g5⟩ := H.out
    have b1 := dot_bd g4 g5 g2
    have b2 := far_bd g4 g5 g2
    have b3 := dot_bd g4 g4 g2
    have b4 := dot_bd g5 g5 (by omega)
    have e1 : dot xs ys = p1 := by rw [← E5.out, wrap64_id _ (by omega)]
    have e2 : far xs ys = p2 := by rw [← E6.out, wrap64_id _ (by omega)]
    have e3 : dot xs xs = p6 := by rw [← E11.out, wrap64_id _ (by omega)]
    have e4 : dot ys ys = p7 := by rw [← E12.out, wrap64_id _ (by omega)]
    have q1 : p3 = p2 := by rw [← E8.out, ← E6.out, far_comm]
    have q2 : p4 = p1 := by rw [← E9.out, ← E5.out, dot_comm]
    have q3 : p6 + p7 - 2 * p1 = p2 := by rw [← e1, ← e2, ← e3, ← e4, far_sums g3]
    have q4 : (p2 == 0) = z1 := by
      rw [← e2, ← E7.out]
      exact Bool.eq_iff_iff.2 (by rw [beq_iff_eq, decide_eq_true_iff]; exact far_zero g3)
    rw [e1] at b1
    rw [e2] at b2
    rw [e3] at b3
    rw [e4] at b4
    obtain ⟨X, hX⟩ : ∃ X, less xs ys = X := ⟨_, rfl⟩
    obtain ⟨p5, hp5⟩ : ∃ p, wrap64 (dot X X) = p := ⟨_, rfl⟩
    have EX := Lib.hid hX
    have E10 := Lib.hid hp5
    have RX : Hid (R32 X) := by rw [← hX]; exact R32.less _ _
    have q5 : p5 = p2 := by rw [← E10.out, ← EX.out, far_less g4 g5 g3, E6.out]
    have t3 : (p3 != p2) = false := by rw [q1]; simp
    have t4 : (p4 != p1) = false := by rw [q2]; simp
    have t5 : (p5 == p2) = true := by rw [q5]; simp
    have t6 : (p6 + p7 - 2 * p1 == p2) = true := by rw [q3]; simp
    have t7 : decide (p1 < -1125899906842624) = false := by simp; omega
    have t8 : decide (1125899906842624 < p1) = false := by simp; omega
    have t9 : decide (p2 < 0) = false := by simp; omega
    have t10 : decide (4503599627370496 < p2) = false := by simp; omega
    have t11 : (z1 != z1) = false := by simp
    have g2' : xs.length ≤ 35184372088832 := by omega
    clear hX hp5 q1 q2 q3 q5 e1 e2 e3 e4 g1 g2 g3 g4 g5
    go_wp2_with fail
    refine (Dot_b A B c d xs ys _ (KA.out.below k_w_w1) (KB.out.below k_w_w1) rA.out rB.out).mono ?_
    rintro e w2 ⟨he, hbn⟩
    rw [E5.out] at he
    subst he
    have k_w_w2 : Below w.heap.size w w2 := k_w_w1.trans (hbn.mono k_w_w1.size)
    clear k_w_w1
    clear hbn
    go_wp2_with fail
    refine (Far_b A B c d xs ys _ (KA.out.below k_w_w2) (KB.out.below k_w_w2) rA.out rB.out).mono ?_
    rintro e w3 ⟨he, hbn⟩
    rw [E6.out] at he
    subst he
    have k_w_w3 : Below w.heap.size w w3 := k_w_w2.trans (hbn.mono k_w_w2.size)
    clear k_w_w2
    clear hbn
    go_wp2_with fail
    refine (Same_b A B c d xs ys _ (KA.out.below k_w_w3) (KB.out.below k_w_w3) ).mono ?_
    rintro e w4 ⟨he, hbn⟩
    rw [E7.out] at he
    subst he
    have k_w_w4 : Below w.heap.size w w4 := k_w_w3.trans (hbn.mono k_w_w3.size)
    clear k_w_w3
    clear hbn
    go_wp2_with fail
    refine (Far_b B A d c ys xs _ (KB.out.below k_w_w4) (KA.out.below k_w_w4) rB.out rA.out).mono ?_
    rintro e w5 ⟨he, hbn⟩
    rw [E8.out] at he
    subst he
    have k_w_w5 : Below w.heap.size w w5 := k_w_w4.trans (hbn.mono k_w_w4.size)
    clear k_w_w4
    clear hbn
    go_wp2_with fail
    refine (Dot_b B A d c ys xs _ (KB.out.below k_w_w5) (KA.out.below k_w_w5) rB.out rA.out).mono ?_
    rintro e w6 ⟨he, hbn⟩
    rw [E9.out] at he
    subst he
    have k_w_w6 : Below w.heap.size w w6 := k_w_w5.trans (hbn.mono k_w_w5.size)
    clear k_w_w5
    clear hbn
    go_wp2_with fail
    refine (Less_calls A B c d xs ys _ (KA.out.below k_w_w6) (KB.out.below k_w_w6) g2').mono ?_
    rintro e w7 ⟨v4, he, ho, hbn, hblk⟩
    subst he
    rw [EX.out] at ho
    obtain ⟨AX, cx, hv, hcx, hRX⟩ := ho.shape
    subst hv
    have KX := Lib.hid hRX
    clear ho hblk hRX
    have k_w_w7 : Below w.heap.size w w7 := k_w_w6.trans (hbn.mono k_w_w6.size)
    clear k_w_w6
    clear hbn
    have k_w7 : Below w7.heap.size w7 w7 := Below.refl _ _
    go_wp2_with fail
    refine (Dot_b AX AX cx cx X X _ (KX.out.below k_w7) (KX.out.below k_w7) RX.out RX.out).mono ?_
    rintro e w8 ⟨he, hbn⟩
    rw [E10.out] at he
    subst he
    have k_w_w8 : Below w.heap.size w w8 := k_w_w7.trans (hbn.mono k_w_w7.size)
    have k_w7_w8 : Below w7.heap.size w7 w8 := k_w7.trans (hbn.mono k_w7.size)
    clear k_w_w7
    clear k_w7
    clear hbn
    go_wp2_with fail
    refine (Dot_b A A c c xs xs _ (KA.out.below k_w_w8) (KA.out.below k_w_w8) rA.out rA.out).mono ?_
    rintro e w9 ⟨he, hbn⟩
    rw [E11.out] at he
    subst he
    have k_w_w9 : Below w.heap.size w w9 := k_w_w8.trans (hbn.mono k_w_w8.size)
    have k_w7_w9 : Below w7.heap.size w7 w9 := k_w7_w8.trans (hbn.mono k_w7_w8.size)
    clear k_w_w8
    clear k_w7_w8
    clear hbn
    go_wp2_with fail
    refine (Dot_b B B d d ys ys _ (KB.out.below k_w_w9) (KB.out.below k_w_w9) rB.out rB.out).mono ?_
    rintro e w10 ⟨he, hbn⟩
    rw [E12.out] at he
    subst he
    have k_w_w10 : Below w.heap.size w w10 := k_w_w9.trans (hbn.mono k_w_w9.size)
    have k_w7_w10 : Below w7.heap.size w7 w10 := k_w7_w9.trans (hbn.mono k_w7_w9.size)
    clear k_w_w9
    clear k_w7_w9
    clear hbn
    go_wp2_with fail
    go_ret
    exact ⟨rfl, k_w_w10⟩
end Go.Proofs.Ytgjcajffkhjlbaa
