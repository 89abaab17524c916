/-
  The statement VecTells as a walk: it answers true and leaves all memory that was there as it was. Condition: the arguments read as two lists of int32 and an int within the form's reach.
-/
import Derived.Test.YtgjcajffkhjlbaaLaw03
import Derived.Test.YtgjcajffkhjlbaaOpen
import Derived.Test.YtgjcajffkhjlbaaVecMath
namespace Go.Proofs.Ytgjcajffkhjlbaa
open Go.RowKit
set_option linter.unusedVariables false
set_option linter.unusedSimpArgs false

set_option maxHeartbeats 1600000 in
set_option maxRecDepth 100000 in
theorem VecTells_law (A : Option Addr) (c : Nat) (xs : List Int) (B : Option Addr) (d : Nat) (ys : List Int) (dim : Int) (w : World)
    (hA : Rd w .i32 A xs) (rA : ∀ n ∈ xs, (Lit.int .i32 n).wf = true) (nA : A = none → xs = [] ∧ c = 0) (lA : xs.length * 4 ≤ 140737488351232)
    (hB : Rd w .i32 B ys) (rB : ∀ n ∈ ys, (Lit.int .i32 n).wf = true) (nB : B = none → ys = [] ∧ d = 0) (lB : ys.length * 4 ≤ 140737488351232)
    (hdim : (Lit.int .i64 dim).wf = true)
    : Calls Try.prog 11 #[.slice A xs.length c, .slice B ys.length d, .int .i64 dim] w fun e w' => e = .returned (.bool true) ∧ Below w.heap.size w w' := by
  replace rA := Lib.hid (r32_of_wf rA)
  have KA := Lib.hid hA
  clear hA nA
  replace rB := Lib.hid (r32_of_wf rB)
  have KB := Lib.hid hB
  clear hB nB
  replace hdim := Lib.hid (i64_of_wf hdim)
  obtain ⟨f1, E1'⟩ : ∃ p, decide (xs.length ≤ 1100 ∧ ys.length ≤ 1100) = p := ⟨_, rfl⟩
  obtain ⟨c1, E2'⟩ : ∃ p, checkV xs dim = p := ⟨_, rfl⟩
  obtain ⟨p1, E5'⟩ : ∃ p, wrap64 (dot xs ys) = p := ⟨_, rfl⟩
  obtain ⟨p2, E6'⟩ : ∃ p, wrap64 (far xs ys) = p := ⟨_, rfl⟩
  obtain ⟨z1, E7'⟩ : ∃ p, decide (xs = ys) = p := ⟨_, rfl⟩
  obtain ⟨X, hX⟩ : ∃ X, less xs ys = X := ⟨_, rfl⟩
  have EX := Lib.hid hX
  have E1 := Lib.hid E1'
  have E2 := Lib.hid E2'
  have E5 := Lib.hid E5'
  have E6 := Lib.hid E6'
  have E7 := Lib.hid E7'
  clear E1' E2' E5' E6' E7'
  have hf : f1 = true → xs.length ≤ 1100 ∧ ys.length ≤ 1100 := fun h => of_decide_eq_true (E1.out.trans h)
  have HF := Lib.hid hf
  clear hf hX
  go_enter Try.func11, Try.ntmps11
  have k_w : Below w.heap.size w w := Below.refl _ _
  go_wp2_with fail
  refine (awake_calls _  ).mono ?_
  rintro e w1 ⟨he, hbn⟩
  subst he
  have k_w_w1 : Below w.heap.size w w1 := k_w.trans (hbn.mono k_w.size)
  clear k_w
  clear hbn
  go_wp2_with fail
  refine (few_calls A B xs.length ys.length c d _  ).mono ?_
  rintro e _ ⟨he, rfl⟩
  rw [E1.out] at he
  subst he
  cases f1 with
  | false =>
    go_wp2_with fail
    go_ret
    exact ⟨rfl, k_w_w1⟩
  | true =>
    have hl1 : xs.length ≤ 35184372088832 := by have := HF.out rfl; omega
    have hl2 : xs.length ≤ 1000000 := by have := HF.out rfl; omega
    have t1 : (c1 == c1) = true := by simp
    have t2 : (p1 == p1) = true := by simp
    have t3 : (p2 == p2) = true := by simp
    have t4 : (z1 == z1) = true := by simp
    go_wp2_with fail
    refine (Check_calls A c xs dim _ (KA.out.below k_w_w1) ).mono ?_
    rintro e _ ⟨he, rfl⟩
    rw [E2.out] at he
    subst he
    go_wp2_with fail
    refine (refCheck_calls A c xs dim _ (KA.out.below k_w_w1) ).mono ?_
    rintro e _ ⟨he, rfl⟩
    rw [E2.out] at he
    subst he
    go_wp2_with fail
    refine (Dot_b A B c d xs ys _ (KA.out.below k_w_w1) (KB.out.below k_w_w1) rA.out rB.out).mono ?_
    rintro e w2 ⟨he, hbn⟩
    rw [E5.out] at he
    subst he
    have k_w_w2 : Below w.heap.size w w2 := k_w_w1.trans (hbn.mono k_w_w1.size)
    clear k_w_w1
    clear hbn
    go_wp2_with fail
    refine (refDot_b A B c d xs ys _ (KA.out.below k_w_w2) (KB.out.below k_w_w2) rA.out rB.out).mono ?_
    rintro e w3 ⟨he, hbn⟩
    rw [E5.out] at he
    subst he
    have k_w_w3 : Below w.heap.size w w3 := k_w_w2.trans (hbn.mono k_w_w2.size)
    clear k_w_w2
    clear hbn
    go_wp2_with fail
    refine (Far_b A B c d xs ys _ (KA.out.below k_w_w3) (KB.out.below k_w_w3) rA.out rB.out).mono ?_
    rintro e w4 ⟨he, hbn⟩
    rw [E6.out] at he
    subst he
    have k_w_w4 : Below w.heap.size w w4 := k_w_w3.trans (hbn.mono k_w_w3.size)
    clear k_w_w3
    clear hbn
    go_wp2_with fail
    refine (refFar_b A B c d xs ys _ (KA.out.below k_w_w4) (KB.out.below k_w_w4) rA.out rB.out).mono ?_
    rintro e w5 ⟨he, hbn⟩
    rw [E6.out] at he
    subst he
    have k_w_w5 : Below w.heap.size w w5 := k_w_w4.trans (hbn.mono k_w_w4.size)
    clear k_w_w4
    clear hbn
    go_wp2_with fail
    refine (Less_calls A B c d xs ys _ (KA.out.below k_w_w5) (KB.out.below k_w_w5) hl1).mono ?_
    rintro e w6 ⟨v4, he, ho, hbn, hblk⟩
    subst he
    rw [EX.out] at ho
    obtain ⟨AX, cx, hv, hcx, hRX⟩ := ho.shape
    subst hv
    have KX := Lib.hid hRX
    clear ho hblk hRX
    have k_w_w6 : Below w.heap.size w w6 := k_w_w5.trans (hbn.mono k_w_w5.size)
    clear k_w_w5
    clear hbn
    have k_w6 : Below w6.heap.size w6 w6 := Below.refl _ _
    go_wp2_with fail
    refine (refLess_calls A B c d xs ys _ (KA.out.below k_w_w6) (KB.out.below k_w_w6) hl2).mono ?_
    rintro e w7 ⟨v5, he, ho, hbn⟩
    subst he
    rw [EX.out] at ho
    obtain ⟨AY, cy, hv, hcy, hRY⟩ := ho.shape
    subst hv
    have KY := Lib.hid hRY
    clear ho hRY
    have k_w_w7 : Below w.heap.size w w7 := k_w_w6.trans (hbn.mono k_w_w6.size)
    have k_w6_w7 : Below w6.heap.size w6 w7 := k_w6.trans (hbn.mono k_w6.size)
    clear k_w_w6
    clear k_w6
    clear hbn
    have k_w7 : Below w7.heap.size w7 w7 := Below.refl _ _
    go_wp2_with fail
    refine (refSame_b AX AY cx cy X X _ (KX.out.below k_w6_w7) (KY.out.below k_w7) ).mono ?_
    rintro e w8 ⟨he, hbn⟩
    subst he
    have k_w_w8 : Below w.heap.size w w8 := k_w_w7.trans (hbn.mono k_w_w7.size)
    have k_w6_w8 : Below w6.heap.size w6 w8 := k_w6_w7.trans (hbn.mono k_w6_w7.size)
    have k_w7_w8 : Below w7.heap.size w7 w8 := k_w7.trans (hbn.mono k_w7.size)
    clear k_w_w7
    clear k_w6_w7
    clear k_w7
    clear hbn
    rw [decide_eq_true (rfl : X = X)]
    go_wp2_with fail
    refine (Same_b A B c d xs ys _ (KA.out.below k_w_w8) (KB.out.below k_w_w8) ).mono ?_
    rintro e w9 ⟨he, hbn⟩
    rw [E7.out] at he
    subst he
    have k_w_w9 : Below w.heap.size w w9 := k_w_w8.trans (hbn.mono k_w_w8.size)
    have k_w6_w9 : Below w6.heap.size w6 w9 := k_w6_w8.trans (hbn.mono k_w6_w8.size)
    have k_w7_w9 : Below w7.heap.size w7 w9 := k_w7_w8.trans (hbn.mono k_w7_w8.size)
    clear k_w_w8
    clear k_w6_w8
    clear k_w7_w8
    clear hbn
    go_wp2_with fail
    refine (refSame_b A B c d xs ys _ (KA.out.below k_w_w9) (KB.out.below k_w_w9) ).mono ?_
    rintro e w10 ⟨he, hbn⟩
    rw [E7.out] at he
    subst he
    have k_w_w10 : Below w.heap.size w w10 := k_w_w9.trans (hbn.mono k_w_w9.size)
    have k_w6_w10 : Below w6.heap.size w6 w10 := k_w6_w9.trans (hbn.mono k_w6_w9.size)
    have k_w7_w10 : Below w7.heap.size w7 w10 := k_w7_w9.trans (hbn.mono k_w7_w9.size)
    clear k_w_w9
    clear k_w6_w9
    clear k_w7_w9
    clear hbn
    go_wp2_with fail
    refine (Clone_calls A c xs _ (KA.out.below k_w_w10) hl1).mono ?_
    rintro e w11 ⟨v6, he, ho, _, hbn⟩
    subst he
    obtain ⟨AZ, cz, hv, hcz, hRZ⟩ := ho.shape
    subst hv
    have KZ := Lib.hid hRZ
    clear ho hRZ
    have k_w_w11 : Below w.heap.size w w11 := k_w_w10.trans (hbn.mono k_w_w10.size)
    have k_w6_w11 : Below w6.heap.size w6 w11 := k_w6_w10.trans (hbn.mono k_w6_w10.size)
    have k_w7_w11 : Below w7.heap.size w7 w11 := k_w7_w10.trans (hbn.mono k_w7_w10.size)
    clear k_w_w10
    clear k_w6_w10
    clear k_w7_w10
    clear hbn
    have k_w11 : Below w11.heap.size w11 w11 := Below.refl _ _
    go_wp2_with fail
    refine (refSame_b AZ A cz c xs xs _ (KZ.out.below k_w11) (KA.out.below k_w_w11) ).mono ?_
    rintro e w12 ⟨he, hbn⟩
    subst he
    have k_w_w12 : Below w.heap.size w w12 := k_w_w11.trans (hbn.mono k_w_w11.size)
    have k_w6_w12 : Below w6.heap.size w6 w12 := k_w6_w11.trans (hbn.mono k_w6_w11.size)
    have k_w7_w12 : Below w7.heap.size w7 w12 := k_w7_w11.trans (hbn.mono k_w7_w11.size)
    have k_w11_w12 : Below w11.heap.size w11 w12 := k_w11.trans (hbn.mono k_w11.size)
    clear k_w_w11
    clear k_w6_w11
    clear k_w7_w11
    clear k_w11
    clear hbn
    rw [decide_eq_true (rfl : xs = xs)]
    go_wp2_with fail
    go_ret
    exact ⟨rfl, k_w_w12⟩
end Go.Proofs.Ytgjcajffkhjlbaa
