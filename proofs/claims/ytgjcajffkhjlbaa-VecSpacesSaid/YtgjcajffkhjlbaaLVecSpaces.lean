/-
  The statement VecSpaces as a walk: it answers true and leaves all memory that was there as it was. Condition: the three arguments read as lists of int32 within the form's reach.
-/
import Derived.Test.YtgjcajffkhjlbaaLaw03
import Derived.Test.YtgjcajffkhjlbaaOpen
import Derived.Test.YtgjcajffkhjlbaaVecMath
namespace Go.Proofs.Ytgjcajffkhjlbaa
open Go.RowKit
set_option linter.unusedVariables false
set_option linter.unusedSimpArgs false

set_option maxHeartbeats 1600000 in
set_option maxRecDepth 100000 in
theorem VecSpaces_law (A : Option Addr) (c : Nat) (xs : List Int) (B : Option Addr) (d : Nat) (ys : List Int) (C : Option Addr) (f : Nat) (zs : List Int) (w : World)
    (ha : Rd w .i32 A xs) (ra : ∀ n ∈ xs, (Lit.int .i32 n).wf = true) (na : A = none → xs = [] ∧ c = 0) (la : xs.length * 4 ≤ 140737488351232)
    (hb : Rd w .i32 B ys) (rb : ∀ n ∈ ys, (Lit.int .i32 n).wf = true) (nb : B = none → ys = [] ∧ d = 0) (lb : ys.length * 4 ≤ 140737488351232)
    (hc : Rd w .i32 C zs) (rc : ∀ n ∈ zs, (Lit.int .i32 n).wf = true) (nc : C = none → zs = [] ∧ f = 0) (lc : zs.length * 4 ≤ 140737488351232) :
    Calls Try.prog 6 #[.slice A xs.length c, .slice B ys.length d, .slice C zs.length f] w fun e w' => e = .returned (.bool true) ∧ Below w.heap.size w w' := by
  clear na nb nc
  replace ra := Lib.hid (r32_of_wf ra)
  replace rb := Lib.hid (r32_of_wf rb)
  replace rc := Lib.hid (r32_of_wf rc)
  have KA := Lib.hid ha
  have KB := Lib.hid hb
  have KC := Lib.hid hc
  clear ha hb hc
  obtain ⟨f1, E1'⟩ : ∃ p, decide (xs.length ≤ 1100 ∧ ys.length ≤ 1100) = p := ⟨_, rfl⟩
  obtain ⟨f2, E2'⟩ : ∃ p, decide (ys.length ≤ 1100 ∧ zs.length ≤ 1100) = p := ⟨_, rfl⟩
  obtain ⟨c1, E3'⟩ : ∃ p, checkV xs (xs.length : Int) = p := ⟨_, rfl⟩
  obtain ⟨c2, E4'⟩ : ∃ p, checkV ys (xs.length : Int) = p := ⟨_, rfl⟩
  obtain ⟨c3, E5'⟩ : ∃ p, checkV zs (xs.length : Int) = p := ⟨_, rfl⟩
  obtain ⟨p1, E6'⟩ : ∃ p, wrap64 (far xs ys) = p := ⟨_, rfl⟩
  obtain ⟨p2, E7'⟩ : ∃ p, wrap64 (far ys zs) = p := ⟨_, rfl⟩
  obtain ⟨p3, E8'⟩ : ∃ p, wrap64 (far xs zs) = p := ⟨_, rfl⟩
  obtain ⟨p5, E10'⟩ : ∃ p, wrap64 (dot xs zs) = p := ⟨_, rfl⟩
  obtain ⟨p6, E11'⟩ : ∃ p, wrap64 (dot ys zs) = p := ⟨_, rfl⟩
  have E1 := Lib.hid E1'
  have E2 := Lib.hid E2'
  have E3 := Lib.hid E3'
  have E4 := Lib.hid E4'
  have E5 := Lib.hid E5'
  have E6 := Lib.hid E6'
  have E7 := Lib.hid E7'
  have E8 := Lib.hid E8'
  have E10 := Lib.hid E10'
  have E11 := Lib.hid E11'
  clear E1' E2' E3' E4' E5' E6' E7' E8' E10' E11'
  go_enter Try.func6, Try.ntmps6
  have k_w : Below w.heap.size w w := Below.refl _ _
  go_wp2_with fail
  refine (awake_calls _  ).mono ?_
  rintro e w1 ⟨he, hbn⟩
  subst he
  have k_w_w1 : Below w.heap.size w w1 := k_w.trans (hbn.mono k_w.size)
  clear k_w
  clear hbn
  go_wp2_with fail
  refine (few_calls A B xs.length ys.length c d _  ).mono ?_
  rintro e _ ⟨he, rfl⟩
  rw [E1.out] at he
  subst he
  cases f1 with
  | false =>
    go_wp2_with fail
    go_ret
    exact ⟨rfl, k_w_w1⟩
  | true =>
    go_wp2_with fail
    refine (few_calls B C ys.length zs.length d f _  ).mono ?_
    rintro e _ ⟨he, rfl⟩
    rw [E2.out] at he
    subst he
    cases f2 with
    | false =>
      go_wp2_with fail
      go_ret
      exact ⟨rfl, k_w_w1⟩
    | true =>
      go_wp2_with fail
      refine (Check_calls A c xs (xs.length : Int) _ (KA.out.below k_w_w1) ).mono ?_
      rintro e _ ⟨he, rfl⟩
      rw [E3.out] at he
      subst he
      by_cases hc1 : ¬ c1 = 0
      · have t1 : (c1 != 0) = true := by simp [hc1]
        clear hc1
        go_wp2_with fail
        go_ret
        exact ⟨rfl, k_w_w1⟩
      replace hc1 := Decidable.not_not.1 hc1
      have t1 : (c1 != 0) = false := by simp [hc1]
      have c10 := Lib.hid hc1
      clear hc1
      go_wp2_with fail
      refine (Check_calls B d ys (xs.length : Int) _ (KB.out.below k_w_w1) ).mono ?_
      rintro e _ ⟨he, rfl⟩
      rw [E4.out] at he
      subst he
      by_cases hc2 : ¬ c2 = 0
      · have t2 : (c2 != 0) = true := by simp [hc2]
        clear hc2
        go_wp2_with fail
        go_ret
        exact ⟨rfl, k_w_w1⟩
      replace hc2 := Decidable.not_not.1 hc2
      have t2 : (c2 != 0) = false := by simp [hc2]
      have c20 := Lib.hid hc2
      clear hc2
      go_wp2_with fail
      refine (Check_calls C f zs (xs.length : Int) _ (KC.out.below k_w_w1) ).mono ?_
      rintro e _ ⟨he, rfl⟩
      rw [E5.out] at he
      subst he
      by_cases hc3 : ¬ c3 = 0
      · have t3 : (c3 != 0) = true := by simp [hc3]
        clear hc3
        go_wp2_with fail
        go_ret
        exact ⟨rfl, k_w_w1⟩
      replace hc3 := Decidable.not_not.1 hc3
      have t3 : (c3 != 0) = false := by simp [hc3]
      have c30 := Lib.hid hc3
      clear hc3
      have H : Hid (1 ≤ xs.length ∧ xs.length ≤ 1024 ∧ ys.length = xs.length ∧ zs.length = xs.length ∧ B20 xs ∧ B20 ys ∧ B20 zs) := by
        have h1 := checkV_zero (E3.out.trans c10.out)
        have h2 := checkV_zero (E4.out.trans c20.out)
        have h3 := checkV_zero (E5.out.trans c30.out)
        exact ⟨by omega, by omega, by omega, by omega, h1.2.2.2, h2.2.2.2, h3.2.2.2⟩
      have t4 : decide (p3 ≤ wrap64 (2 * wrap64 (p1 + p2))) = true := by
        obtain ⟨g1, g2, g3, g4, g5, g6, g7⟩ := H.out
        have b1 := far_bd g5 g6 g2
        have b2 := far_bd g6 g7 (by omega)
        have b3 := far_bd g5 g7 g2
        have b4 := far_bend xs ys zs g3 g4
        rw [← E6.out, ← E7.out, ← E8.out, wrap64_id (far xs ys) (by omega), wrap64_id (far ys zs) (by omega), wrap64_id (far xs zs) (by omega), wrap64_id (far xs ys + far ys zs) (by omega), wrap64_id _ (by omega)]
        exact decide_eq_true b4
      obtain ⟨X, hX⟩ : ∃ X, less xs ys = X := ⟨_, rfl⟩
      obtain ⟨p4, hp4⟩ : ∃ p, wrap64 (dot X zs) = p := ⟨_, rfl⟩
      have EX := Lib.hid hX
      have E9 := Lib.hid hp4
      have RX : Hid (R32 X) := by rw [← hX]; exact R32.less _ _
      have t5 : (p4 == wrap64 (p5 - p6)) = true := by
        obtain ⟨g1, g2, g3, g4, g5, g6, g7⟩ := H.out
        rw [← E9.out, ← E10.out, ← E11.out, ← EX.out, dot_less g5 g6 g3 g4, wrap64_sub, wrap64_sub', beq_iff_eq]
      clear hX hp4
      go_wp2_with fail
      refine (Far_b A B c d xs ys _ (KA.out.below k_w_w1) (KB.out.below k_w_w1) ra.out rb.out).mono ?_
      rintro e w2 ⟨he, hbn⟩
      rw [E6.out] at he
      subst he
      have k_w_w2 : Below w.heap.size w w2 := k_w_w1.trans (hbn.mono k_w_w1.size)
      clear k_w_w1
      clear hbn
      go_wp2_with fail
      refine (Far_b B C d f ys zs _ (KB.out.below k_w_w2) (KC.out.below k_w_w2) rb.out rc.out).mono ?_
      rintro e w3 ⟨he, hbn⟩
      rw [E7.out] at he
      subst he
      have k_w_w3 : Below w.heap.size w w3 := k_w_w2.trans (hbn.mono k_w_w2.size)
      clear k_w_w2
      clear hbn
      go_wp2_with fail
      refine (Far_b A C c f xs zs _ (KA.out.below k_w_w3) (KC.out.below k_w_w3) ra.out rc.out).mono ?_
      rintro e w4 ⟨he, hbn⟩
      rw [E8.out] at he
      subst he
      have k_w_w4 : Below w.heap.size w w4 := k_w_w3.trans (hbn.mono k_w_w3.size)
      clear k_w_w3
      clear hbn
      go_wp2_with fail
      refine (Less_calls A B c d xs ys _ (KA.out.below k_w_w4) (KB.out.below k_w_w4) (by omega)).mono ?_
      rintro e w5 ⟨v4, he, ho, hbn, hblk⟩
      subst he
      rw [EX.out] at ho
      obtain ⟨AX, cx, hv, hcx, hRX⟩ := ho.shape
      subst hv
      have KX := Lib.hid hRX
      clear ho hblk hRX
      have k_w_w5 : Below w.heap.size w w5 := k_w_w4.trans (hbn.mono k_w_w4.size)
      clear k_w_w4
      clear hbn
      have k_w5 : Below w5.heap.size w5 w5 := Below.refl _ _
      go_wp2_with fail
      refine (Dot_b AX C cx f X zs _ (KX.out.below k_w5) (KC.out.below k_w_w5) RX.out rc.out).mono ?_
      rintro e w6 ⟨he, hbn⟩
      rw [E9.out] at he
      subst he
      have k_w_w6 : Below w.heap.size w w6 := k_w_w5.trans (hbn.mono k_w_w5.size)
      have k_w5_w6 : Below w5.heap.size w5 w6 := k_w5.trans (hbn.mono k_w5.size)
      clear k_w_w5
      clear k_w5
      clear hbn
      go_wp2_with fail
      refine (Dot_b A C c f xs zs _ (KA.out.below k_w_w6) (KC.out.below k_w_w6) ra.out rc.out).mono ?_
      rintro e w7 ⟨he, hbn⟩
      rw [E10.out] at he
      subst he
      have k_w_w7 : Below w.heap.size w w7 := k_w_w6.trans (hbn.mono k_w_w6.size)
      have k_w5_w7 : Below w5.heap.size w5 w7 := k_w5_w6.trans (hbn.mono k_w5_w6.size)
      clear k_w_w6
      clear k_w5_w6
      clear hbn
      go_wp2_with fail
      refine (Dot_b B C d f ys zs _ (KB.out.below k_w_w7) (KC.out.below k_w_w7) rb.out rc.out).mono ?_
      rintro e w8 ⟨he, hbn⟩
      rw [E11.out] at he
      subst he
      have k_w_w8 : Below w.heap.size w w8 := k_w_w7.trans (hbn.mono k_w_w7.size)
      have k_w5_w8 : Below w5.heap.size w5 w8 := k_w5_w7.trans (hbn.mono k_w5_w7.size)
      clear k_w_w7
      clear k_w5_w7
      clear hbn
      go_wp2_with fail
      go_ret
      exact ⟨rfl, k_w_w8⟩
end Go.Proofs.Ytgjcajffkhjlbaa
