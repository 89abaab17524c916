/-
  The statement PlaneBounds as a walk: it answers true and leaves all memory that was there as it was. Condition: the arguments read as a plane and a list of int32 within the form's reach.
-/
import Derived.Test.YtgjcajffkhjlbaaLaw11
import Derived.Test.YtgjcajffkhjlbaaOpen
import Derived.Test.YtgjcajffkhjlbaaPlaneMath
namespace Go.Proofs.Ytgjcajffkhjlbaa
open Go.RowKit
set_option linter.unusedVariables false
set_option linter.unusedSimpArgs false

theorem getD_zeros (n i : Nat) : (List.replicate n (0 : Int)).getD i 0 = 0 := by
  rcases Nat.lt_or_ge i n with h | h
  · simp [List.getD, h]
  · simp [List.getD, List.getElem?_eq_none (show (List.replicate n (0 : Int)).length ≤ i by simpa using h)]
theorem margin_zeros (n : Nat) (vs : List Int) : margin (List.replicate n 0) 0 vs = 0 := by
  have : dot (List.replicate n 0) vs = 0 := by
    unfold dot dotN
    rw [sumTo_congr (g := fun _ => 0) _ fun i _ => by rw [getD_zeros, Int.zero_mul], sumTo_const, Int.mul_zero]
  unfold margin
  rw [this]
  simp [wrap64]
theorem zeros_b21 (n : Nat) : B21 (List.replicate n 0) := fun x hx => by
  have := (List.mem_replicate.1 hx).2
  omega
set_option maxHeartbeats 1600000 in
set_option maxRecDepth 100000 in
theorem PlaneBounds_law (A : Option Addr) (c : Nat) (ns : List Int) (off : Int) (B : Option Addr) (d : Nat) (vs : List Int) (w : World)
    (hc0 : ns.length ≤ c) (hA : Rd w .i32 A ns) (rA : ∀ n ∈ ns, (Lit.int .i32 n).wf = true) (hoff : (Lit.int .i64 off).wf = true)
    (hB : Rd w .i32 B vs) (rB : ∀ n ∈ vs, (Lit.int .i32 n).wf = true) (nB : B = none → vs = [] ∧ d = 0) (lB : vs.length * 4 ≤ 140737488351232) :
    Calls Try.prog 12 #[.agg #[.slice A ns.length c, .int .i64 off], .slice B vs.length d] w fun e w' => e = .returned (.bool true) ∧ Below w.heap.size w w' := by
  replace rA := Lib.hid (r32_of_wf rA)
  replace rB := Lib.hid (r32_of_wf rB)
  have KA := Lib.hid hA
  have KB := Lib.hid hB
  replace hoff := i64_of_wf hoff
  clear hA hB nB
  obtain ⟨c1, E1'⟩ : ∃ p, checkP ns off (vs.length : Int) = p := ⟨_, rfl⟩
  obtain ⟨c2, E2'⟩ : ∃ p, checkV vs (vs.length : Int) = p := ⟨_, rfl⟩
  have E1 := Lib.hid E1'
  have E2 := Lib.hid E2'
  clear E1' E2'
  by_cases hn : 1024 < vs.length
  · have hn' : decide (1024 < (vs.length : Int)) = true := by simp; omega
    have k_w : Below w.heap.size w w := Below.refl _ _
    go_enter Try.func12, Try.ntmps12
    go_wp2_with fail
    obtain ⟨w1, hw⟩ : ∃ W, w.alloc (.cells #[.slice A ns.length c, .int .i64 off] 30) = W := ⟨_, rfl⟩
    rw [hw]
    have hbn : Below w.heap.size w w1 := by rw [← hw]; exact below_alloc1 (Below.refl _ _) _
    have b3 : w1.heap[w.heap.size]? = some (.cells #[.slice A ns.length c, .int .i64 off] 30 (0, 0)) := by rw [← hw]; exact heap_alloc_new _ _
    clear hw
    have k_w_w1 : Below w.heap.size w w1 := k_w.trans (hbn.mono k_w.size)
    clear k_w
    clear hbn
    have b2 := b3
    clear b3
    have h_p0 : w1.cell? ⟨w.heap.size, 0, none⟩ = some (.slice A ns.length c) := by simp [World.cell?, b2]
    have h_p1 : w1.cell? ⟨w.heap.size, 1, none⟩ = some (.int .i64 off) := by simp [World.cell?, b2]
    have b_p := Lib.hid b2
    clear b2
    go_wp2_with fail
    refine (awake_calls _  ).mono ?_
    rintro e w2 ⟨he, hbn⟩
    subst he
    have k_w_w2 : Below w.heap.size w w2 := k_w_w1.trans (hbn.mono k_w_w1.size)
    clear k_w_w1
    have b2 := obj_below hbn b_p.out (obj_lt b_p.out)
    clear b_p h_p0 h_p1
    have h_p0 : w2.cell? ⟨w.heap.size, 0, none⟩ = some (.slice A ns.length c) := by simp [World.cell?, b2]
    have h_p1 : w2.cell? ⟨w.heap.size, 1, none⟩ = some (.int .i64 off) := by simp [World.cell?, b2]
    have b_p := Lib.hid b2
    clear b2
    clear hbn
    go_wp2_with fail
    go_ret
    exact ⟨rfl, k_w_w2⟩
  have hn' : decide (1024 < (vs.length : Int)) = false := by simp; omega
  replace hn : vs.length ≤ 1024 := by omega
  have k_w : Below w.heap.size w w := Below.refl _ _
  go_enter Try.func12, Try.ntmps12
  go_wp2_with fail
  obtain ⟨w1, hw⟩ : ∃ W, w.alloc (.cells #[.slice A ns.length c, .int .i64 off] 30) = W := ⟨_, rfl⟩
  rw [hw]
  have hbn : Below w.heap.size w w1 := by rw [← hw]; exact below_alloc1 (Below.refl _ _) _
  have b3 : w1.heap[w.heap.size]? = some (.cells #[.slice A ns.length c, .int .i64 off] 30 (0, 0)) := by rw [← hw]; exact heap_alloc_new _ _
  clear hw
  have k_w_w1 : Below w.heap.size w w1 := k_w.trans (hbn.mono k_w.size)
  clear k_w
  clear hbn
  have b2 := b3
  clear b3
  have h_p0 : w1.cell? ⟨w.heap.size, 0, none⟩ = some (.slice A ns.length c) := by simp [World.cell?, b2]
  have h_p1 : w1.cell? ⟨w.heap.size, 1, none⟩ = some (.int .i64 off) := by simp [World.cell?, b2]
  have b_p := Lib.hid b2
  clear b2
  go_wp2_with fail
  refine (awake_calls _  ).mono ?_
  rintro e w2 ⟨he, hbn⟩
  subst he
  have k_w_w2 : Below w.heap.size w w2 := k_w_w1.trans (hbn.mono k_w_w1.size)
  clear k_w_w1
  have b2 := obj_below hbn b_p.out (obj_lt b_p.out)
  clear b_p h_p0 h_p1
  have h_p0 : w2.cell? ⟨w.heap.size, 0, none⟩ = some (.slice A ns.length c) := by simp [World.cell?, b2]
  have h_p1 : w2.cell? ⟨w.heap.size, 1, none⟩ = some (.int .i64 off) := by simp [World.cell?, b2]
  have b_p := Lib.hid b2
  clear b2
  clear hbn
  go_wp2_with fail
  refine (pCheck_calls A c ns off (vs.length : Int) _ (KA.out.below k_w_w2) ).mono ?_
  rintro e w3 ⟨he, hbn⟩
  rw [E1.out] at he
  subst he
  have k_w_w3 : Below w.heap.size w w3 := k_w_w2.trans (hbn.mono k_w_w2.size)
  clear k_w_w2
  have b2 := obj_below hbn b_p.out (obj_lt b_p.out)
  clear b_p h_p0 h_p1
  have h_p0 : w3.cell? ⟨w.heap.size, 0, none⟩ = some (.slice A ns.length c) := by simp [World.cell?, b2]
  have h_p1 : w3.cell? ⟨w.heap.size, 1, none⟩ = some (.int .i64 off) := by simp [World.cell?, b2]
  have b_p := Lib.hid b2
  clear b2
  clear hbn
  by_cases hc1 : ¬ c1 = 0
  · have t1 : (c1 != 0) = true := by simp [hc1]
    clear hc1
    go_wp2_with fail
    go_ret
    exact ⟨rfl, k_w_w3⟩
  replace hc1 := Decidable.not_not.1 hc1
  have t1 : (c1 != 0) = false := by simp [hc1]
  have c10 := Lib.hid hc1
  clear hc1
  go_wp2_with fail
  refine (Check_calls B d vs (vs.length : Int) _ (KB.out.below k_w_w3) ).mono ?_
  rintro e _ ⟨he, rfl⟩
  rw [E2.out] at he
  subst he
  by_cases hc2 : ¬ c2 = 0
  · have t2 : (c2 != 0) = true := by simp [hc2]
    clear hc2
    go_wp2_with fail
    go_ret
    exact ⟨rfl, k_w_w3⟩
  replace hc2 := Decidable.not_not.1 hc2
  have t2 : (c2 != 0) = false := by simp [hc2]
  have c20 := Lib.hid hc2
  clear hc2
  have g1 := checkP_zero (E1.out.trans c10.out)
  have g2 := checkV_zero (E2.out.trans c20.out)
  obtain ⟨g3, g4, g5, g6, g7, g8⟩ := g1
  have b1 := dot_bd2 g6 g2.2.2.2 (by omega)
  have q1 : margin ns off vs = 2 * dot ns vs - off := wrap64_id _ (by omega)
  have q3 := checkP_ok (dim := vs.length) (ns := List.replicate vs.length 0) (off := 0) (by omega) (by omega) (by simp) (zeros_b21 _) (by omega)
  have q4 := margin_zeros vs.length vs
  obtain ⟨m, hm⟩ : ∃ m, margin ns off vs = m := ⟨_, rfl⟩
  rw [hm] at q1
  have t3 : decide (-18014398509481984 ≤ m) = true := decide_eq_true (by omega)
  have t4 : decide (m ≤ 18014398509481984) = true := decide_eq_true (by omega)
  have t5 : ((0 : Int) == 0) = true := by simp
  have EM := Lib.hid hm
  obtain ⟨Z, hZ⟩ : ∃ Z, List.replicate vs.length (0 : Int) = Z := ⟨_, rfl⟩
  rw [hZ] at q3 q4
  have Q3 := Lib.hid q3
  have Q4 := Lib.hid q4
  have Q5 : Hid (decide (0 ≤ margin Z 0 vs) = true) := by rw [q4]; rfl
  have RZ : Hid (R32 Z) := by rw [← hZ]; exact (zeros_b21 _).r32
  have HZ : Hid (List.replicate (if (vs.length : Int) < 0 ∨ 1024 < (vs.length : Int) then 0 else (vs.length : Int).toNat) (0 : Int) = Z) := by
    rw [if_neg (by omega)]
    exact hZ
  clear q1 q3 q4 hm g2 g3 g4 g5 g6 g7 g8 b1 hZ
  go_wp2_with fail
  refine (Margin_calls A B c d ns vs off _ (KA.out.below k_w_w3) (KB.out.below k_w_w3) rA.out rB.out).mono ?_
  rintro e w4 ⟨he, hbn⟩
  rw [EM.out] at he
  subst he
  have k_w_w4 : Below w.heap.size w w4 := k_w_w3.trans (hbn.mono k_w_w3.size)
  clear k_w_w3
  have b2 := obj_below hbn b_p.out (obj_lt b_p.out)
  clear b_p h_p0 h_p1
  have h_p0 : w4.cell? ⟨w.heap.size, 0, none⟩ = some (.slice A ns.length c) := by simp [World.cell?, b2]
  have h_p1 : w4.cell? ⟨w.heap.size, 1, none⟩ = some (.int .i64 off) := by simp [World.cell?, b2]
  have b_p := Lib.hid b2
  clear b2
  clear hbn
  go_wp2_with fail
  refine (Flat_calls (vs.length : Int) _ (by omega)).mono ?_
  rintro e w5 ⟨v4, he, ho, hbn⟩
  subst he
  rw [HZ.out] at ho
  obtain ⟨AZ, cZ, hv, hcv, hRV⟩ := ho.shape
  subst hv
  have KZ := Lib.hid hRV
  clear ho hRV hcv
  have k_w_w5 : Below w.heap.size w w5 := k_w_w4.trans (hbn.mono k_w_w4.size)
  clear k_w_w4
  have b2 := obj_below hbn b_p.out (obj_lt b_p.out)
  clear b_p h_p0 h_p1
  have h_p0 : w5.cell? ⟨w.heap.size, 0, none⟩ = some (.slice A ns.length c) := by simp [World.cell?, b2]
  have h_p1 : w5.cell? ⟨w.heap.size, 1, none⟩ = some (.int .i64 off) := by simp [World.cell?, b2]
  have b_p := Lib.hid b2
  clear b2
  clear hbn
  have z_w_w5 := k_w_w5.size
  have k_w5 : Below w5.heap.size w5 w5 := Below.refl _ _
  go_wp2_with fail
  obtain ⟨w6, hw⟩ : ∃ W, w5.alloc (.cells #[.slice AZ Z.length cZ, .int .i64 0] 30) = W := ⟨_, rfl⟩
  rw [hw]
  have hbn : Below w5.heap.size w5 w6 := by rw [← hw]; exact below_alloc1 (Below.refl _ _) _
  have b3 : w6.heap[w5.heap.size]? = some (.cells #[.slice AZ Z.length cZ, .int .i64 0] 30 (0, 0)) := by rw [← hw]; exact heap_alloc_new _ _
  clear hw
  have k_w_w6 : Below w.heap.size w w6 := k_w_w5.trans (hbn.mono k_w_w5.size)
  have k_w5_w6 : Below w5.heap.size w5 w6 := k_w5.trans (hbn.mono k_w5.size)
  clear k_w_w5
  clear k_w5
  have b2 := obj_below hbn b_p.out (obj_lt b_p.out)
  clear b_p h_p0 h_p1
  have h_p0 : w6.cell? ⟨w.heap.size, 0, none⟩ = some (.slice A ns.length c) := by simp [World.cell?, b2]
  have h_p1 : w6.cell? ⟨w.heap.size, 1, none⟩ = some (.int .i64 off) := by simp [World.cell?, b2]
  have b_p := Lib.hid b2
  clear b2
  clear hbn
  have b2 := b3
  clear b3
  have h_f0 : w6.cell? ⟨w5.heap.size, 0, none⟩ = some (.slice AZ Z.length cZ) := by simp [World.cell?, b2]
  have h_f1 : w6.cell? ⟨w5.heap.size, 1, none⟩ = some (.int .i64 0) := by simp [World.cell?, b2]
  have b_f := Lib.hid b2
  clear b2
  go_wp2_with fail
  refine (Margin_calls AZ B cZ d Z vs 0 _ (KZ.out.below k_w5_w6) (KB.out.below k_w_w6) RZ.out rB.out).mono ?_
  rintro e w7 ⟨he, hbn⟩
  rw [Q4.out] at he
  subst he
  have k_w_w7 : Below w.heap.size w w7 := k_w_w6.trans (hbn.mono k_w_w6.size)
  have k_w5_w7 : Below w5.heap.size w5 w7 := k_w5_w6.trans (hbn.mono k_w5_w6.size)
  clear k_w_w6
  clear k_w5_w6
  have b2 := obj_below hbn b_p.out (obj_lt b_p.out)
  clear b_p h_p0 h_p1
  have h_p0 : w7.cell? ⟨w.heap.size, 0, none⟩ = some (.slice A ns.length c) := by simp [World.cell?, b2]
  have h_p1 : w7.cell? ⟨w.heap.size, 1, none⟩ = some (.int .i64 off) := by simp [World.cell?, b2]
  have b_p := Lib.hid b2
  clear b2
  have b2 := obj_below hbn b_f.out (obj_lt b_f.out)
  clear b_f h_f0 h_f1
  have h_f0 : w7.cell? ⟨w5.heap.size, 0, none⟩ = some (.slice AZ Z.length cZ) := by simp [World.cell?, b2]
  have h_f1 : w7.cell? ⟨w5.heap.size, 1, none⟩ = some (.int .i64 0) := by simp [World.cell?, b2]
  have b_f := Lib.hid b2
  clear b2
  clear hbn
  go_wp2_with fail
  refine (Side_calls AZ B cZ d Z vs 0 _ (KZ.out.below k_w5_w7) (KB.out.below k_w_w7) RZ.out rB.out).mono ?_
  rintro e w8 ⟨he, hbn⟩
  rw [Q5.out] at he
  subst he
  have k_w_w8 : Below w.heap.size w w8 := k_w_w7.trans (hbn.mono k_w_w7.size)
  have k_w5_w8 : Below w5.heap.size w5 w8 := k_w5_w7.trans (hbn.mono k_w5_w7.size)
  clear k_w_w7
  clear k_w5_w7
  have b2 := obj_below hbn b_p.out (obj_lt b_p.out)
  clear b_p h_p0 h_p1
  have h_p0 : w8.cell? ⟨w.heap.size, 0, none⟩ = some (.slice A ns.length c) := by simp [World.cell?, b2]
  have h_p1 : w8.cell? ⟨w.heap.size, 1, none⟩ = some (.int .i64 off) := by simp [World.cell?, b2]
  have b_p := Lib.hid b2
  clear b2
  have b2 := obj_below hbn b_f.out (obj_lt b_f.out)
  clear b_f h_f0 h_f1
  have h_f0 : w8.cell? ⟨w5.heap.size, 0, none⟩ = some (.slice AZ Z.length cZ) := by simp [World.cell?, b2]
  have h_f1 : w8.cell? ⟨w5.heap.size, 1, none⟩ = some (.int .i64 0) := by simp [World.cell?, b2]
  have b_f := Lib.hid b2
  clear b2
  clear hbn
  go_wp2_with fail
  refine (pCheck_calls AZ cZ Z 0 (vs.length : Int) _ (KZ.out.below k_w5_w8) ).mono ?_
  rintro e w9 ⟨he, hbn⟩
  rw [Q3.out] at he
  subst he
  have k_w_w9 : Below w.heap.size w w9 := k_w_w8.trans (hbn.mono k_w_w8.size)
  have k_w5_w9 : Below w5.heap.size w5 w9 := k_w5_w8.trans (hbn.mono k_w5_w8.size)
  clear k_w_w8
  clear k_w5_w8
  have b2 := obj_below hbn b_p.out (obj_lt b_p.out)
  clear b_p h_p0 h_p1
  have h_p0 : w9.cell? ⟨w.heap.size, 0, none⟩ = some (.slice A ns.length c) := by simp [World.cell?, b2]
  have h_p1 : w9.cell? ⟨w.heap.size, 1, none⟩ = some (.int .i64 off) := by simp [World.cell?, b2]
  have b_p := Lib.hid b2
  clear b2
  have b2 := obj_below hbn b_f.out (obj_lt b_f.out)
  clear b_f h_f0 h_f1
  have h_f0 : w9.cell? ⟨w5.heap.size, 0, none⟩ = some (.slice AZ Z.length cZ) := by simp [World.cell?, b2]
  have h_f1 : w9.cell? ⟨w5.heap.size, 1, none⟩ = some (.int .i64 0) := by simp [World.cell?, b2]
  have b_f := Lib.hid b2
  clear b2
  clear hbn
  go_wp2_with fail
  go_ret
  exact ⟨rfl, k_w_w9⟩
end Go.Proofs.Ytgjcajffkhjlbaa
