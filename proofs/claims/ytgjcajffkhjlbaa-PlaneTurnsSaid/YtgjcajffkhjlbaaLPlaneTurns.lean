/-
  The statement PlaneTurns as a walk: it answers true and leaves all memory that was there as it was. Condition: the three arguments read as lists of int32 within the form's reach.
-/
import Derived.Test.YtgjcajffkhjlbaaLaw11
import Derived.Test.YtgjcajffkhjlbaaOpen
import Derived.Test.YtgjcajffkhjlbaaPlaneMath
namespace Go.Proofs.Ytgjcajffkhjlbaa
open Go.RowKit
set_option linter.unusedVariables false
set_option linter.unusedSimpArgs false

theorem less_swap {xs ys : List Int} (hx : B20 xs) (hy : B20 ys) (h1 : ys.length = xs.length) : less xs ys = less ys xs ↔ xs = ys := by
  constructor
  · intro h
    refine ext32 h1.symm fun j hj => ?_
    have e : (less xs ys).getD j 0 = (less ys xs).getD j 0 := by rw [h]
    rw [less_get hx hy j (by omega), less_get hy hx j (by omega)] at e
    omega
  · rintro rfl; rfl
theorem off_swap {xs ys : List Int} (hx : B20 xs) (hy : B20 ys) (hn : xs.length ≤ 1024) (h1 : ys.length = xs.length) : betweenOff ys xs = -betweenOff xs ys := by
  rw [(btw_off hx hy hn).1, (btw_off hy hx (by omega)).1, dot_less hx hy h1 rfl, dot_less hx hy h1 h1, dot_less hy hx h1.symm h1.symm, dot_less hy hx h1.symm rfl]
  have := dot_comm xs ys
  omega
theorem same_swap {xs ys : List Int} (hx : B20 xs) (hy : B20 ys) (hn : xs.length ≤ 1024) (h1 : ys.length = xs.length) : (decide (betweenOff xs ys = betweenOff ys xs) && decide (less xs ys = less ys xs)) = decide (xs = ys) := by
  by_cases h : xs = ys
  · subst h; simp
  · rw [decide_eq_false h, decide_eq_false (fun e => h ((less_swap hx hy h1).1 e)), Bool.and_false]

set_option maxHeartbeats 1600000 in
set_option maxRecDepth 100000 in
theorem PlaneTurns_law (A : Option Addr) (c : Nat) (xs : List Int) (B : Option Addr) (d : Nat) (ys : List Int) (C : Option Addr) (f : Nat) (vs : List Int) (w : World)
    (hA : Rd w .i32 A xs) (rA : ∀ n ∈ xs, (Lit.int .i32 n).wf = true) (nA : A = none → xs = [] ∧ c = 0) (lA : xs.length * 4 ≤ 140737488351232)
    (hB : Rd w .i32 B ys) (rB : ∀ n ∈ ys, (Lit.int .i32 n).wf = true) (nB : B = none → ys = [] ∧ d = 0) (lB : ys.length * 4 ≤ 140737488351232)
    (hC : Rd w .i32 C vs) (rC : ∀ n ∈ vs, (Lit.int .i32 n).wf = true) (nC : C = none → vs = [] ∧ f = 0) (lC : vs.length * 4 ≤ 140737488351232)
    : Calls Try.prog 7 #[.slice A xs.length c, .slice B ys.length d, .slice C vs.length f] w fun e w' => e = .returned (.bool true) ∧ Below w.heap.size w w' := by
  replace rA := Lib.hid (r32_of_wf rA)
  have KA := Lib.hid hA
  clear hA nA
  replace rB := Lib.hid (r32_of_wf rB)
  have KB := Lib.hid hB
  clear hB nB
  replace rC := Lib.hid (r32_of_wf rC)
  have KC := Lib.hid hC
  clear hC nC
  obtain ⟨c1, E1'⟩ : ∃ p, checkV xs (xs.length : Int) = p := ⟨_, rfl⟩
  obtain ⟨c2, E2'⟩ : ∃ p, checkV ys (xs.length : Int) = p := ⟨_, rfl⟩
  obtain ⟨c3, E3'⟩ : ∃ p, checkV vs (xs.length : Int) = p := ⟨_, rfl⟩
  have E1 := Lib.hid E1'
  have E2 := Lib.hid E2'
  have E3 := Lib.hid E3'
  clear E1' E2' E3'
  by_cases hn : 1024 < xs.length
  · have hn' : decide (1024 < (xs.length : Int)) = true := by simp; omega
    go_enter Try.func7, Try.ntmps7
    go_wp2_with fail
    refine (awake_calls _).mono ?_
    rintro e w1 ⟨rfl, hb1⟩
    go_wp2_with fail
    go_ret
    exact ⟨rfl, hb1⟩
  have hn' : decide (1024 < (xs.length : Int)) = false := by simp; omega
  replace hn : xs.length ≤ 1024 := by omega
  go_enter Try.func7, Try.ntmps7
  have k_w : Below w.heap.size w w := Below.refl _ _
  go_wp2_with fail
  refine (awake_calls _  ).mono ?_
  rintro e w1 ⟨he, hbn⟩
  subst he
  have k_w_w1 : Below w.heap.size w w1 := k_w.trans (hbn.mono k_w.size)
  clear k_w
  clear hbn
  go_wp2_with fail
  refine (Check_calls A c xs (xs.length : Int) _ (KA.out.below k_w_w1) ).mono ?_
  rintro e _ ⟨he, rfl⟩
  rw [E1.out] at he
  subst he
  by_cases hc1 : ¬ c1 = 0
  · have t1 : (c1 != 0) = true := by simp [hc1]
    clear hc1
    go_wp2_with fail
    go_ret
    exact ⟨rfl, k_w_w1⟩
  replace hc1 := Decidable.not_not.1 hc1
  have t1 : (c1 != 0) = false := by simp [hc1]
  have c10 := Lib.hid hc1
  clear hc1
  go_wp2_with fail
  refine (Check_calls B d ys (xs.length : Int) _ (KB.out.below k_w_w1) ).mono ?_
  rintro e _ ⟨he, rfl⟩
  rw [E2.out] at he
  subst he
  by_cases hc2 : ¬ c2 = 0
  · have t2 : (c2 != 0) = true := by simp [hc2]
    clear hc2
    go_wp2_with fail
    go_ret
    exact ⟨rfl, k_w_w1⟩
  replace hc2 := Decidable.not_not.1 hc2
  have t2 : (c2 != 0) = false := by simp [hc2]
  have c20 := Lib.hid hc2
  clear hc2
  go_wp2_with fail
  refine (Check_calls C f vs (xs.length : Int) _ (KC.out.below k_w_w1) ).mono ?_
  rintro e _ ⟨he, rfl⟩
  rw [E3.out] at he
  subst he
  by_cases hc3 : ¬ c3 = 0
  · have t3 : (c3 != 0) = true := by simp [hc3]
    clear hc3
    go_wp2_with fail
    go_ret
    exact ⟨rfl, k_w_w1⟩
  replace hc3 := Decidable.not_not.1 hc3
  have t3 : (c3 != 0) = false := by simp [hc3]
  have c30 := Lib.hid hc3
  clear hc3
  have H : Hid (1 ≤ xs.length ∧ ys.length = xs.length ∧ vs.length = xs.length ∧ B20 xs ∧ B20 ys ∧ B20 vs) := by
    have h1 := checkV_zero (E1.out.trans c10.out)
    have h2 := checkV_zero (E2.out.trans c20.out)
    have h3 := checkV_zero (E3.out.trans c30.out)
    exact ⟨by omega, by omega, by omega, h1.2.2.2, h2.2.2.2, h3.2.2.2⟩
  obtain ⟨g1, g2, g3, g4, g5, g6⟩ := H.out
  have q1 := btw_margin g4 g5 g6 hn g2 g3
  have q2 := btw_margin g5 g4 g6 (by omega) g2.symm (by omega)
  have q3 := same_swap g4 g5 hn g2
  have q4 : (less xs ys).length = xs.length := by rw [less_length]; omega
  have RL : Hid (R32 (less xs ys)) := R32.less _ _
  have RM : Hid (R32 (less ys xs)) := R32.less _ _
  have b1 := far_bd g6 g5 (by omega)
  have b2 := far_bd g6 g4 (by omega)
  obtain ⟨L, EL'⟩ : ∃ p, less xs ys = p := ⟨_, rfl⟩
  obtain ⟨off, EO'⟩ : ∃ p, betweenOff xs ys = p := ⟨_, rfl⟩
  obtain ⟨M, EM'⟩ : ∃ p, less ys xs = p := ⟨_, rfl⟩
  obtain ⟨off2, EP'⟩ : ∃ p, betweenOff ys xs = p := ⟨_, rfl⟩
  obtain ⟨m1, M1'⟩ : ∃ p, margin L off vs = p := ⟨_, rfl⟩
  obtain ⟨m2, M2'⟩ : ∃ p, margin M off2 vs = p := ⟨_, rfl⟩
  obtain ⟨z1, Z1'⟩ : ∃ p, decide (xs = ys) = p := ⟨_, rfl⟩
  rw [EL', EO', M1'] at q1
  rw [EM', EP', M2'] at q2
  rw [EL', EO', EM', EP', Z1'] at q3
  rw [EL'] at q4 RL
  rw [EM'] at RM
  have hm2 : -9223372036854775807 ≤ m2 ∧ m2 ≤ 9223372036854775807 := by omega
  have hm3 : m1 = -m2 := by omega
  have x1 : (m1 == -m2) = true := by rw [hm3]; simp
  have x4 : IntKind.i64.wrap (-m2) = -m2 := IntWalk.i64_in _ (by omega)
  have x2 : (z1 == z1) = true := by simp
  have x3 : ((L.length : Int) != (xs.length : Int)) = false := by rw [q4]; simp
  have Q3 := Lib.hid q3
  have hp : 0 < L.length := by rw [q4]; exact g1
  have hs : xs.length ≤ 35184372088832 := by omega
  have hs2 : ys.length ≤ 35184372088832 := by omega
  have EL := Lib.hid EL'
  have EO := Lib.hid EO'
  have EM := Lib.hid EM'
  have EP := Lib.hid EP'
  have M1 := Lib.hid M1'
  have M2 := Lib.hid M2'
  have Z1 := Lib.hid Z1'
  clear EL' EO' EM' EP' M1' M2' Z1'
  clear q1 q2 q3 q4 g1 g2 g3 g4 g5 g6 hm3 b1 b2
  go_wp2_with (first | (at_builtin; refine wpList_appI _ rfl (.tmp 37) (.tmp 38) 22 21 rfl .i32 4 Try.underlying22 info_i32 (by omega) w1.heap.size _ [] rfl A c xs rfl (Own.empty w1 _ _) w1 ((Below.refl _ _).alloc (Nat.le_refl _) _) (by simp) (((KA.out.below k_w_w1)).alloc _) (by simp; omega) ?_; intro v1 w2 ho hgrow hbn hat hnil; clear hat hnil hgrow; rw [List.nil_append] at ho; obtain ⟨Awas, cwas, hv, hcv, hRV⟩ := ho.shape; subst hv; have Kwas := Lib.hid hRV; have Owas := Lib.hid ho; clear ho hRV hcv; have k_w_w2 : Below w.heap.size w w2 := k_w_w1.trans (hbn.mono k_w_w1.size); clear k_w_w1; clear hbn; have z_w_w2 := k_w_w2.size; have k_w2 : Below w2.heap.size w2 w2 := Below.refl _ _) | (at_builtin; refine wpList_appI _ rfl (.tmp 40) (.tmp 41) 22 21 rfl .i32 4 Try.underlying22 info_i32 (by omega) w2.heap.size _ [] rfl B d ys rfl (Own.empty w2 _ _) w2 ((Below.refl _ _).alloc (Nat.le_refl _) _) (by simp) (((KB.out.below k_w_w2)).alloc _) (by simp; omega) ?_; intro v1 w3 ho hgrow hbn hat hnil; clear hat hnil hgrow; rw [List.nil_append] at ho; obtain ⟨Atoo, ctoo, hv, hcv, hRV⟩ := ho.shape; subst hv; have Ktoo := Lib.hid hRV; have Otoo := Lib.hid ho; clear ho hRV hcv; have k_w_w3 : Below w.heap.size w w3 := k_w_w2.trans (hbn.mono k_w_w2.size); have k_w2_w3 : Below w2.heap.size w2 w3 := k_w2.trans (hbn.mono k_w2.size); clear k_w_w2; clear k_w2; clear hbn; have z_w_w3 := k_w_w3.size; have z_w2_w3 := k_w2_w3.size; have k_w3 : Below w3.heap.size w3 w3 := Below.refl _ _))
  go_wp2_with fail
  refine (Between_calls A B c d xs ys _ (KA.out.below k_w_w3) (KB.out.below k_w_w3) rA.out rB.out hs).mono ?_
  rintro e w4 ⟨v4, he, ho, hbn⟩
  rw [EO.out] at he
  subst he
  rw [EL.out] at ho
  obtain ⟨AL, cL, hv, hcv, hRV⟩ := ho.shape
  subst hv
  have KL := Lib.hid hRV
  have OL := Lib.hid ho
  clear ho hRV hcv
  have k_w_w4 : Below w.heap.size w w4 := k_w_w3.trans (hbn.mono k_w_w3.size)
  have k_w2_w4 : Below w2.heap.size w2 w4 := k_w2_w3.trans (hbn.mono k_w2_w3.size)
  have k_w3_w4 : Below w3.heap.size w3 w4 := k_w3.trans (hbn.mono k_w3.size)
  clear k_w_w3
  clear k_w2_w3
  clear k_w3
  clear hbn
  have z_w_w4 := k_w_w4.size
  have z_w2_w4 := k_w2_w4.size
  have z_w3_w4 := k_w3_w4.size
  have k_w4 : Below w4.heap.size w4 w4 := Below.refl _ _
  go_wp2_with fail
  refine (Between_calls B A d c ys xs _ (KB.out.below k_w_w4) (KA.out.below k_w_w4) rB.out rA.out hs2).mono ?_
  rintro e w5 ⟨v4, he, ho, hbn⟩
  rw [EP.out] at he
  subst he
  rw [EM.out] at ho
  obtain ⟨AM, cM, hv, hcv, hRV⟩ := ho.shape
  subst hv
  have KM := Lib.hid hRV
  have OM := Lib.hid ho
  clear ho hRV hcv
  have k_w_w5 : Below w.heap.size w w5 := k_w_w4.trans (hbn.mono k_w_w4.size)
  have k_w2_w5 : Below w2.heap.size w2 w5 := k_w2_w4.trans (hbn.mono k_w2_w4.size)
  have k_w3_w5 : Below w3.heap.size w3 w5 := k_w3_w4.trans (hbn.mono k_w3_w4.size)
  have k_w4_w5 : Below w4.heap.size w4 w5 := k_w4.trans (hbn.mono k_w4.size)
  clear k_w_w4
  clear k_w2_w4
  clear k_w3_w4
  clear k_w4
  clear hbn
  have z_w_w5 := k_w_w5.size
  have z_w2_w5 := k_w2_w5.size
  have z_w3_w5 := k_w3_w5.size
  have z_w4_w5 := k_w4_w5.size
  have k_w5 : Below w5.heap.size w5 w5 := Below.refl _ _
  go_wp2_with fail
  obtain ⟨w6, hw⟩ : ∃ W, ((w5.alloc (.cells #[.slice AL L.length cL, .int .i64 off] 30)).alloc (.cells #[.slice AM M.length cM, .int .i64 off2] 30)) = W := ⟨_, rfl⟩
  rw [hw]
  have hbn : Below w5.heap.size w5 w6 := by rw [← hw]; exact below_alloc1 (below_alloc1 (Below.refl _ _) _) _
  have b3p : w6.heap[w5.heap.size]? = some (.cells #[.slice AL L.length cL, .int .i64 off] 30 (0, 0)) := by
    have hx := heap_alloc_new w5 (.cells #[.slice AL L.length cL, .int .i64 off] 30)
    rw [← hw]
    exact obj_below (B := w5.heap.size + 1) (by first | exact (Below.refl _ _).alloc (by simp) _ | exact ((Below.refl _ _).alloc (by simp) _).alloc (by simp) _ | exact (((Below.refl _ _).alloc (by simp) _).alloc (by simp) _).alloc (by simp) _) hx (by omega)
  have b3q : w6.heap[w5.heap.size + 1]? = some (.cells #[.slice AM M.length cM, .int .i64 off2] 30 (0, 0)) := by
    have hx := heap_alloc_new (w5.alloc (.cells #[.slice AL L.length cL, .int .i64 off] 30)) (.cells #[.slice AM M.length cM, .int .i64 off2] 30)
    simp only [World.size_alloc] at hx
    rw [← hw]
    exact hx
  clear hw
  have k_w_w6 : Below w.heap.size w w6 := k_w_w5.trans (hbn.mono k_w_w5.size)
  have k_w2_w6 : Below w2.heap.size w2 w6 := k_w2_w5.trans (hbn.mono k_w2_w5.size)
  have k_w3_w6 : Below w3.heap.size w3 w6 := k_w3_w5.trans (hbn.mono k_w3_w5.size)
  have k_w4_w6 : Below w4.heap.size w4 w6 := k_w4_w5.trans (hbn.mono k_w4_w5.size)
  have k_w5_w6 : Below w5.heap.size w5 w6 := k_w5.trans (hbn.mono k_w5.size)
  clear k_w_w5
  clear k_w2_w5
  clear k_w3_w5
  clear k_w4_w5
  clear k_w5
  clear hbn
  have b2 := b3p
  clear b3p
  have h_p0 : w6.cell? ⟨w5.heap.size, 0, none⟩ = some (.slice AL L.length cL) := by simp [World.cell?, b2]
  have h_p1 : w6.cell? ⟨w5.heap.size, 1, none⟩ = some (.int .i64 off) := by simp [World.cell?, b2]
  have b_p := Lib.hid b2
  clear b2
  have b2 := b3q
  clear b3q
  have h_q0 : w6.cell? ⟨w5.heap.size + 1, 0, none⟩ = some (.slice AM M.length cM) := by simp [World.cell?, b2]
  have h_q1 : w6.cell? ⟨w5.heap.size + 1, 1, none⟩ = some (.int .i64 off2) := by simp [World.cell?, b2]
  have b_q := Lib.hid b2
  clear b2
  go_wp2_with fail
  go_region_held3 (fun w' => w'.cell? ⟨w5.heap.size, 0, none⟩ = some (.slice AL L.length cL) ∧ w'.cell? ⟨w5.heap.size, 1, none⟩ = some (.int .i64 off) ∧ w'.cell? ⟨w5.heap.size + 1, 0, none⟩ = some (.slice AM M.length cM) ∧ w'.cell? ⟨w5.heap.size + 1, 1, none⟩ = some (.int .i64 off2) ∧ Below w6.heap.size w6 w')
    (first | exact ⟨cell_below (B := w6.heap.size) (w := w6) (by assumption) h_p0 (World.block_lt_of_cell? _ _ h_p0), cell_below (B := w6.heap.size) (w := w6) (by assumption) h_p1 (World.block_lt_of_cell? _ _ h_p1), cell_below (B := w6.heap.size) (w := w6) (by assumption) h_q0 (World.block_lt_of_cell? _ _ h_q0), cell_below (B := w6.heap.size) (w := w6) (by assumption) h_q1 (World.block_lt_of_cell? _ _ h_q1), by assumption⟩ | exact ⟨h_p0, h_p1, h_q0, h_q1, below_drew1 (Below.refl _ _)⟩ | go_keep)
    (first
      | (go_at_call 28; go_split_ands; (with_reducible refine (Margin_calls AL C cL f L vs off _ ((KL.out.below k_w4_w6).below (by assumption)) ((KC.out.below k_w_w6).below (by assumption)) RL.out rC.out).mono ?_); rintro e w7 ⟨he, hbn⟩; rw [M1.out] at he; subst he; have hB2 : Below w6.heap.size w6 w7 := Below.trans (by assumption) (hbn.mono (Below.size (B := w6.heap.size) (by assumption))))
      | (go_at_call 28; go_split_ands; (with_reducible refine (Margin_calls AM C cM f M vs off2 _ ((KM.out.below k_w5_w6).below (by assumption)) ((KC.out.below k_w_w6).below (by assumption)) RM.out rC.out).mono ?_); rintro e w8 ⟨he, hbn⟩; rw [M2.out] at he; subst he; have hB2 : Below w6.heap.size w6 w8 := Below.trans (by assumption) (hbn.mono (Below.size (B := w6.heap.size) (by assumption))))
      | (go_at_call 31; go_split_ands; (with_reducible refine (pSame_calls AL AM cL cM L M off off2 _ ((KL.out.below k_w4_w6).below (by assumption)) ((KM.out.below k_w5_w6).below (by assumption)) ).mono ?_); rintro e w9 ⟨he, hbn⟩; rw [Q3.out] at he; subst he; have hB2 : Below w6.heap.size w6 w9 := Below.trans (by assumption) (hbn.mono (Below.size (B := w6.heap.size) (by assumption))))
      | (go_at_call 25; go_split_ands; (with_reducible refine (Same_b A B c d xs ys _ ((KA.out.below k_w_w6).below (by assumption)) ((KB.out.below k_w_w6).below (by assumption)) ).mono ?_); rintro e w10 ⟨he, hbn⟩; rw [Z1.out] at he; subst he; have hB2 : Below w6.heap.size w6 w10 := Below.trans (by assumption) (hbn.mono (Below.size (B := w6.heap.size) (by assumption))))
      | (go_at_call 31; go_split_ands; (with_reducible refine (pSame_self AL cL L off _ ((KL.out.below k_w4_w6).below (by assumption)) ).mono ?_); rintro e w11 ⟨he, hbn⟩; subst he; have hB2 : Below w6.heap.size w6 w11 := Below.trans (by assumption) (hbn.mono (Below.size (B := w6.heap.size) (by assumption))))
    )
  have hbz : Below w6.heap.size w6 w11 := by assumption
  have k_w_w11 : Below w.heap.size w w11 := k_w_w6.trans (hbz.mono k_w_w6.size)
  have k_w2_w11 : Below w2.heap.size w2 w11 := k_w2_w6.trans (hbz.mono k_w2_w6.size)
  have k_w3_w11 : Below w3.heap.size w3 w11 := k_w3_w6.trans (hbz.mono k_w3_w6.size)
  have k_w4_w11 : Below w4.heap.size w4 w11 := k_w4_w6.trans (hbz.mono k_w4_w6.size)
  have k_w5_w11 : Below w5.heap.size w5 w11 := k_w5_w6.trans (hbz.mono k_w5_w6.size)
  clear k_w_w6
  clear k_w2_w6
  clear k_w3_w6
  clear k_w4_w6
  clear k_w5_w6
  have b2 := obj_below hbz b_p.out (obj_lt b_p.out)
  clear b_p h_p0 h_p1
  have h_p0 : w11.cell? ⟨w5.heap.size, 0, none⟩ = some (.slice AL L.length cL) := by simp [World.cell?, b2]
  have h_p1 : w11.cell? ⟨w5.heap.size, 1, none⟩ = some (.int .i64 off) := by simp [World.cell?, b2]
  have b_p := Lib.hid b2
  clear b2
  have b2 := obj_below hbz b_q.out (obj_lt b_q.out)
  clear b_q h_q0 h_q1
  have h_q0 : w11.cell? ⟨w5.heap.size + 1, 0, none⟩ = some (.slice AM M.length cM) := by simp [World.cell?, b2]
  have h_q1 : w11.cell? ⟨w5.heap.size + 1, 1, none⟩ = some (.int .i64 off2) := by simp [World.cell?, b2]
  have b_q := Lib.hid b2
  clear b2
  clear hbz
  obtain ⟨gL, hAL, hg1, hg2, hcell, hfr, _, _⟩ := (OL.out.keep k_w4_w11).at_ 0 hp
  subst hAL
  generalize L.getD 0 0 = x0 at hcell
  have hpi : (0 : Int) < (L.length : Int) := by omega
  go_wp2_with fail
  go_still_tail 8, (by kernel_rfl)
  go_wp2_with fail
  refine (refSame_b A Awas c cwas xs xs _ (KA.out.below (by repeat (first | exact k_w_w11 | apply below_drew1 | refine below_set ?_ (by omega) _ _))) (Kwas.out.below (by repeat (first | exact k_w2_w11 | apply below_drew1 | refine below_set ?_ (by omega) _ _)))).mono ?_
  rintro e wx ⟨he, hbx⟩
  rw [decide_eq_true (rfl : xs = xs)] at he
  subst he
  go_wp2_with fail
  refine (refSame_b B Atoo d ctoo ys ys _ ((KB.out.below (by repeat (first | exact k_w_w11 | apply below_drew1 | refine below_set ?_ (by omega) _ _))).below hbx) ((Ktoo.out.below (by repeat (first | exact k_w3_w11 | apply below_drew1 | refine below_set ?_ (by omega) _ _))).below hbx)).mono ?_
  rintro e wy ⟨he, hby⟩
  rw [decide_eq_true (rfl : ys = ys)] at he
  subst he
  have hfin : Below w.heap.size w wy := by
    have h1 : ∀ W, Below W.heap.size W wx → Below w.heap.size w W → Below w.heap.size w wx := fun W a b => b.trans (a.mono b.size)
    have h2 := h1 _ hbx (by repeat (first | exact k_w_w11 | apply below_drew1 | refine below_set ?_ (by omega) _ _))
    exact h2.trans (hby.mono h2.size)
  go_wp2_with fail
  go_ret
  exact ⟨rfl, hfin⟩
end Go.Proofs.Ytgjcajffkhjlbaa
