/-
  The statement RngEach as a walk: it answers true and leaves all memory that was there as it was. Condition: the arguments are three ints.
-/
import Derived.Test.YtmcbgogeemnjnaaLaw05
import Derived.Test.YtmcbgogeemnjnaaOpen
namespace Go.Proofs.Ytmcbgogeemnjnaa
open Go.RowKit
set_option linter.unusedVariables false
set_option linter.unusedSimpArgs false

theorem each_x (a s n : Int) (h : 0 ≤ a ∧ a < n) : belowN ((fun i => [a, s].getD i 0) 0) n = a := Int.emod_eq_of_lt h.1 h.2
theorem each_y (a s n : Int) (h : 0 ≤ a ∧ a < n ∧ 0 ≤ s ∧ s < n - 1) : pairB ((fun i => [a, s].getD i 0) 0) ((fun i => [a, s].getD i 0) 1) n = if a ≤ s then s + 1 else s := by
  have e1 : belowN a n = a := Int.emod_eq_of_lt h.1 h.2.1
  have e2 : belowN s (n - 1) = s := Int.emod_eq_of_lt h.2.2.1 h.2.2.2
  unfold pairB
  simp only [List.getD_cons_zero, List.getD_cons_succ, e1, e2]
set_option maxHeartbeats 800000 in
theorem RngEach_law (n a b : Int) (w : World) (hn : (Lit.int .i64 n).wf = true) (ha : (Lit.int .i64 a).wf = true) (hb : (Lit.int .i64 b).wf = true) :
    Calls Try.prog 4 #[.int .i64 n, .int .i64 a, .int .i64 b] w fun e w' => e = .returned (.bool true) ∧ Below w.heap.size w w' := by
  replace hn := i64_of_wf hn
  replace ha := i64_of_wf ha
  replace hb := i64_of_wf hb
  by_cases h1 : a < 0
  · have h1' : decide (a < 0) = true := decide_eq_true h1
    go_enter Try.func4, Try.ntmps4
    go_wp2_with fail
    refine (awake_calls _).mono ?_
    rintro e w1 ⟨rfl, hb1⟩
    go_wp2_with fail
    go_ret
    exact ⟨rfl, hb1⟩
  have h1' : decide (a < 0) = false := decide_eq_false h1
  by_cases h2 : n ≤ a
  · have h2' : decide (n ≤ a) = true := decide_eq_true h2
    go_enter Try.func4, Try.ntmps4
    go_wp2_with fail
    refine (awake_calls _).mono ?_
    rintro e w1 ⟨rfl, hb1⟩
    go_wp2_with fail
    go_ret
    exact ⟨rfl, hb1⟩
  have h2' : decide (n ≤ a) = false := decide_eq_false h2
  by_cases h3 : b < 0
  · have h3' : decide (b < 0) = true := decide_eq_true h3
    go_enter Try.func4, Try.ntmps4
    go_wp2_with fail
    refine (awake_calls _).mono ?_
    rintro e w1 ⟨rfl, hb1⟩
    go_wp2_with fail
    go_ret
    exact ⟨rfl, hb1⟩
  have h3' : decide (b < 0) = false := decide_eq_false h3
  by_cases h4 : n ≤ b
  · have h4' : decide (n ≤ b) = true := decide_eq_true h4
    go_enter Try.func4, Try.ntmps4
    go_wp2_with fail
    refine (awake_calls _).mono ?_
    rintro e w1 ⟨rfl, hb1⟩
    go_wp2_with fail
    go_ret
    exact ⟨rfl, hb1⟩
  have h4' : decide (n ≤ b) = false := decide_eq_false h4
  by_cases h5 : a = b
  · have h5' : (a == b) = true := by simp [h5]
    clear h5
    go_enter Try.func4, Try.ntmps4
    go_wp2_with fail
    refine (awake_calls _).mono ?_
    rintro e w1 ⟨rfl, hb1⟩
    go_wp2_with fail
    go_ret
    exact ⟨rfl, hb1⟩
  have h5' : (a == b) = false := by simp [h5]
  have h6 : a < b ∨ b < a := by omega
  clear h5
  by_cases h7 : a < b
  · have h7' : decide (a < b) = true := decide_eq_true h7
    clear h6
    go_enter Try.func4, Try.ntmps4
    go_wp2_with fail
    refine (awake_calls _).mono ?_
    rintro e w1 ⟨rfl, hb1⟩
    have hs1 : IntKind.u64.wrap a = a := u64_id _ (by omega)
    have hs2 : IntKind.u64.wrap (b - 1) = b - 1 := u64_id _ (by omega)
    go_wp2_with fail
    refine (Script_calls _ _ [a, b - 1] _ (rd_u64_pair _ _ _ _) (by intro x hx; simp at hx; omega) (by simp)).mono ?_
    rintro e w2 ⟨v, he, hs, hb2, T, p, rfl⟩
    subst he
    have hb3 : Below w.heap.size w w2 := (below_alloc1 hb1 _).trans (hb2.mono (by have := hb1.size; simp; omega))
    have hz1 := hb1.size
    obtain ⟨lo, hlo⟩ : ∃ lo, (w1.alloc (.cells #[.int .u64 a, .int .u64 (b - 1)] 22)).heap.size = lo := ⟨_, rfl⟩
    have hz2 : w.heap.size ≤ lo := by rw [← hlo]; simp; omega
    rw [hlo] at hs
    have HS := Lib.hid (show Drw w2 lo w2.heap.size (.iface T p) _ 0 from .inl hs)
    clear hs hb2 hlo
    have hx := each_x a (b - 1) n (by omega)
    have hy : pairB _ _ n = b := (each_y a (b - 1) n (by omega)).trans (by rw [if_pos (by omega)]; omega)
    go_wp2_with fail
    refine (Pair_draw lo w2.heap.size _ _ 0 n _ HS.out (by omega) (by omega)).mono ?_
    rintro e w3 ⟨he, _, ho⟩
    rw [hx, hy] at he
    subst he
    have hb4 : Below w.heap.size w w3 := hb3.trans (ho.below hb3.size fun k hk h => by have := h.1; omega)
    clear ho hx hy
    have t1 : (a == a) = true := by simp
    have t2 : (b == b) = true := by simp
    skip
    go_wp2_with fail
    go_ret
    exact ⟨rfl, hb4⟩
  · have h7' : decide (a < b) = false := decide_eq_false h7
    have h8 : b < a := by omega
    clear h6
    go_enter Try.func4, Try.ntmps4
    go_wp2_with fail
    refine (awake_calls _).mono ?_
    rintro e w1 ⟨rfl, hb1⟩
    have hs1 : IntKind.u64.wrap a = a := u64_id _ (by omega)
    have hs2 : IntKind.u64.wrap (b) = b := u64_id _ (by omega)
    go_wp2_with fail
    refine (Script_calls _ _ [a, b] _ (rd_u64_pair _ _ _ _) (by intro x hx; simp at hx; omega) (by simp)).mono ?_
    rintro e w2 ⟨v, he, hs, hb2, T, p, rfl⟩
    subst he
    have hb3 : Below w.heap.size w w2 := (below_alloc1 hb1 _).trans (hb2.mono (by have := hb1.size; simp; omega))
    have hz1 := hb1.size
    obtain ⟨lo, hlo⟩ : ∃ lo, (w1.alloc (.cells #[.int .u64 a, .int .u64 (b)] 22)).heap.size = lo := ⟨_, rfl⟩
    have hz2 : w.heap.size ≤ lo := by rw [← hlo]; simp; omega
    rw [hlo] at hs
    have HS := Lib.hid (show Drw w2 lo w2.heap.size (.iface T p) _ 0 from .inl hs)
    clear hs hb2 hlo
    have hx := each_x a (b) n (by omega)
    have hy : pairB _ _ n = b := (each_y a b n (by omega)).trans (by rw [if_neg (by omega)])
    go_wp2_with fail
    refine (Pair_draw lo w2.heap.size _ _ 0 n _ HS.out (by omega) (by omega)).mono ?_
    rintro e w3 ⟨he, _, ho⟩
    rw [hx, hy] at he
    subst he
    have hb4 : Below w.heap.size w w3 := hb3.trans (ho.below hb3.size fun k hk h => by have := h.1; omega)
    clear ho hx hy
    have t1 : (a == a) = true := by simp
    have t2 : (b == b) = true := by simp
    skip
    go_wp2_with fail
    go_ret
    exact ⟨rfl, hb4⟩
end Go.Proofs.Ytmcbgogeemnjnaa
