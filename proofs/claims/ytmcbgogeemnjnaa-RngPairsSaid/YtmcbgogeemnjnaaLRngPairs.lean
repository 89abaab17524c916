/-
  The statement RngPairs as a walk: it answers true and leaves all memory that was there as it was. Condition: the arguments are a bool, a number of 64 bits, a list of such, and an int, within the form's reach.
-/
import Derived.Test.YtmcbgogeemnjnaaLaw05
import Derived.Test.YtmcbgogeemnjnaaOpen
namespace Go.Proofs.Ytmcbgogeemnjnaa
open Go.RowKit
set_option linter.unusedVariables false
set_option linter.unusedSimpArgs false

set_option maxHeartbeats 800000 in
theorem RngPairs_law (mixed : Bool) (st : Int) (A : Option Addr) (c : Nat) (l : List Int) (n : Int) (w : World) (hst : (Lit.int .u64 st).wf = true) (ha : Rd w .u64 A l) (hu : ∀ n ∈ l, (Lit.int .u64 n).wf = true) (na : A = none → l = [] ∧ c = 0) (la : l.length * 8 ≤ 140737488351232) (hn : (Lit.int .i64 n).wf = true) :
    Calls Try.prog 7 #[.bool mixed, .int .u64 st, .slice A l.length c, .int .i64 n] w fun e w' => e = .returned (.bool true) ∧ Below w.heap.size w w' := by
  replace hn := i64_of_wf hn
  have HU := Lib.hid (u64_of_wf hu)
  have KA := Lib.hid ha
  clear hu ha na hst
  by_cases h1 : 200 < l.length
  · have h1' : decide (200 < (l.length : Int)) = true := by simp; omega
    go_enter Try.func7, Try.ntmps7
    go_wp2_with fail
    refine (awake_calls _).mono ?_
    rintro e w1 ⟨rfl, hb1⟩
    go_wp2_with fail
    go_ret
    exact ⟨rfl, hb1⟩
  have h1' : decide (200 < (l.length : Int)) = false := by simp; omega
  replace h1 : l.length ≤ 200 := by omega
  by_cases h2 : n < 2
  · have h2' : decide (n < 2) = true := decide_eq_true h2
    go_enter Try.func7, Try.ntmps7
    go_wp2_with fail
    refine (awake_calls _).mono ?_
    rintro e w1 ⟨rfl, hb1⟩
    have hz1 := hb1.size
    go_wp2_with fail
    refine (of_calls mixed st A c l _ (KA.out.below hb1) HU.out (by omega)).mono ?_
    rintro e w2 ⟨v, he, hs, hb2, T, p, rfl⟩
    subst he
    have hb3 : Below w.heap.size w w2 := hb1.trans (hb2.mono hz1)
    have hz2 := hb2.size
    have HS := Lib.hid hs
    clear hs hb2
    go_wp2_with fail
    refine (Count_calls T p w1.heap.size w2.heap.size _ _ HS.out (Nat.le_refl _) hz2).mono ?_
    rintro e w3 ⟨he, hs, hb4⟩
    subst he
    have hb5 : Below w.heap.size w w3 := hb3.trans (hb4.mono hb3.size)
    have HC := Lib.hid hs
    clear hs hb4 HS
    go_wp2_with fail
    refine (Pair_none _ n _ h2).mono ?_
    rintro e _ ⟨he, rfl⟩
    subst he
    go_wp2_with fail
    refine (Drawn_calls _ _ _ _ _ _ HC.out).mono ?_
    rintro e _ ⟨he, rfl⟩
    subst he
    go_wp2_with fail
    go_ret
    exact ⟨rfl, hb5⟩
  · have h2' : decide (n < 2) = false := decide_eq_false h2
    go_enter Try.func7, Try.ntmps7
    go_wp2_with fail
    refine (awake_calls _).mono ?_
    rintro e w1 ⟨rfl, hb1⟩
    have hz1 := hb1.size
    go_wp2_with fail
    refine (of_calls mixed st A c l _ (KA.out.below hb1) HU.out (by omega)).mono ?_
    rintro e w2 ⟨v, he, hs, hb2, T, p, rfl⟩
    subst he
    have hb3 : Below w.heap.size w w2 := hb1.trans (hb2.mono hz1)
    have hz2 := hb2.size
    have HS := Lib.hid hs
    clear hs hb2
    go_wp2_with fail
    refine (Count_calls T p w1.heap.size w2.heap.size _ _ HS.out (Nat.le_refl _) hz2).mono ?_
    rintro e w3 ⟨he, hs, hb4⟩
    subst he
    have hb5 : Below w.heap.size w w3 := hb3.trans (hb4.mono hb3.size)
    have HC := Lib.hid hs
    clear hs hb4 HS
    have HD := Lib.hid (show Drw w3 w1.heap.size w3.heap.size (.iface 25 (.pointer (some ⟨w2.heap.size, 0, none⟩))) _ 0 from .inr ⟨_, rfl, HC.out⟩)
    have bx := belowN_bd (ofS mixed st l 0) n (by omega)
    have by_ := pairB_bd (ofS mixed st l 0) (ofS mixed st l 1) n (by omega)
    obtain ⟨x, hx⟩ : ∃ x, belowN (ofS mixed st l 0) n = x := ⟨_, rfl⟩
    obtain ⟨y, hy⟩ : ∃ y, pairB (ofS mixed st l 0) (ofS mixed st l 1) n = y := ⟨_, rfl⟩
    rw [hx] at bx by_
    rw [hy] at by_
    have HX := Lib.hid hx
    have HY := Lib.hid hy
    have t1 : (x != y) = true := by simp; omega
    have t2 : decide (0 ≤ x) = true := decide_eq_true (by omega)
    have t3 : decide (x < n) = true := decide_eq_true (by omega)
    have t4 : decide (0 ≤ y) = true := decide_eq_true (by omega)
    have t5 : decide (y < n) = true := decide_eq_true (by omega)
    clear hx hy bx by_ HC
    go_wp2_with fail
    refine (Pair_draw w1.heap.size w3.heap.size _ _ 0 n _ HD.out (by omega) (by omega)).mono ?_
    rintro e w4 ⟨he, hs, ho⟩
    rw [HX.out, HY.out] at he
    subst he
    have hb6 : Below w.heap.size w w4 := hb5.trans (ho.below hb5.size fun k hk h => by have := h.1; omega)
    have HC : Hid (Ctr w4 w1.heap.size w3.heap.size w2.heap.size (fun i => ofS mixed st l (i + 2)) (0 + 2)) := by
      rcases hs with hs | ⟨b, h3, hs⟩
      · rcases hs with ⟨b, l', h3, _⟩ | ⟨b, st', h3, _⟩
        · injection h3 with h3; exact absurd h3 (by decide)
        · injection h3 with h3; exact absurd h3 (by decide)
      · injection h3 with _ h3
        injection h3 with h3
        injection h3 with h3
        injection h3 with h3
        subst h3
        exact hs
    clear hs ho
    go_wp2_with fail
    refine (Drawn_calls _ _ _ _ _ _ HC.out).mono ?_
    rintro e _ ⟨he, rfl⟩
    subst he
    go_wp2_with fail
    go_ret
    exact ⟨rfl, hb6⟩
end Go.Proofs.Ytmcbgogeemnjnaa
