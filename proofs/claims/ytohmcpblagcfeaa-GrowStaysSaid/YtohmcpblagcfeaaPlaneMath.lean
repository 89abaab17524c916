
/-
  Plain lemmas on planes between vectors: margins, bounds, the plane the other way round. Condition of each: coordinates that may be, equal lengths of at most 1024.
-/
import Derived.Test.YtohmcpblagcfeaaPlane
namespace Go.Proofs.Ytohmcpblagcfeaa
open Go.RowKit
set_option linter.unusedVariables false
set_option maxRecDepth 100000
set_option linter.unusedSimpArgs false

theorem _root_.Go.RowKit.Below.after {a b c : World} (h : Below a.heap.size a b) (k : Below b.heap.size b c) : Below a.heap.size a c := h.trans (k.mono h.size)
def B21 (xs : List Int) : Prop := ∀ x ∈ xs, -2097152 ≤ x ∧ x ≤ 2097152
theorem B21.at {xs : List Int} (h : B21 xs) (j : Nat) : -2097152 ≤ xs.getD j 0 ∧ xs.getD j 0 ≤ 2097152 := by
  rcases Nat.lt_or_ge j xs.length with hj | hj
  · exact h (xs.getD j 0) (by simp [List.getD, hj])
  · simp [List.getD, hj]
theorem B21.r32 {xs : List Int} (h : B21 xs) : R32 xs := fun x hx => by have := h x hx; omega
theorem mul_bd2 (x y X Y : Int) (hx : -X ≤ x ∧ x ≤ X) (hy : -Y ≤ y ∧ y ≤ Y) : -(X * Y) ≤ x * y ∧ x * y ≤ X * Y := by
  have h1 := Int.mul_nonneg (show 0 ≤ X - x by omega) (show 0 ≤ Y - y by omega)
  have h2 := Int.mul_nonneg (show 0 ≤ X + x by omega) (show 0 ≤ Y + y by omega)
  have h3 := Int.mul_nonneg (show 0 ≤ X - x by omega) (show 0 ≤ Y + y by omega)
  have h4 := Int.mul_nonneg (show 0 ≤ X + x by omega) (show 0 ≤ Y - y by omega)
  constructor <;> grind
theorem dot_bd2 {xs ys : List Int} (hx : B21 xs) (hy : B20 ys) (hn : xs.length ≤ 1024) : -2251799813685248 ≤ dot xs ys ∧ dot xs ys ≤ 2251799813685248 := by
  have h := sumTo_bd (f := fun i => xs.getD i 0 * ys.getD i 0) (min xs.length ys.length) 2199023255552 fun i _ => mul_bd2 _ _ 2097152 1048576 (hx.at i) (hy.at i)
  have e : sumTo (fun i => xs.getD i 0 * ys.getD i 0) (min xs.length ys.length) = dot xs ys := rfl
  rw [e] at h
  omega
theorem less_b21 {xs ys : List Int} (hx : B20 xs) (hy : B20 ys) : B21 (less xs ys) := fun x hx' => by
  unfold less lessN at hx'
  obtain ⟨i, _, rfl⟩ := List.mem_map.1 hx'
  have h1 := hx.at i
  have h2 := hy.at i
  rw [wrap32_id _ (by omega)]
  omega
theorem btw_off {xs ys : List Int} (hx : B20 xs) (hy : B20 ys) (hn : xs.length ≤ 1024) : betweenOff xs ys = dot (less xs ys) xs + dot (less xs ys) ys ∧ -4503599627370496 ≤ betweenOff xs ys ∧ betweenOff xs ys ≤ 4503599627370496 := by
  have hl : (less xs ys).length ≤ 1024 := by rw [less_length]; omega
  have h1 := dot_bd2 (less_b21 hx hy) hx hl
  have h2 := dot_bd2 (less_b21 hx hy) hy hl
  have e : betweenOff xs ys = dot (less xs ys) xs + dot (less xs ys) ys := wrap64_id _ (by omega)
  exact ⟨e, by omega, by omega⟩
theorem checkP_ok {ns : List Int} {off dim : Int} (h1 : 1 ≤ dim) (h2 : dim ≤ 1024) (h3 : (ns.length : Int) = dim) (h4 : B21 ns) (h5 : -9007199254740992 ≤ off ∧ off ≤ 9007199254740992) : checkP ns off dim = 0 := by
  unfold checkP
  rw [if_neg (by omega), if_neg (by omega)]
  have : anyOutP ns = false := by
    unfold anyOutP
    rw [List.any_eq_false]
    intro x hx
    have := h4 x hx
    rw [outP_iff]; omega
  rw [this, if_neg (by simp), if_neg (by omega)]
theorem checkP_zero {ns : List Int} {off dim : Int} (h : checkP ns off dim = 0) : 1 ≤ dim ∧ dim ≤ 1024 ∧ (ns.length : Int) = dim ∧ B21 ns ∧ -9007199254740992 ≤ off ∧ off ≤ 9007199254740992 := by
  unfold checkP at h
  by_cases h1 : dim < 1 ∨ 1024 < dim
  · rw [if_pos h1] at h; omega
  · rw [if_neg h1] at h
    by_cases h2 : (ns.length : Int) ≠ dim
    · rw [if_pos h2] at h; omega
    · rw [if_neg h2] at h
      cases h3 : anyOutP ns with
      | true => rw [h3] at h; simp at h
      | false =>
        rw [h3, if_neg (by simp)] at h
        by_cases h4 : off < -9007199254740992 ∨ 9007199254740992 < off
        · rw [if_pos h4] at h; omega
        · exact ⟨by omega, by omega, by omega, anyOutP_false h3, by omega, by omega⟩
theorem btw_margin {xs ys vs : List Int} (hx : B20 xs) (hy : B20 ys) (hv : B20 vs) (hn : xs.length ≤ 1024) (h1 : ys.length = xs.length) (h2 : vs.length = xs.length) :
    margin (less xs ys) (betweenOff xs ys) vs = far vs ys - far vs xs := by
  have hl : (less xs ys).length ≤ 1024 := by rw [less_length]; omega
  have b1 := dot_bd2 (less_b21 hx hy) hv hl
  obtain ⟨e, b2, b3⟩ := btw_off hx hy hn
  unfold margin
  rw [wrap64_id _ (by omega), e, dot_less hx hy h1 h2, dot_less hx hy h1 rfl, dot_less hx hy h1 h1]
  unfold dot dotN far farN
  rw [h1, h2, Nat.min_self, ← sumTo_sub, ← sumTo_sub, ← sumTo_sub, ← sumTo_sub, ← sumTo_mul, ← sumTo_add, ← sumTo_sub]
  exact sumTo_congr _ fun i hi => by grind
theorem far_self (xs : List Int) : far xs xs = 0 := (far_zero rfl).2 rfl
end Go.Proofs.Ytohmcpblagcfeaa
