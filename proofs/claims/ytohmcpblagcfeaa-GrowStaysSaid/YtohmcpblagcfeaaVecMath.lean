
/-
  Plain lemmas on sums of products and of squares of differences: bounds, symmetry, parts, shifts. Condition of each: named in it (coordinates that may be, equal lengths).
-/
import Derived.Test.YtohmcpblagcfeaaVec
namespace Go.Proofs.Ytohmcpblagcfeaa
open Go.RowKit
set_option linter.unusedVariables false
set_option maxRecDepth 100000
set_option linter.unusedSimpArgs false

theorem sq_nonneg (a : Int) : 0 ≤ a * a := by
  rcases Int.le_total 0 a with h | h
  · exact Int.mul_nonneg h h
  · exact Int.mul_nonneg_of_nonpos_of_nonpos h h
theorem mul_bd (x y B : Int) (hx : -B ≤ x ∧ x ≤ B) (hy : -B ≤ y ∧ y ≤ B) : -(B * B) ≤ x * y ∧ x * y ≤ B * B := by
  have h1 := Int.mul_nonneg (show 0 ≤ B - x by omega) (show 0 ≤ B - y by omega)
  have h2 := Int.mul_nonneg (show 0 ≤ B + x by omega) (show 0 ≤ B + y by omega)
  have h3 := Int.mul_nonneg (show 0 ≤ B - x by omega) (show 0 ≤ B + y by omega)
  have h4 := Int.mul_nonneg (show 0 ≤ B + x by omega) (show 0 ≤ B - y by omega)
  constructor <;> grind
/-- Coordinates within 2^20. -/
def B20 (xs : List Int) : Prop := ∀ x ∈ xs, -1048576 ≤ x ∧ x ≤ 1048576
theorem B20.at {xs : List Int} (h : B20 xs) (j : Nat) : -1048576 ≤ xs.getD j 0 ∧ xs.getD j 0 ≤ 1048576 := by
  rcases Nat.lt_or_ge j xs.length with hj | hj
  · exact h (xs.getD j 0) (by simp [List.getD, hj])
  · simp [List.getD, hj]
theorem checkV_zero {xs : List Int} {dim : Int} (h : checkV xs dim = 0) : 1 ≤ dim ∧ dim ≤ 1024 ∧ (xs.length : Int) = dim ∧ B20 xs := by
  unfold checkV at h
  by_cases h1 : dim < 1 ∨ 1024 < dim
  · rw [if_pos h1] at h; omega
  · rw [if_neg h1] at h
    by_cases h2 : (xs.length : Int) ≠ dim
    · rw [if_pos h2] at h; omega
    · rw [if_neg h2] at h
      cases h3 : anyOut xs with
      | true => rw [h3] at h; simp at h
      | false => exact ⟨by omega, by omega, by omega, anyOut_false h3⟩
theorem checkV_ok {xs : List Int} {dim : Int} (h1 : 1 ≤ dim) (h2 : dim ≤ 1024) (h3 : (xs.length : Int) = dim) (h4 : B20 xs) : checkV xs dim = 0 := by
  unfold checkV
  rw [if_neg (by omega), if_neg (by omega)]
  have : anyOut xs = false := by
    unfold anyOut
    rw [List.any_eq_false]
    intro x hx
    have := h4 x hx
    rw [outN_iff]; omega
  simp [this]

theorem sumTo_bd {f : Nat → Int} (n : Nat) (B : Int) (h : ∀ i, i < n → -B ≤ f i ∧ f i ≤ B) : -(n * B) ≤ sumTo f n ∧ sumTo f n ≤ n * B := by
  have h1 := sumTo_le (f := fun _ => -B) (g := f) n fun i hi => (h i hi).1
  have h2 := sumTo_le (f := f) (g := fun _ => B) n fun i hi => (h i hi).2
  rw [sumTo_const] at h1 h2
  have e : (n : Int) * -B = -(n * B) := Int.mul_neg _ _
  omega
theorem sumTo_comm_of {f g : Nat → Int} (h : ∀ i, f i = g i) (n : Nat) : sumTo f n = sumTo g n := sumTo_congr n fun i _ => h i
theorem dot_comm (xs ys : List Int) : dot xs ys = dot ys xs := by
  unfold dot dotN
  rw [Nat.min_comm]
  exact sumTo_congr _ fun i _ => Int.mul_comm _ _
theorem far_comm (xs ys : List Int) : far xs ys = far ys xs := by
  unfold far farN
  rw [Nat.min_comm]
  exact sumTo_congr _ fun i _ => by grind
theorem far_nonneg (xs ys : List Int) : 0 ≤ far xs ys := by
  have h := sumTo_le (f := fun _ => 0) (g := fun i => (xs.getD i 0 - ys.getD i 0) * (xs.getD i 0 - ys.getD i 0)) (min xs.length ys.length) fun i _ => sq_nonneg _
  rw [sumTo_const, Int.mul_zero] at h
  exact h
theorem dot_bd {xs ys : List Int} (hx : B20 xs) (hy : B20 ys) (hn : xs.length ≤ 1024) : -1125899906842624 ≤ dot xs ys ∧ dot xs ys ≤ 1125899906842624 := by
  have h := sumTo_bd (f := fun i => xs.getD i 0 * ys.getD i 0) (min xs.length ys.length) 1099511627776 fun i _ => mul_bd _ _ 1048576 (hx.at i) (hy.at i)
  have e : sumTo (fun i => xs.getD i 0 * ys.getD i 0) (min xs.length ys.length) = dot xs ys := rfl
  rw [e] at h
  omega
theorem far_bd {xs ys : List Int} (hx : B20 xs) (hy : B20 ys) (hn : xs.length ≤ 1024) : 0 ≤ far xs ys ∧ far xs ys ≤ 4503599627370496 := by
  refine ⟨far_nonneg _ _, ?_⟩
  have h := sumTo_bd (f := fun i => (xs.getD i 0 - ys.getD i 0) * (xs.getD i 0 - ys.getD i 0)) (min xs.length ys.length) 4398046511104 fun i _ => by
    have h1 := hx.at i
    have h2 := hy.at i
    exact mul_bd _ _ 2097152 (by omega) (by omega)
  have e : sumTo (fun i => (xs.getD i 0 - ys.getD i 0) * (xs.getD i 0 - ys.getD i 0)) (min xs.length ys.length) = far xs ys := rfl
  rw [e] at h
  omega
theorem far_bend (xs ys zs : List Int) (h1 : ys.length = xs.length) (h2 : zs.length = xs.length) : far xs zs ≤ 2 * (far xs ys + far ys zs) := by
  unfold far farN
  rw [h1, h2, Nat.min_self, ← sumTo_add, ← sumTo_mul]
  exact sumTo_le _ fun i _ => by
    have := sq_nonneg (xs.getD i 0 - 2 * ys.getD i 0 + zs.getD i 0)
    generalize xs.getD i 0 = x at *
    generalize ys.getD i 0 = y at *
    generalize zs.getD i 0 = z at *
    grind
theorem lessN_get (xs ys : List Int) (n i : Nat) (h : i < n) : (lessN xs ys n).getD i 0 = wrap32 (xs.getD i 0 - ys.getD i 0) := by simp [lessN, List.getD, h]
theorem less_length (xs ys : List Int) : (less xs ys).length = min xs.length ys.length := lessN_length _ _ _
theorem less_get {xs ys : List Int} (hx : B20 xs) (hy : B20 ys) (i : Nat) (h : i < min xs.length ys.length) : (less xs ys).getD i 0 = xs.getD i 0 - ys.getD i 0 := by
  have h1 := hx.at i
  have h2 := hy.at i
  unfold less
  rw [lessN_get _ _ _ _ h, wrap32_id _ (by omega)]
theorem dot_less {xs ys zs : List Int} (hx : B20 xs) (hy : B20 ys) (h1 : ys.length = xs.length) (h2 : zs.length = xs.length) : dot (less xs ys) zs = dot xs zs - dot ys zs := by
  unfold dot dotN
  rw [less_length, h1, h2, Nat.min_self, Nat.min_self, ← sumTo_sub]
  exact sumTo_congr _ fun i hi => by
    rw [less_get hx hy i (by omega), Int.sub_mul]
theorem R32.less (xs ys : List Int) : R32 (less xs ys) := fun x hx => by
  unfold Go.Proofs.Ytohmcpblagcfeaa.less lessN at hx
  obtain ⟨i, _, rfl⟩ := List.mem_map.1 hx
  exact wrap32_bd _
theorem B20.r32 {xs : List Int} (h : B20 xs) : R32 xs := fun x hx => by have := h x hx; omega
theorem far_less {xs ys : List Int} (hx : B20 xs) (hy : B20 ys) (h1 : ys.length = xs.length) : dot (less xs ys) (less xs ys) = far xs ys := by
  unfold dot dotN far farN
  rw [less_length, h1, Nat.min_self, Nat.min_self]
  exact sumTo_congr _ fun i hi => by rw [less_get hx hy i (by omega)]
theorem far_sums {xs ys : List Int} (h1 : ys.length = xs.length) : far xs ys = dot xs xs + dot ys ys - 2 * dot xs ys := by
  unfold dot dotN far farN
  rw [h1, Nat.min_self, ← sumTo_mul, ← sumTo_add, ← sumTo_sub]
  exact sumTo_congr _ fun i hi => by grind
theorem far_zero {xs ys : List Int} (h1 : ys.length = xs.length) : far xs ys = 0 ↔ xs = ys := by
  constructor
  · intro h
    unfold far farN at h
    rw [h1, Nat.min_self] at h
    have h2 := sumTo_eq_zero _ (fun i _ => sq_nonneg _) h
    refine ext32 h1.symm fun j hj => ?_
    have h3 := h2 j hj
    rcases Int.mul_eq_zero.1 h3 with h | h <;> omega
  · rintro rfl
    unfold far farN
    rw [sumTo_congr (g := fun _ => 0) _ fun i _ => by rw [Int.sub_self]; rfl, sumTo_const, Int.mul_zero]
end Go.Proofs.Ytohmcpblagcfeaa
