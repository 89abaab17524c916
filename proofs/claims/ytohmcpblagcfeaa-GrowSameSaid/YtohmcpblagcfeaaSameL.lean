
/-
  Items that are all the same are halved: the plain law. No condition.
-/
import Derived.Test.YtohmcpblagcfeaaSplit2
namespace Go.Proofs.Ytohmcpblagcfeaa
open Go.RowKit
set_option linter.unusedVariables false
set_option maxRecDepth 100000

theorem less_self_get (v : List Int) (i : Nat) : (less v v).getD i 0 = 0 := by
  unfold less lessN
  rcases Nat.lt_or_ge i (min v.length v.length) with h | h
  · simp only [List.getD, List.getElem?_map, List.getElem?_range h, Option.map_some, Option.getD_some, Int.sub_self]
    exact wrap32_id 0 (by omega)
  · have : ((List.range (min v.length v.length)).map fun i => wrap32 (v.getD i 0 - v.getD i 0))[i]? = none := by
      rw [List.getElem?_eq_none]; simpa using h
    rw [List.getD_eq_getElem?_getD, this]
    rfl
theorem dot_less_self (v ys : List Int) : dot (less v v) ys = 0 := by
  unfold dot dotN
  rw [sumTo_congr (g := fun _ => 0) _ fun i _ => by rw [less_self_get, Int.zero_mul], sumTo_const, Int.mul_zero]
theorem side_self {rows : List (List Int)} {ids v : List Int} (off : Int) (ho : off = 0) : sideL rows (less v v) off ids false = [] := by
  unfold sideL
  rw [List.filter_eq_nil_iff]
  intro id _
  have h : onB rows (less v v) off id = true := by
    unfold onB margin
    rw [dot_less_self, ho, show (2 * 0 - 0 : Int) = 0 by omega, wrap64_zero]
    rfl
  rw [h]
  simp
theorem btw_self (v : List Int) : betweenOff v v = 0 := by
  unfold betweenOff
  rw [dot_less_self, Int.add_zero, wrap64_zero]
/-- All items that the ids name are v: four tries, then halves. -/
theorem choose_same {rows : List (List Int)} {dim : Nat} {ids v : List Int} {s : Nat → Int} {k : Nat} (h1 : 1 < ids.length) (hv : ∀ id ∈ ids, itemZ rows id = v) : choose rows dim ids s k = flatV dim ids 4 := by
  have hA : ∀ k, itemA rows ids s k = v := fun k => by
    obtain ⟨i, hi, hl⟩ := pX_bd s k ids.length h1
    unfold itemA
    rw [hi, Int.toNat_natCast]
    exact hv _ (by simp [List.getD, hl])
  have hB : ∀ k, itemB rows ids s k = v := fun k => by
    obtain ⟨i, hi, hl⟩ := pY_bd s k ids.length h1
    unfold itemB
    rw [hi, Int.toNat_natCast]
    exact hv _ (by simp [List.getD, hl])
  have hF : ∀ f t, chooseF rows dim ids s k f t = flatV dim ids (t + f) := fun f => by
    induction f with
    | zero => intro t; rfl
    | succ f ih =>
      intro t
      unfold chooseF
      rw [if_pos h1, if_neg, ih]
      · congr 1; omega
      · unfold tryV
        simp only [hA, hB]
        rw [side_self _ (btw_self v)]
        simp [goodB]
  exact hF 4 0
end Go.Proofs.Ytohmcpblagcfeaa
