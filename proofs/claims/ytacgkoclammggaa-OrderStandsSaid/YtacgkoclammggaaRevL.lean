
/-
  A list turned round by exchanges from both ends, in plain Lean. No condition.
-/
import Derived.Test.YtacgkoclammggaaHeapMath
namespace Go.Proofs.Ytacgkoclammggaa
set_option linter.unusedVariables false
set_option maxRecDepth 100000
section
variable {α : Type}
/-- k exchanges of n things are done. -/
def RevAt (n k : Nat) (l L : List α) : Prop := L.length = n ∧ ∀ i, i < n → L[i]? = if i < k ∨ n - 1 - k < i then l[n - 1 - i]? else l[i]?
theorem RevAt.start {n : Nat} (l : List α) (h : l.length = n) : RevAt n 0 l l := ⟨h, fun i hi => by rw [if_neg (by omega)]⟩
theorem RevAt.step {n k m : Nat} {l L : List α} {x y : α} (h : RevAt n k l L) (hl : l.length = n) (hkm : k < m) (hmn : m < n) (hm : n - 1 - k = m) (hx : L[k]? = some x) (hy : L[m]? = some y) : RevAt n (k + 1) l ((L.set k y).set m x) := by
  obtain ⟨h1, h2⟩ := h
  have hxk := h2 k (by omega)
  rw [if_neg (by omega), hx] at hxk
  have hym := h2 m (by omega)
  rw [if_neg (by omega), hy] at hym
  refine ⟨by simp [h1], fun i hi => ?_⟩
  have hg := swp_get (l := L) (i := k) (j := m) (k := i) (a := y) (b := x) (by omega) (by omega)
  unfold swp at hg
  rw [hg]
  by_cases e1 : i = m
  · rw [if_pos e1, if_pos (by omega), hxk, show n - 1 - i = k by omega]
  · rw [if_neg e1]
    by_cases e2 : i = k
    · rw [if_pos e2, if_pos (by omega), hym, show n - 1 - i = m by omega]
    · rw [if_neg e2, h2 i hi]
      by_cases e3 : i < k ∨ n - 1 - k < i
      · rw [if_pos e3, if_pos (by omega)]
      · rw [if_neg e3, if_neg (by omega)]
theorem RevAt.done {n k : Nat} {l L : List α} (h : RevAt n k l L) (hl : l.length = n) (hk : n ≤ 2 * k + 1) : L = l.reverse := by
  obtain ⟨h1, h2⟩ := h
  refine List.ext_getElem? fun i => ?_
  by_cases hi : i < n
  · rw [h2 i hi, List.getElem?_reverse (by omega), hl]
    by_cases e3 : i < k ∨ n - 1 - k < i
    · rw [if_pos e3]
    · rw [if_neg e3, show n - 1 - i = i by omega]
  · rw [List.getElem?_eq_none (by omega), List.getElem?_eq_none (by simp; omega)]
end
end Go.Proofs.Ytacgkoclammggaa
