/-
  What is drawn beyond plays no part: trees that are grown by two streams that tell alike as far as is drawn. Plain.
-/
import Derived.Test.YticdmglondpgaaaGreatQ15

namespace Go.Proofs.YticdmglondpgaaaGreat
open Go.RowKit
set_option linter.unusedVariables false
set_option maxRecDepth 100000
set_option linter.unusedSimpArgs false

theorem chooseF_le (rows : List (List Int)) (dim : Nat) (ids : List Int) (s : Nat → Int) (k : Nat) : ∀ f t, t ≤ (chooseF rows dim ids s k f t).tries
  | 0, t => Nat.le_refl _
  | f + 1, t => by
    unfold chooseF
    split
    · split
      · exact Nat.le_succ _
      · have := chooseF_le rows dim ids s k f (t + 1); omega
    · exact Nat.le_refl _
theorem tryV_congr {rows : List (List Int)} {ids : List Int} {s s' : Nat → Int} {k : Nat} (t : Nat) (h0 : s' k = s k) (h1 : s' (k + 1) = s (k + 1)) : tryV rows ids s' k t = tryV rows ids s k t := by
  have e1 : itemA rows ids s' k = itemA rows ids s k := by unfold itemA pX; rw [h0]
  have e2 : itemB rows ids s' k = itemB rows ids s k := by unfold itemB pY; rw [h0, h1]
  unfold tryV
  rw [e1, e2]
theorem chooseF_congr {rows : List (List Int)} {dim : Nat} {ids : List Int} {s s' : Nat → Int} {k : Nat} : ∀ f t, (∀ i, i < k + 2 * (chooseF rows dim ids s k f t).tries → s' i = s i) → chooseF rows dim ids s' k f t = chooseF rows dim ids s k f t
  | 0, t, _ => rfl
  | f + 1, t, h => by
    unfold chooseF at h ⊢
    by_cases h1 : 1 < ids.length
    · rw [if_pos h1] at h
      rw [if_pos h1, if_pos h1]
      have hle := chooseF_le rows dim ids s k f (t + 1)
      by_cases h2 : goodB (tryV rows ids s (k + 2 * t) (t + 1)).left.length (tryV rows ids s (k + 2 * t) (t + 1)).right.length = true
      · rw [if_pos h2] at h
        have ht : (tryV rows ids s (k + 2 * t) (t + 1)).tries = t + 1 := rfl
        rw [ht] at h
        rw [tryV_congr (t + 1) (h (k + 2 * t) (by omega)) (h (k + 2 * t + 1) (by omega)), if_pos h2, if_pos h2]
      · rw [if_neg h2] at h
        rw [tryV_congr (t + 1) (h (k + 2 * t) (by omega)) (h (k + 2 * t + 1) (by omega)), if_neg h2, if_neg h2]
        exact chooseF_congr f (t + 1) h
    · rw [if_neg h1, if_neg h1]
theorem growT_le (rows : List (List Int)) (dim leaf : Nat) (s : Nat → Int) : ∀ (f : Nat) (ids : List Int) (k : Nat), k ≤ (growT rows dim leaf s f ids k).2 := fun f => by
  induction f with
  | zero => intro ids k; exact Nat.le_refl _
  | succ f ih =>
    intro ids k
    by_cases hl : ids.length ≤ leaf
    · rw [growT_leaf k (.inl hl)]; exact Nat.le_refl _
    · rw [growT_split k (by omega) rfl rfl rfl]
      have h1 := ih (choose rows dim ids s k).left (k + 2 * (choose rows dim ids s k).tries)
      have h2 := ih (choose rows dim ids s k).right (growT rows dim leaf s f (choose rows dim ids s k).left (k + 2 * (choose rows dim ids s k).tries)).2
      omega
theorem growT_congr {rows : List (List Int)} {dim leaf : Nat} {s s' : Nat → Int} : ∀ (f : Nat) (ids : List Int) (k : Nat), (∀ i, i < (growT rows dim leaf s f ids k).2 → s' i = s i) → growT rows dim leaf s' f ids k = growT rows dim leaf s f ids k := fun f => by
  induction f with
  | zero => intro ids k _; rfl
  | succ f ih =>
    intro ids k h
    by_cases hl : ids.length ≤ leaf
    · rw [growT_leaf k (.inl hl), growT_leaf k (.inl hl)]
    · obtain ⟨C, hC⟩ : ∃ C, choose rows dim ids s k = C := ⟨_, rfl⟩
      obtain ⟨L, hL⟩ : ∃ L, growT rows dim leaf s f C.left (k + 2 * C.tries) = L := ⟨_, rfl⟩
      obtain ⟨R, hR⟩ : ∃ R, growT rows dim leaf s f C.right L.2 = R := ⟨_, rfl⟩
      rw [growT_split k (by omega) hC hL hR] at h ⊢
      have g1 := growT_le rows dim leaf s f C.left (k + 2 * C.tries)
      have g2 := growT_le rows dim leaf s f C.right L.2
      rw [hL] at g1
      rw [hR] at g2
      have hC' : choose rows dim ids s' k = C := by
        rw [← hC]
        unfold choose
        refine chooseF_congr 4 0 fun i hi => h i ?_
        have : (chooseF rows dim ids s k 4 0).tries = C.tries := by rw [← hC]; rfl
        rw [this] at hi
        simp only at *
        omega
      have hL' : growT rows dim leaf s' f C.left (k + 2 * C.tries) = L := by
        rw [← hL]
        exact ih _ _ fun i hi => h i (by rw [hL] at hi; simp only; omega)
      have hR' : growT rows dim leaf s' f C.right L.2 = R := by
        rw [← hR]
        exact ih _ _ fun i hi => h i (by rw [hR] at hi; simp only; omega)
      rw [growT_split k (by omega) hC' hL' hR']
theorem growF_congr {rows : List (List Int)} {dim leaf : Nat} {s s' : Nat → Int} (f : Nat) (ids : List Int) (k a : Nat) (h : ∀ i, i < (growF rows dim leaf s f ids a k).2 → s' i = s i) : growF rows dim leaf s' f ids a k = growF rows dim leaf s f ids a k := by
  rw [growF_lay] at h ⊢
  rw [growF_lay, growT_congr f ids k h]
end Go.Proofs.YticdmglondpgaaaGreat
