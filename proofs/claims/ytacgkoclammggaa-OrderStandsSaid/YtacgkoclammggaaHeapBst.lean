
/-
  The plain law of sink: which kid is the best, and what an exchange with it leaves. Generic in the order. No condition beyond the order's.
-/
import Derived.Test.YtacgkoclammggaaHeapMath
namespace Go.Proofs.Ytacgkoclammggaa
set_option linter.unusedVariables false
set_option maxRecDepth 100000
section
variable {α : Type} {lt : α → α → Bool} {d : α}
def bstF (lt : α → α → Bool) (d : α) (L : List α) (n best kid : Nat) : Nat := if kid < n ∧ lt (L.getD kid d) (L.getD best d) = true then kid else best
theorem getF {L : List α} {i : Nat} (h : i < L.length) : L[i]? = some (L.getD i d) := by simp [List.getD, h]
theorem bstF_lt {L : List α} {n best kid : Nat} (h : best < n ∨ ¬ kid < n) : bstF lt d L n best kid < n ∨ bstF lt d L n best kid = best := by
  unfold bstF
  split
  · rename_i hh; exact .inl hh.1
  · exact .inr rfl
theorem bstF_done {L : List α} {k : Nat} (h : DownOk lt L k) (hl : bstF lt d L L.length (bstF lt d L L.length k (2 * k + 1)) (2 * k + 2) = k) : HeapOk lt L := by
  refine h.stop fun i a b h0 hp ha hb => ?_
  have hil := get_lt ha
  have hkl := get_lt hb
  have ea : L.getD i d = a := by simp [List.getD, ha]
  have eb : L.getD k d = b := by simp [List.getD, hb]
  have h1 : bstF lt d L L.length k (2 * k + 1) = k := by
    unfold bstF at hl ⊢
    split
    · rename_i hh
      rw [if_pos hh] at hl
      split at hl <;> omega
    · rfl
  rw [h1] at hl
  have hi : i = 2 * k + 1 ∨ i = 2 * k + 2 := by omega
  cases hlt : lt a b with
  | false => rfl
  | true =>
    exfalso
    rcases hi with hi | hi
    · rw [← hi] at h1
      unfold bstF at h1
      rw [if_pos ⟨hil, by rw [ea, eb]; exact hlt⟩] at h1
      omega
    · rw [← hi] at hl
      unfold bstF at hl
      rw [if_pos ⟨hil, by rw [ea, eb]; exact hlt⟩] at hl
      omega
theorem bstF_swap (hw : WO lt) {L : List α} {k j : Nat} {a b : α} (h : DownOk lt L k) (hk : k < L.length) (hl : bstF lt d L L.length (bstF lt d L L.length k (2 * k + 1)) (2 * k + 2) = j) (hj : j ≠ k) (ha : L.getD k d = a) (hb : L.getD j d = b) : j < L.length ∧ k < j ∧ DownOk lt (swp L k j b a) j := by
  have hkid : ∀ i x, 0 < i → (i - 1) / 2 = k → L[i]? = some x → (i = 2 * k + 1 ∨ i = 2 * k + 2) ∧ i < L.length ∧ L.getD i d = x := fun i x h0 hp hx => ⟨by omega, get_lt hx, by simp [List.getD, hx]⟩
  unfold bstF at hl
  by_cases h1 : 2 * k + 1 < L.length ∧ lt (L.getD (2 * k + 1) d) (L.getD k d) = true
  · rw [if_pos h1] at hl
    by_cases h2 : 2 * k + 2 < L.length ∧ lt (L.getD (2 * k + 2) d) (L.getD (2 * k + 1) d) = true
    · rw [if_pos h2] at hl
      subst hl
      have hba : lt b a = true := by
        cases hx : lt b a with
        | true => rfl
        | false =>
          have h3 := hw.trn _ _ _ hx (hw.asym _ _ (ha ▸ h1.2))
          rw [← hb, h2.2] at h3
          exact absurd h3 (by simp)
      refine ⟨h2.1, by omega, h.swap hw (by omega) (by omega) (ha ▸ getF hk) (hb ▸ getF h2.1) hba fun i x h0 hp hx => ?_⟩
      obtain ⟨hi, hil, hxx⟩ := hkid i x h0 hp hx
      rcases hi with rfl | rfl
      · rw [← hxx, ← hb]; exact hw.asym _ _ h2.2
      · rw [← hxx, ← hb]; exact hw.irr _
    · rw [if_neg h2] at hl
      subst hl
      refine ⟨h1.1, by omega, h.swap hw (by omega) (by omega) (ha ▸ getF hk) (hb ▸ getF h1.1) (by rw [← ha, ← hb]; exact h1.2) fun i x h0 hp hx => ?_⟩
      obtain ⟨hi, hil, hxx⟩ := hkid i x h0 hp hx
      rcases hi with rfl | rfl
      · rw [← hxx, ← hb]; exact hw.irr _
      · rw [← hxx, ← hb]
        cases hx : lt (L.getD (2 * k + 2) d) (L.getD (2 * k + 1) d) with
        | false => rfl
        | true => exact absurd ⟨hil, hx⟩ h2
  · rw [if_neg h1] at hl
    by_cases h2 : 2 * k + 2 < L.length ∧ lt (L.getD (2 * k + 2) d) (L.getD k d) = true
    · rw [if_pos h2] at hl
      subst hl
      refine ⟨h2.1, by omega, h.swap hw (by omega) (by omega) (ha ▸ getF hk) (hb ▸ getF h2.1) (by rw [← ha, ← hb]; exact h2.2) fun i x h0 hp hx => ?_⟩
      obtain ⟨hi, hil, hxx⟩ := hkid i x h0 hp hx
      rcases hi with rfl | rfl
      · rw [← hxx, ← hb]
        refine hw.trn _ (L.getD k d) _ ?_ (hw.asym _ _ h2.2)
        cases hx : lt (L.getD (2 * k + 1) d) (L.getD k d) with
        | false => rfl
        | true => exact absurd ⟨hil, hx⟩ h1
      · rw [← hxx, ← hb]; exact hw.irr _
    · rw [if_neg h2] at hl
      exact absurd hl.symm hj
end
end Go.Proofs.Ytacgkoclammggaa
