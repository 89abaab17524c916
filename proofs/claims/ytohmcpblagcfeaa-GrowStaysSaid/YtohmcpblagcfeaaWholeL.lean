
/-
  What Choose's two sides are, plain: together all ids; of two at least neither is empty, and each has an eighth at least. No program in sight.
-/
import Derived.Test.YtohmcpblagcfeaaSplit2
namespace Go.Proofs.Ytohmcpblagcfeaa
open Go.RowKit
set_option linter.unusedVariables false
set_option maxRecDepth 100000

theorem filter_two_perm {α : Type} (p : α → Bool) (l : List α) : (l.filter (fun x => p x == false) ++ l.filter (fun x => p x == true)).Perm l := by
  have h1 : (l.filter fun x => p x == true) = l.filter p := List.filter_congr fun x _ => by cases p x <;> rfl
  have h2 : (l.filter fun x => p x == false) = l.filter fun x => !p x := List.filter_congr fun x _ => by cases p x <;> rfl
  rw [h1, h2]
  exact List.perm_append_comm.trans (List.filter_append_perm p l)
theorem choose_cases (rows : List (List Int)) (dim : Nat) (ids : List Int) (s : Nat → Int) (k : Nat) :
    (∃ t, t ≤ 4 ∧ (ids.length < 2 → t = 0) ∧ choose rows dim ids s k = flatV dim ids t) ∨ (1 < ids.length ∧ ∃ j t, t ≤ 4 ∧ choose rows dim ids s k = tryV rows ids s j t ∧ goodB (tryV rows ids s j t).left.length (tryV rows ids s j t).right.length = true) := by
  have hF : ∀ f t, f + t = 4 → (ids.length < 2 → t = 0) → (∃ t', t' ≤ 4 ∧ (ids.length < 2 → t' = 0) ∧ chooseF rows dim ids s k f t = flatV dim ids t') ∨ (1 < ids.length ∧ ∃ j t', t' ≤ 4 ∧ chooseF rows dim ids s k f t = tryV rows ids s j t' ∧ goodB (tryV rows ids s j t').left.length (tryV rows ids s j t').right.length = true) := fun f => by
    induction f with
    | zero => intro t h1 h2; exact .inl ⟨t, by omega, h2, rfl⟩
    | succ f ih =>
      intro t h1 h2
      unfold chooseF
      by_cases h : 1 < ids.length
      · rw [if_pos h]
        split
        · rename_i hg; exact .inr ⟨h, _, _, by omega, rfl, hg⟩
        · exact ih (t + 1) (by omega) (fun h3 => by omega)
      · rw [if_neg h]; exact .inl ⟨t, by omega, h2, rfl⟩
  exact hF 4 0 rfl fun _ => rfl
theorem choose_tr (rows : List (List Int)) (dim : Nat) (ids : List Int) (s : Nat → Int) (k : Nat) : (choose rows dim ids s k).tries ≤ 4 := by
  rcases choose_cases rows dim ids s k with ⟨t, ht, _, h⟩ | ⟨_, j, t, ht, h, _⟩ <;> rw [h]
  · exact ht
  · exact ht
theorem choose_perm (rows : List (List Int)) (dim : Nat) (ids : List Int) (s : Nat → Int) (k : Nat) : ((choose rows dim ids s k).left ++ (choose rows dim ids s k).right).Perm ids := by
  rcases choose_cases rows dim ids s k with ⟨t, _, _, h⟩ | ⟨_, j, t, _, h, _⟩
  · rw [h]; simp [flatV]
  · rw [h]; exact filter_two_perm _ _
theorem choose_len (rows : List (List Int)) (dim : Nat) (ids : List Int) (s : Nat → Int) (k : Nat) : (choose rows dim ids s k).left.length + (choose rows dim ids s k).right.length = ids.length := by
  have h := (choose_perm rows dim ids s k).length_eq
  rwa [List.length_append] at h
theorem choose_parts (rows : List (List Int)) (dim : Nat) (ids : List Int) (s : Nat → Int) (k : Nat) (h2 : 2 ≤ ids.length) : 0 < (choose rows dim ids s k).left.length ∧ 0 < (choose rows dim ids s k).right.length ∧ ids.length ≤ 8 * min (choose rows dim ids s k).left.length (choose rows dim ids s k).right.length := by
  have hl := choose_len rows dim ids s k
  rcases choose_cases rows dim ids s k with ⟨t, _, _, h⟩ | ⟨_, j, t, _, h, hg⟩
  · rw [h]; simp [flatV, halfN]; omega
  · rw [h] at hl ⊢
    unfold goodB at hg
    rw [Bool.and_eq_true, decide_eq_true_iff, decide_eq_true_iff] at hg
    omega
theorem choose_few (rows : List (List Int)) (dim : Nat) (ids : List Int) (s : Nat → Int) (k : Nat) (h2 : ids.length < 2) : (choose rows dim ids s k).tries = 0 := by
  rcases choose_cases rows dim ids s k with ⟨t, _, ht, h⟩ | ⟨h1, _⟩
  · rw [h]; exact ht h2
  · omega
theorem choose_dim {rows : List (List Int)} {dim : Nat} (hl : ∀ r ∈ rows, r.length = dim) (ids : List Int) (s : Nat → Int) (k : Nat) : (choose rows dim ids s k).ns.length ≤ dim := by
  have hz : ∀ id, (itemZ rows id).length ≤ dim := fun id => by
    unfold itemZ
    split
    · rename_i hh
      have h1 : id.toNat < rows.length := by omega
      have := hl (rows.getD id.toNat []) (by simp [List.getD, h1])
      omega
    · simp
  rcases choose_cases rows dim ids s k with ⟨t, _, _, h⟩ | ⟨_, j, t, _, h, _⟩
  · rw [h]; simp [flatV]
  · rw [h]
    have h1 := hz (ids.getD (pX s j ids.length).toNat 0)
    have h2 := hz (ids.getD (pY s j ids.length).toNat 0)
    simp only [tryV, less, lessN_length, itemA, itemB]
    omega
end Go.Proofs.Ytohmcpblagcfeaa
