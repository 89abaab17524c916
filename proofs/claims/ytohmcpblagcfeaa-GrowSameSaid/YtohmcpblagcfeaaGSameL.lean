
/-
  Trees of items that are all the same, plain: they hang on no draw; their leaves are the ids in order, as few as told. No program in sight.
-/
import Derived.Test.YtohmcpblagcfeaaGrowL
import Derived.Test.YtohmcpblagcfeaaSameL
namespace Go.Proofs.Ytohmcpblagcfeaa
open Go.RowKit
set_option linter.unusedVariables false
set_option maxRecDepth 100000

def sameF (dim leaf : Nat) : Nat → List Int → Nat → List NodeV
  | 0, ids, _ => [leafN ids]
  | f + 1, ids, at_ => if ids.length ≤ leaf then [leafN ids] else
    ⟨false, [], List.replicate dim 0, 0, ((at_ + 1 : Nat) : Int), ((at_ + 1 + (sameF dim leaf f (ids.take (halfN ids.length)) (at_ + 1)).length : Nat) : Int)⟩ ::
      (sameF dim leaf f (ids.take (halfN ids.length)) (at_ + 1) ++ sameF dim leaf f (ids.drop (halfN ids.length)) (at_ + 1 + (sameF dim leaf f (ids.take (halfN ids.length)) (at_ + 1)).length))
theorem growF_same {rows : List (List Int)} {dim leaf : Nat} {v : List Int} (hd : v.length = dim) (hl : 1 ≤ leaf) (s : Nat → Int) : ∀ (f : Nat) (ids : List Int) (at_ k : Nat), (∀ id ∈ ids, itemZ rows id = v) → (growF rows dim leaf s f ids at_ k).1 = sameF dim leaf f ids at_ := fun f => by
  induction f with
  | zero => intro ids at_ k _; rfl
  | succ f ih =>
    intro ids at_ k h
    unfold sameF
    by_cases hh : ids.length ≤ leaf
    · rw [if_pos hh, growF_leaf at_ k (.inl hh)]
    · rw [if_neg hh]
      have hc : choose rows dim ids s k = flatV dim ids 4 := by
        subst hd
        exact choose_same (v := v) (by omega) h
      have i1 := ih (ids.take (halfN ids.length)) (at_ + 1) (k + 2 * 4) (fun id hid => h id (List.mem_of_mem_take hid))
      obtain ⟨L, hL⟩ : ∃ L, growF rows dim leaf s f (ids.take (halfN ids.length)) (at_ + 1) (k + 2 * 4) = L := ⟨_, rfl⟩
      obtain ⟨R, hR⟩ : ∃ R, growF rows dim leaf s f (ids.drop (halfN ids.length)) (at_ + 1 + L.1.length) L.2 = R := ⟨_, rfl⟩
      have i2 := ih (ids.drop (halfN ids.length)) (at_ + 1 + L.1.length) L.2 (fun id hid => h id (List.mem_of_mem_drop hid))
      rw [hL] at i1
      rw [hR] at i2
      rw [growF_split at_ k (by omega) hc hL hR]
      simp only [flatV, i1, i2]
theorem sameF_ids (dim leaf : Nat) : ∀ (f : Nat) (ids : List Int) (at_ : Nat), (sameF dim leaf f ids at_).flatMap NodeV.ids = ids := fun f => by
  induction f with
  | zero => intro ids at_; simp [sameF, leafN]
  | succ f ih =>
    intro ids at_
    unfold sameF
    split
    · simp [leafN]
    · rw [List.flatMap_cons, List.flatMap_append, ih, ih]
      simp
theorem sameF_leaves (dim : Nat) {leaf : Nat} (hl : 1 ≤ leaf) : ∀ (f : Nat) (ids : List Int) (at_ : Nat), ids.length ≤ f + 1 → ∀ x ∈ sameF dim leaf f ids at_, (x.leaf = true → x.ids.length ≤ leaf) ∧ (x.leaf = false → x.ids = []) := fun f => by
  induction f with
  | zero =>
    intro ids at_ h x hx
    simp only [sameF, List.mem_singleton] at hx
    subst hx
    exact ⟨fun _ => by simp only [leafN]; omega, fun h => by simp [leafN] at h⟩
  | succ f ih =>
    intro ids at_ h x hx
    unfold sameF at hx
    split at hx
    · rename_i hh
      rw [List.mem_singleton] at hx
      subst hx
      exact ⟨fun _ => hh, fun h => by simp [leafN] at h⟩
    · rename_i hh
      rcases List.mem_cons.1 hx with hx | hx
      · subst hx
        exact ⟨fun h => by simp at h, fun _ => rfl⟩
      · rcases List.mem_append.1 hx with hx | hx
        · exact ih _ _ (by rw [List.length_take]; unfold halfN; omega) x hx
        · exact ih _ _ (by rw [List.length_drop]; unfold halfN; omega) x hx
theorem sameF_pos (dim leaf : Nat) (f : Nat) (ids : List Int) (at_ : Nat) : 1 ≤ (sameF dim leaf f ids at_).length := by
  cases f with
  | zero => simp [sameF]
  | succ f => unfold sameF; split <;> simp
end Go.Proofs.Ytohmcpblagcfeaa
