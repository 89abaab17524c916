
/-
  Two lists in order, merged, in plain Lean. Conditions: the order is one that goes on (WO); between both lists the comparison tells the order.
-/
import Derived.Test.YtacgkoclammggaaStab
namespace Go.Proofs.Ytacgkoclammggaa
set_option linter.unusedVariables false
set_option maxRecDepth 100000
section
variable {α : Type} {lt cl : α → α → Bool}
/-- The one of the second list comes just if it is first. -/
def mergeL (cl : α → α → Bool) : List α → List α → List α
  | [], ys => ys
  | x :: xs, [] => x :: xs
  | x :: xs, y :: ys => if cl y x = true then y :: mergeL cl (x :: xs) ys else x :: mergeL cl xs (y :: ys)
termination_by xs ys => xs.length + ys.length
theorem mergeL_nil (ys : List α) : mergeL cl [] ys = ys := by unfold mergeL; rfl
theorem mergeL_nil2 (xs : List α) : mergeL cl xs [] = xs := by cases xs <;> (unfold mergeL; rfl)
theorem mergeL_snd {x y : α} {xs ys : List α} (h : cl y x = true) : mergeL cl (x :: xs) (y :: ys) = y :: mergeL cl (x :: xs) ys := by
  rw [mergeL, if_pos h]
theorem mergeL_fst {x y : α} {xs ys : List α} (h : cl y x = false) : mergeL cl (x :: xs) (y :: ys) = x :: mergeL cl xs (y :: ys) := by
  rw [mergeL, if_neg (by rw [h]; simp)]
theorem mergeL_perm : ∀ (n : Nat) (xs ys : List α), xs.length + ys.length ≤ n → (mergeL cl xs ys).Perm (xs ++ ys)
  | _, [], ys, _ => by rw [mergeL_nil]; exact List.Perm.refl _
  | _, x :: xs, [], _ => by rw [mergeL_nil2, List.append_nil]
  | 0, x :: xs, y :: ys, h => by simp at h
  | n + 1, x :: xs, y :: ys, h => by
    cases hc : cl y x with
    | true =>
      rw [mergeL_snd hc]
      exact ((mergeL_perm n (x :: xs) ys (by simp at h ⊢; omega)).cons y).trans (List.perm_middle (a := y) (l₁ := x :: xs) (l₂ := ys)).symm
    | false =>
      rw [mergeL_fst hc]
      exact (mergeL_perm n xs (y :: ys) (by simp at h ⊢; omega)).cons x
theorem mergeL_srt (hw : WO lt) : ∀ (n : Nat) (xs ys : List α), xs.length + ys.length ≤ n → Srt lt xs → Srt lt ys → (∀ x ∈ xs, ∀ y ∈ ys, cl y x = lt y x) → Srt lt (mergeL cl xs ys)
  | _, [], ys, _, _, hy, _ => by rw [mergeL_nil]; exact hy
  | _, x :: xs, [], _, hx, _, _ => by rw [mergeL_nil2]; exact hx
  | 0, x :: xs, y :: ys, h, _, _, _ => by simp at h
  | n + 1, x :: xs, y :: ys, h, hx, hy, hc => by
    have hxy := hc x (by simp) y (by simp)
    cases hq : cl y x with
    | true =>
      rw [hq] at hxy
      rw [mergeL_snd hq]
      refine srt_cons.2 ⟨fun b hb => ?_, mergeL_srt hw n (x :: xs) ys (by simp at h ⊢; omega) hx (srt_cons.1 hy).2 fun a ha b hb => hc a ha b (by simp [hb])⟩
      rcases List.mem_append.1 ((mergeL_perm n (x :: xs) ys (by simp at h ⊢; omega)).subset hb) with hb | hb
      · rcases List.mem_cons.1 hb with rfl | hb
        · exact hw.asym _ _ hxy.symm
        · exact hw.trn _ _ _ ((srt_cons.1 hx).1 b hb) (hw.asym _ _ hxy.symm)
      · exact (srt_cons.1 hy).1 b hb
    | false =>
      rw [hq] at hxy
      rw [mergeL_fst hq]
      refine srt_cons.2 ⟨fun b hb => ?_, mergeL_srt hw n xs (y :: ys) (by simp at h ⊢; omega) (srt_cons.1 hx).2 hy fun a ha b hb => hc a (by simp [ha]) b hb⟩
      rcases List.mem_append.1 ((mergeL_perm n xs (y :: ys) (by simp at h ⊢; omega)).subset hb) with hb | hb
      · exact (srt_cons.1 hx).1 b hb
      · rcases List.mem_cons.1 hb with rfl | hb
        · exact hxy.symm
        · exact hw.trn _ _ _ ((srt_cons.1 hy).1 b hb) hxy.symm
end
end Go.Proofs.Ytacgkoclammggaa
