
/-
  The document's sort, in plain Lean: one is put behind the others, till all are. No condition beyond the order's.
-/
import Derived.Test.YtacgkoclammggaaHeapMath
namespace Go.Proofs.Ytacgkoclammggaa
set_option linter.unusedVariables false
set_option maxRecDepth 100000
section
variable {α : Type} {lt : α → α → Bool} {d : α}
theorem rev_ind {P : List α → Prop} (h0 : P []) (h1 : ∀ l x, P l → P (l ++ [x])) (l : List α) : P l := by
  have h : ∀ m : List α, P m.reverse := fun m => by
    induction m with
    | nil => exact h0
    | cons x m ih => rw [List.reverse_cons]; exact h1 _ _ ih
  have := h l.reverse
  rwa [List.reverse_reverse] at this
/-- Where x belongs: behind the last one of the first k that it isn't ahead of. -/
def posI (lt : α → α → Bool) (d x : α) (out : List α) : Nat → Nat
  | 0 => 0
  | k + 1 => if lt x (out.getD k d) = true then posI lt d x out k else k + 1
def insI (lt : α → α → Bool) (d x : α) (out : List α) : List α := out.take (posI lt d x out out.length) ++ [x] ++ out.drop (posI lt d x out out.length)
def sortI (lt : α → α → Bool) (d : α) (l : List α) : List α := l.foldl (fun out x => insI lt d x out) []
theorem posI_le (x : α) (out : List α) : ∀ k, posI lt d x out k ≤ k
  | 0 => Nat.le_refl _
  | k + 1 => by
    unfold posI
    split
    · have := posI_le x out k; omega
    · exact Nat.le_refl _
theorem posI_step {x : α} {out : List α} {k : Nat} (h : lt x (out.getD k d) = true) : posI lt d x out (k + 1) = posI lt d x out k := by rw [posI, if_pos h]
theorem posI_stop {x : α} {out : List α} {k : Nat} (h : lt x (out.getD k d) = false) : posI lt d x out (k + 1) = k + 1 := by rw [posI, if_neg (by rw [h]; exact Bool.false_ne_true)]
theorem insI_length (x : α) (out : List α) : (insI lt d x out).length = out.length + 1 := by
  have := posI_le (lt := lt) (d := d) x out out.length
  simp [insI]; omega
theorem insI_perm (x : α) (out : List α) : (insI lt d x out).Perm (x :: out) := by
  unfold insI
  rw [List.append_assoc]
  have h := List.perm_middle (a := x) (l₁ := out.take (posI lt d x out out.length)) (l₂ := out.drop (posI lt d x out out.length))
  rw [List.take_append_drop] at h
  exact h
theorem sortI_snoc (l : List α) (x : α) : sortI lt d (l ++ [x]) = insI lt d x (sortI lt d l) := by simp [sortI]
theorem sortI_perm (l : List α) : (sortI lt d l).Perm l := by
  refine rev_ind (P := fun l => (sortI lt d l).Perm l) (List.Perm.refl _) (fun l x ih => ?_) l
  rw [sortI_snoc]
  exact (insI_perm x _).trans ((ih.cons x).trans (List.perm_append_comm (l₁ := [x]) (l₂ := l)))
theorem sortI_length (l : List α) : (sortI lt d l).length = l.length := (sortI_perm l).length_eq
/-- In order: none of those behind one is ahead of it. -/
def Srt (lt : α → α → Bool) (l : List α) : Prop := l.Pairwise fun a b => lt b a = false
theorem posI_spec (hw : WO lt) {x : α} {out : List α} (hs : Srt lt out) : ∀ k, k ≤ out.length → (∀ a ∈ out.drop k, lt a x = false) →
    (∀ a ∈ out.take (posI lt d x out k), lt x a = false) ∧ (∀ a ∈ out.drop (posI lt d x out k), lt a x = false)
  | 0, _, h => ⟨fun a ha => by simp [posI] at ha, h⟩
  | k + 1, hk, h => by
    have hget : out[k]? = some (out.getD k d) := by simp [List.getD, show k < out.length by omega]
    cases hlt : lt x (out.getD k d) with
    | true =>
      rw [posI_step hlt]
      refine posI_spec hw hs k (by omega) fun a ha => ?_
      rw [List.drop_eq_getElem_cons (show k < out.length by omega)] at ha
      rcases List.mem_cons.1 ha with rfl | ha
      · have : out[k] = out.getD k d := by simp [List.getD, show k < out.length by omega]
        rw [this]; exact hw.asym _ _ hlt
      · exact h a ha
    | false =>
      rw [posI_stop hlt]
      refine ⟨fun a ha => ?_, h⟩
      obtain ⟨i, hi, rfl⟩ := List.getElem_of_mem ha
      rw [List.length_take] at hi
      have hik : i < out.length := by omega
      rw [List.getElem_take]
      by_cases e : i = k
      · subst e
        have : out[i] = out.getD i d := by simp [List.getD, hik]
        rw [this]; exact hlt
      · have h1 := List.pairwise_iff_getElem.1 hs i k hik (by omega) (by omega)
        have h2 : out[k] = out.getD k d := by simp [List.getD, show k < out.length by omega]
        rw [h2] at h1
        exact hw.trn _ _ _ hlt h1
theorem insI_srt (hw : WO lt) {x : α} {out : List α} (hs : Srt lt out) : Srt lt (insI lt d x out) := by
  obtain ⟨h1, h2⟩ := posI_spec (d := d) (x := x) hw hs out.length (Nat.le_refl _) fun a ha => by simp at ha
  have hpre : Srt lt (out.take (posI lt d x out out.length)) := List.Pairwise.sublist (List.take_sublist _ _) hs
  have hsuf : Srt lt (out.drop (posI lt d x out out.length)) := List.Pairwise.sublist (List.drop_sublist _ _) hs
  unfold insI Srt
  rw [List.append_assoc, List.pairwise_append, List.singleton_append, List.pairwise_cons]
  refine ⟨hpre, ⟨h2, hsuf⟩, fun a ha b hb => ?_⟩
  rcases List.mem_cons.1 hb with rfl | hb
  · exact h1 a ha
  · have h3 : Srt lt (out.take (posI lt d x out out.length) ++ out.drop (posI lt d x out out.length)) := by rw [List.take_append_drop]; exact hs
    exact (List.pairwise_append.1 h3).2.2 a ha b hb
theorem sortI_srt (hw : WO lt) (l : List α) : Srt lt (sortI lt d l) := by
  refine rev_ind (P := fun l => Srt lt (sortI lt d l)) List.Pairwise.nil (fun l x ih => ?_) l
  rw [sortI_snoc]; exact insI_srt hw ih
/-- An order by which alike ones are the same: then what is in order is told by what it holds. -/
theorem srt_uniq (hw : WO lt) (ha : ∀ a b, lt a b = false → lt b a = false → a = b) : ∀ {l m : List α}, Srt lt l → Srt lt m → l.Perm m → l = m
  | [], m, _, _, hp => by have := hp.length_eq; cases m <;> simp_all
  | x :: l, [], _, _, hp => by have := hp.length_eq; simp at this
  | x :: l, y :: m, hl, hm, hp => by
    have hxy : x = y := by
      have h1 : x ∈ y :: m := hp.subset (by simp)
      have h2 : y ∈ x :: l := hp.symm.subset (by simp)
      rcases List.mem_cons.1 h1 with h1 | h1
      · exact h1
      · rcases List.mem_cons.1 h2 with h2 | h2
        · exact h2.symm
        · exact ha _ _ ((List.pairwise_cons.1 hm).1 x h1) ((List.pairwise_cons.1 hl).1 y h2)
    subst hxy
    rw [srt_uniq hw ha (List.pairwise_cons.1 hl).2 (List.pairwise_cons.1 hm).2 (List.Perm.cons_inv hp)]
end
end Go.Proofs.Ytacgkoclammggaa
