
/-
  What is drained of a heap, in plain Lean: pre has come, L is left. No condition beyond the order's.
-/
import Derived.Test.YtacgkoclammggaaHeapMath
import Derived.Test.YtacgkoclammggaaRange
namespace Go.Proofs.Ytacgkoclammggaa
open Go.RowKit
set_option linter.unusedVariables false
set_option maxRecDepth 100000
section
variable {α : Type} {lt : α → α → Bool}
def Drn (lt : α → α → Bool) (l pre L : List α) : Prop := (pre ++ L).Perm l ∧ pre.Pairwise (fun a b => lt b a = false) ∧ ∀ a ∈ pre, ∀ b ∈ L, lt b a = false
theorem Drn.nil {l L : List α} (h : L.Perm l) : Drn lt l [] L := ⟨h, List.Pairwise.nil, fun a ha => by simp at ha⟩
theorem Drn.step (hw : WO lt) {l pre L L' : List α} {x : α} (h : Drn lt l pre (x :: L)) (ho : HeapOk lt (x :: L)) (hp : L'.Perm L) : Drn lt l (pre ++ [x]) L' := by
  obtain ⟨h1, h2, h3⟩ := h
  refine ⟨?_, ?_, fun a ha b hb => ?_⟩
  · rw [List.append_assoc]
    exact (List.Perm.append_left pre (hp.cons x)).trans h1
  · rw [List.pairwise_append]
    refine ⟨h2, List.pairwise_singleton _ _, fun a ha b hb => ?_⟩
    simp at hb
    subst hb
    exact h3 a ha b (by simp)
  · have hbL : b ∈ x :: L := List.mem_cons_of_mem _ (hp.subset hb)
    rcases List.mem_append.1 ha with ha | ha
    · exact h3 a ha b hbL
    · simp at ha
      subst ha
      exact ho.first hw (by simp) hbL
theorem Drn.perm {l l' pre L : List α} (h : Drn lt l pre L) (hp : l.Perm l') : Drn lt l' pre L := ⟨h.1.trans hp, h.2⟩
theorem Drn.len {l pre L : List α} (h : Drn lt l pre L) : pre.length + L.length = l.length := by
  have := h.1.length_eq
  simpa using this
end
/-- How many a heap at block b holds. -/
def hpN (b : Nat) (w : World) : Nat := match w.cell? ⟨b, 1, none⟩ with
  | some (.slice _ n _) => n
  | _ => 0
/-- The caller keeps the heap's blocks, and the box. -/
def KpH (v : Value) (b bX : Nat) (A B : World) : Prop := Only (fun k => ¬ (k = b ∨ OwnB v k ∨ k = bX)) A B
theorem KpH.trans {v : Value} {b bX : Nat} {A B C : World} (h : KpH v b bX A B) (k : KpH v b bX B C) : KpH v b bX A C := Only.trans h k
theorem KpH.putObj {v : Value} {b bX n : Nat} (hE : b < n ∧ bX < n ∧ ∀ k, OwnB v k → k < n) (W : World) (l : Nat) (o' : Obj) (hl : n ≤ l) : KpH v b bX W (W.putObj l o') :=
  ⟨rfl, rfl, rfl, by simp, fun k _ hk => World.putObj_heap_other fun e => hk fun h => by
    rcases h with h | h | h
    · omega
    · have := hE.2.2 k h; omega
    · omega⟩
end Go.Proofs.Ytacgkoclammggaa
