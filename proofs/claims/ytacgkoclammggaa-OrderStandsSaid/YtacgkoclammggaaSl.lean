
/-
  Where a selector lies, and how it goes on. No condition: plain definitions and lemmas.
-/
import Derived.Test.YtacgkoclammggaaTri
import Derived.RangeFuncNested
namespace Go.Proofs.Ytacgkoclammggaa
open Go.RowKit
set_option linter.unusedVariables false
set_option maxRecDepth 100000

/-- The selector's block, the variable that its closure reads, its heap's block, the heap's row. -/
structure Sl where
  bs : Nat
  bx : Nat
  b : Nat
  v : Value
/-- What the selector's calls may change. -/
def SlB (s : Sl) (k : Nat) : Prop := k = s.bs ∨ k = s.b ∨ OwnB s.v k
/-- The same selector: its row is the same one, or new. -/
def SlTo (s s' : Sl) (n : Nat) : Prop := s'.bs = s.bs ∧ s'.bx = s.bx ∧ s'.b = s.b ∧ ∀ k, s'.v.ownBlock = some k → s.v.ownBlock = some k ∨ n ≤ k
theorem SlTo.refl (s : Sl) (n : Nat) : SlTo s s n := ⟨rfl, rfl, rfl, fun _ h => .inl h⟩
theorem SlTo.trans {s t u : Sl} {n m : Nat} (h : SlTo s t n) (k : SlTo t u m) (hn : n ≤ m) : SlTo s u n := by
  obtain ⟨h1, h2, h3, h4⟩ := h
  obtain ⟨k1, k2, k3, k4⟩ := k
  refine ⟨k1.trans h1, k2.trans h2, k3.trans h3, fun k hk => ?_⟩
  rcases k4 k hk with h | h
  · exact h4 k h
  · exact .inr (by omega)
theorem SlTo.mem {s t : Sl} {n k : Nat} (h : SlTo s t n) (hk : k < n) (hb : SlB t k) : SlB s k := by
  obtain ⟨h1, h2, h3, h4⟩ := h
  rcases hb with hb | hb | hb
  · exact .inl (hb.trans h1)
  · exact .inr (.inl (hb.trans h3))
  · exact .inr (.inr ((h4 k hb).resolve_right (by omega)))
/-- What is changed of the selector as it was, and as it is. -/
theorem Only.sl {s t : Sl} {a b c : World} (h1 : Only (SlB s) a b) (h2 : Only (SlB t) b c) (h : SlTo s t a.heap.size) : Only (SlB s) a c :=
  ⟨h2.os.trans h1.os, h2.tape.trans h1.tape, h2.output.trans h1.output, Nat.le_trans h1.size h2.size, fun k hk hs => (h2.block k (by have := h1.size; omega) fun ht => hs (h.mem hk ht)).trans (h1.block k hk hs)⟩
/-- What an offer makes of what is kept: the last one is on top. -/
def OffR (ah : Int × Int × Int → Int × Int × Int → Bool) (most : Int) (x : Int × Int × Int) (L L' : List (Int × Int × Int)) (ok : Bool) : Prop :=
  ((L.length : Int) < most ∧ ok = true ∧ L'.Perm (x :: L)) ∨ (¬ (L.length : Int) < most ∧ ((L = [] ∧ ok = false ∧ L' = L) ∨ ∃ z r, L = z :: r ∧ ((ah x z = false ∧ ok = false ∧ L' = L) ∨ (ah x z = true ∧ ok = true ∧ L'.Perm (x :: r)))))
theorem only_putObj (W : World) (b : Nat) (o : Obj) : Only (fun k => k = b) W (W.putObj b o) := ⟨rfl, rfl, rfl, by simp, fun k _ hk => World.putObj_heap_other hk⟩
end Go.Proofs.Ytacgkoclammggaa
