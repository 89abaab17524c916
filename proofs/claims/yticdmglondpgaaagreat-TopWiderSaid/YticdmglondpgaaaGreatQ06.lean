/-
  Texts on the program, part 6: AppIn.
-/
import Derived.OwnWalkIn
import Derived.Test.YticdmglondpgaaaGreatQ02

/-! ## AppIn: An append of ints inside a fence (a round of a range over a function). -/
namespace Go.Proofs.YticdmglondpgaaaGreat
open Go.RowKit
set_option linter.unusedVariables false
set_option maxRecDepth 100000
set_option linter.unusedSimpArgs false

theorem wpListIn_appI {F: Fence} {n : Nat} {P : Program} (w : World) {ops : Array Oper} {rest : List Oper} {o : Oper} {a : Act} {Q : Exit → Act → World → Prop} (hgd : o.guard = none) (s x : Operand) (t e : TypeId)
    (ho : o.op = .call { callee := .builtin .append, args := #[s, x], argTypes := #[t, t] })
    (k : IntKind) (bytes : Nat) (ht : P.underlying t = some (.slice e)) (hinfo : (P.info? e).map (fun i => (i.zero, i.size, i.bytes)) = some (some (.int k 0), 1, bytes)) (hb0 : 0 < bytes)
    (base : Nat) (v : Value) (xs : List Int) (hs : a.eval s = v) (A : Option Addr) (c : Nat) (ys : List Int) (hx : a.eval x = .slice A ys.length c) (hown : Own w base e k v xs) (w0 : World) (HB : Below base w0 w) (hbase : base ≤ w.heap.size)
    (hnews : Rd w k A ys) (hbytes : (xs.length + ys.length) * bytes ≤ 140737488355328)
    (h : ∀ v' w', Own w' base e k v' (xs ++ ys) → Only (OwnB v) w w' → Below base w0 w' → (v'.ownBlock = v.ownBlock ∨ v'.ownBlock = some w.heap.size) → (v' = .slice none 0 0 ↔ v = .slice none 0 0 ∧ ys.length = 0) → wpListIn F n P ops Q rest (a.put o.dst v') w') :
    wpListIn F n P ops Q (o :: rest) a w := by
  obtain ⟨v1, w1, hr, h2, h3, h4, h5⟩ := run_app (P := P) w t o.type e (.int k 0) 1 bytes ht hinfo rfl (by omega) hb0 base v xs.length (nums k xs) hown hbase A ys.length c (nums k ys) (by simp [nums]) hnews.c (nums_one _ _) hbytes
  refine wpListIn_plain hgd fun K hK' => ?_
  unfold Oper.wpIn
  refine ⟨?_, ?_⟩
  · simp [Oper.about, ho, resolve, Target.leads, Sem.run_pure]
  · rw [Oper.semAt_plain F _ _ (by rw [ho]; intro c hc'; cases hc')]
    simp [execOp, ho, resolve, invoke, builtin, hs, hx, hr, Result.andThen]
    exact hK' _ _ (h v1 w1 (by unfold Own; rw [nums_append, List.length_append]; exact h2) (only_grown h3) (HB.grown h3 hbase (own_base hown)) h4 h5)
end Go.Proofs.YticdmglondpgaaaGreat
