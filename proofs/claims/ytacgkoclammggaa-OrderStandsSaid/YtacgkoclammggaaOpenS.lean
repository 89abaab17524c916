
/-
  How an argument of a statement that is a struct reads: a plane by value. No condition.
-/
import Derived.Test.YtacgkoclammggaaOpen
import Derived.Lib.SmallJoins
namespace Go.Proofs.Ytacgkoclammggaa
open Go.ChangeShapes Go.WideShapes Go.RowKit
set_option linter.unusedVariables false
set_option maxRecDepth 100000
section
variable {H : Type} {enc : TypeId × Value → H} {W : World} {held : Bool} {P : Program}
theorem open_sl {t e : TypeId} {k : IntKind} {v : Value} {fuel : Nat} {y : DataW H × List MemPlace} (hu : P.underlying t = some (.slice e)) (he : P.underlying e = some (.int k)) (hc : P.cellsOf e = 1)
    (hf : DataW.trod enc P W 0 (fun _ => true) held fuel t [v] = some y) : ∃ A c xs, v = .slice A xs.length c ∧ xs.length ≤ c ∧ Rd W k A xs ∧ (∀ n ∈ xs, (Lit.int k n).wf = true) ∧ (A = none → xs = [] ∧ c = 0) := by
  have h : ∃ A len cap zs, v = .slice A len cap ∧ IsRow k W A len cap zs := by
    rcases open_ints hu he hc hf with ⟨hcs, _⟩ | ⟨x, l, c, zs, hcs, _, hl, hm, hz, hy, hcell, hwz⟩
    · simp at hcs
      exact ⟨_, _, _, [], hcs, .inl ⟨rfl, rfl, rfl, rfl⟩⟩
    · simp at hcs
      exact ⟨_, _, _, zs, hcs, .inr ⟨x, rfl, hl, hm, by simpa using hz, hcell, hwz⟩⟩
  obtain ⟨A, len, cap, zs, rfl, h⟩ := h
  obtain ⟨xs, rfl, h1, h2, h3, h4⟩ := h.rd
  exact ⟨A, cap, xs, rfl, h1, h2, h3, h4⟩
theorem open_num {t : TypeId} {k : IntKind} {v : Value} {fuel : Nat} {y : DataW H × List MemPlace} (hu : P.underlying t = some (.int k))
    (hf : DataW.trod enc P W 0 (fun _ => true) held fuel t [v] = some y) : ∃ n, v = .int k n ∧ (Lit.int k n).wf = true := by
  obtain ⟨n, h1, _, h2⟩ := DataW.trod_int hu hf
  simp at h1
  exact ⟨n, h1, h2⟩
theorem open_boo {t : TypeId} {v : Value} {fuel : Nat} {y : DataW H × List MemPlace} (hu : P.underlying t = some .bool)
    (hf : DataW.trod enc P W 0 (fun _ => true) held fuel t [v] = some y) : ∃ b, v = .bool b := by
  obtain ⟨n, h1, _⟩ := DataW.trod_bool hu hf
  simp at h1
  exact ⟨n, h1⟩
end
theorem cells_res : Try.prog.cellsOf 41 = 2 := by kernel_rfl
set_option maxRecDepth 1000000 in
theorem open_res {H : Type} {enc : TypeId × Value → H} {W : World} {held : Bool} {r : Reach} {b0 : Nat} {v : Value} {d : DataW H} {p : List MemPlace}
    (hv : Value.okWide Try.prog W r b0 41 v) (h : DataW.Trod enc Try.prog W 0 (fun _ => true) held 41 v d p) :
    ∃ a0 a1, v = .agg #[.int .i64 a0, .int .i64 a1] ∧ (Lit.int .i64 a0).wf = true ∧ (Lit.int .i64 a1).wf = true := by
  obtain ⟨c0, c1, y0, y1, n, rfl, _, _, hy0, hy1⟩ := Go.Joins.open_agg2 Try.underlying41 (by kernel_rfl) cells_res hv h
  obtain ⟨a0, rfl, h0⟩ := open_num Try.underlying3 hy0
  obtain ⟨a1, rfl, h1⟩ := open_num Try.underlying2 hy1
  exact ⟨a0, a1, rfl, h0, h1⟩
end Go.Proofs.Ytacgkoclammggaa
