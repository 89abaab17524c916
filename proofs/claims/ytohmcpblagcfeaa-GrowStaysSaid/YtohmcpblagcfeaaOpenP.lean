
/-
  How an argument of a statement that is a struct of params reads, by value. No condition.
-/
import Derived.Test.YtohmcpblagcfeaaOpenS
import Derived.Deep.Strs
namespace Go.Proofs.Ytohmcpblagcfeaa
open Go.ChangeShapes Go.WideShapes Go.RowKit
set_option linter.unusedVariables false
set_option maxRecDepth 100000
theorem array6 {α : Type} {cs : Array α} (h : cs.size = 6) : ∃ c0 c1 c2 c3 c4 c5, cs = #[c0, c1, c2, c3, c4, c5] := by
  obtain ⟨l⟩ := cs
  match l, h with
  | [c0, c1, c2, c3, c4, c5], _ => exact ⟨c0, c1, c2, c3, c4, c5, rfl⟩
theorem cells_params : Try.prog.cellsOf 67 = 6 := by kernel_rfl
theorem cells_drawsP : Try.prog.cellsOf 65 = 3 := by kernel_rfl
theorem cells_intP : Try.prog.cellsOf 3 = 1 := by kernel_rfl
theorem cells_booP : Try.prog.cellsOf 4 = 1 := by kernel_rfl
theorem cells_u64P : Try.prog.cellsOf 50 = 1 := by kernel_rfl
theorem cells_u64sP : Try.prog.cellsOf 37 = 1 := by kernel_rfl
set_option maxRecDepth 100000 in
theorem open_params {H : Type} {enc : TypeId × Value → H} {W : World} {held : Bool} {r : Reach} {b0 : Nat} {v : Value} {d : DataW H} {p : List MemPlace}
    (hv : Value.okWide Try.prog W r b0 67 v) (h : DataW.Trod enc Try.prog W 0 (fun _ => true) held 67 v d p) :
    ∃ t l d sc sd A n c, v = .agg #[.int .i64 t, .int .i64 l, .int .i64 d, .bool sc, .int .u64 sd, .slice A n c] ∧ (Lit.int .i64 t).wf = true ∧ (Lit.int .i64 l).wf = true ∧ (Lit.int .i64 d).wf = true := by
  obtain ⟨cs, rfl, hsz⟩ := okWide_struct Try.underlying67 hv
  rw [cells_params] at hsz
  obtain ⟨c0, c1, c2, c3, c4, c5, rfl⟩ := array6 hsz
  obtain ⟨fuel, hf⟩ := h
  obtain ⟨y0, y1, y2, y3, n, _, _, h0, h1, h2, h3⟩ := Go.Joins.trod_struct4 Try.underlying67 hf
  have k0 : DataW.trod enc Try.prog W 0 (fun _ => true) held n 3 [c0] = some y0 := by simpa [Value.cells, cells_intP] using h0
  have k1 : DataW.trod enc Try.prog W 0 (fun _ => true) held n 3 [c1] = some y1 := by simpa [Value.cells, cells_intP] using h1
  have k2 : DataW.trod enc Try.prog W 0 (fun _ => true) held n 3 [c2] = some y2 := by simpa [Value.cells, cells_intP] using h2
  have k3 : DataW.trod enc Try.prog W 0 (fun _ => true) held n 65 [c3, c4, c5] = some y3 := by simpa [Value.cells, cells_drawsP] using h3
  obtain ⟨t, rfl, w0⟩ := open_num Try.underlying3 k0
  obtain ⟨l, rfl, w1⟩ := open_num Try.underlying3 k1
  obtain ⟨d, rfl, w2⟩ := open_num Try.underlying3 k2
  obtain ⟨z0, z1, z2, m, _, _, g0, g1, g2⟩ := Go.Deep.trod_struct3 Try.underlying65 k3
  have j0 : DataW.trod enc Try.prog W 0 (fun _ => true) held m 4 [c3] = some z0 := by simpa [Value.cells, cells_booP] using g0
  have j1 : DataW.trod enc Try.prog W 0 (fun _ => true) held m 50 [c4] = some z1 := by simpa [Value.cells, cells_u64P] using g1
  have j2 : DataW.trod enc Try.prog W 0 (fun _ => true) held m 37 [c5] = some z2 := by simpa [Value.cells, cells_u64sP] using g2
  obtain ⟨sc, rfl⟩ := open_boo Try.underlying4 j0
  obtain ⟨sd, rfl, _⟩ := open_num Try.underlying50 j1
  obtain ⟨A, c, xs, rfl, _⟩ := open_sl Try.underlying37 Try.underlying50 (by kernel_rfl) j2
  exact ⟨t, l, d, sc, sd, A, _, c, rfl, w0, w1, w2⟩
end Go.Proofs.Ytohmcpblagcfeaa
