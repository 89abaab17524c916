/-
  Texts on the program, part 11: OpenS, OpenP, OpenP2.
-/
import Derived.Lib.SmallJoins
import Derived.Deep.Strs
import Derived.Test.YticdmglondpgaaaGreatQ05

/-! ## OpenS: How an argument of a statement that is a struct reads: a plane by value. No condition. -/
namespace Go.Proofs.YticdmglondpgaaaGreat
open Go.ChangeShapes Go.WideShapes Go.RowKit
set_option linter.unusedVariables false
set_option maxRecDepth 100000
section
variable {H : Type} {enc : TypeId × Value → H} {W : World} {held : Bool} {P : Program}
theorem open_sl {t e : TypeId} {k : IntKind} {v : Value} {fuel : Nat} {y : DataW H × List MemPlace} (hu : P.underlying t = some (.slice e)) (he : P.underlying e = some (.int k)) (hc : P.cellsOf e = 1)
    (hf : DataW.trod enc P W 0 (fun _ => true) held fuel t [v] = some y) : ∃ A c xs, v = .slice A xs.length c ∧ xs.length ≤ c ∧ Rd W k A xs ∧ (∀ n ∈ xs, (Lit.int k n).wf = true) ∧ (A = none → xs = [] ∧ c = 0) := by
  have h : ∃ A len cap zs, v = .slice A len cap ∧ IsRow k W A len cap zs := by
    rcases open_ints hu he hc hf with ⟨hcs, _⟩ | ⟨x, l, c, zs, hcs, _, hl, hm, hz, hy, hcell, hwz⟩
    · simp at hcs
      exact ⟨_, _, _, [], hcs, .inl ⟨rfl, rfl, rfl, rfl⟩⟩
    · simp at hcs
      exact ⟨_, _, _, zs, hcs, .inr ⟨x, rfl, hl, hm, by simpa using hz, hcell, hwz⟩⟩
  obtain ⟨A, len, cap, zs, rfl, h⟩ := h
  obtain ⟨xs, rfl, h1, h2, h3, h4⟩ := h.rd
  exact ⟨A, cap, xs, rfl, h1, h2, h3, h4⟩
theorem open_num {t : TypeId} {k : IntKind} {v : Value} {fuel : Nat} {y : DataW H × List MemPlace} (hu : P.underlying t = some (.int k))
    (hf : DataW.trod enc P W 0 (fun _ => true) held fuel t [v] = some y) : ∃ n, v = .int k n ∧ (Lit.int k n).wf = true := by
  obtain ⟨n, h1, _, h2⟩ := DataW.trod_int hu hf
  simp at h1
  exact ⟨n, h1, h2⟩
theorem open_boo {t : TypeId} {v : Value} {fuel : Nat} {y : DataW H × List MemPlace} (hu : P.underlying t = some .bool)
    (hf : DataW.trod enc P W 0 (fun _ => true) held fuel t [v] = some y) : ∃ b, v = .bool b := by
  obtain ⟨n, h1, _⟩ := DataW.trod_bool hu hf
  simp at h1
  exact ⟨n, h1⟩
end
theorem cells_plane : Tryz.prog.cellsOf 111 = 2 := by kernel_rfl
set_option maxRecDepth 100000 in
theorem open_plane {H : Type} {enc : TypeId × Value → H} {W : World} {held : Bool} {r : Reach} {b0 : Nat} {v : Value} {d : DataW H} {p : List MemPlace}
    (hv : Value.okWide Tryz.prog W r b0 111 v) (h : DataW.Trod enc Tryz.prog W 0 (fun _ => true) held 111 v d p) :
    ∃ A c xs off, v = .agg #[.slice A xs.length c, .int .i64 off] ∧ xs.length ≤ c ∧ Rd W .i32 A xs ∧ (∀ n ∈ xs, (Lit.int .i32 n).wf = true) ∧ (Lit.int .i64 off).wf = true := by
  obtain ⟨c0, c1, y0, y1, n, rfl, _, _, hy0, hy1⟩ := Go.Joins.open_agg2 Tryz.underlying111 (by kernel_rfl) cells_plane hv h
  obtain ⟨A, c, xs, rfl, h1, h2, h3, _⟩ := open_sl Tryz.underlying29 Tryz.underlying21 (by kernel_rfl) hy0
  obtain ⟨off, rfl, h4⟩ := open_num Tryz.underlying2 hy1
  exact ⟨A, c, xs, off, rfl, h1, h2, h3, h4⟩
theorem cells_draws : Tryz.prog.cellsOf 26 = 3 := by kernel_rfl
set_option maxRecDepth 100000 in
theorem open_draws {H : Type} {enc : TypeId × Value → H} {W : World} {held : Bool} {r : Reach} {b0 : Nat} {v : Value} {d : DataW H} {p : List MemPlace}
    (hv : Value.okWide Tryz.prog W r b0 26 v) (h : DataW.Trod enc Tryz.prog W 0 (fun _ => true) held 26 v d p) :
    ∃ scr seed A c xs, v = .agg #[.bool scr, .int .u64 seed, .slice A xs.length c] ∧ xs.length ≤ c ∧ (Lit.int .u64 seed).wf = true ∧ Rd W .u64 A xs ∧ (∀ n ∈ xs, (Lit.int .u64 n).wf = true) := by
  obtain ⟨c0, c1, c2, y0, y1, y2, n, rfl, _, _, hy0, hy1, hy2⟩ := Go.Joins.open_agg3 Tryz.underlying26 (by kernel_rfl) cells_draws hv h
  obtain ⟨scr, rfl⟩ := open_boo Tryz.underlying4 hy0
  obtain ⟨seed, rfl, h4⟩ := open_num Tryz.underlying23 hy1
  obtain ⟨A, c, xs, rfl, h1, h2, h3, _⟩ := open_sl Tryz.underlying24 Tryz.underlying23 (by kernel_rfl) hy2
  exact ⟨scr, seed, A, c, xs, rfl, h1, h4, h2, h3⟩
theorem cells_res : Tryz.prog.cellsOf 90 = 2 := by kernel_rfl
set_option maxRecDepth 1000000 in
theorem open_res {H : Type} {enc : TypeId × Value → H} {W : World} {held : Bool} {r : Reach} {b0 : Nat} {v : Value} {d : DataW H} {p : List MemPlace}
    (hv : Value.okWide Tryz.prog W r b0 90 v) (h : DataW.Trod enc Tryz.prog W 0 (fun _ => true) held 90 v d p) :
    ∃ a0 a1, v = .agg #[.int .i64 a0, .int .i64 a1] ∧ (Lit.int .i64 a0).wf = true ∧ (Lit.int .i64 a1).wf = true := by
  obtain ⟨c0, c1, y0, y1, n, rfl, _, _, hy0, hy1⟩ := Go.Joins.open_agg2 Tryz.underlying90 (by kernel_rfl) cells_res hv h
  obtain ⟨a0, rfl, h0⟩ := open_num Tryz.underlying3 hy0
  obtain ⟨a1, rfl, h1⟩ := open_num Tryz.underlying2 hy1
  exact ⟨a0, a1, rfl, h0, h1⟩
end Go.Proofs.YticdmglondpgaaaGreat

/-! ## OpenP: How an argument of a statement that is a struct of params reads, by value. No condition. -/
namespace Go.Proofs.YticdmglondpgaaaGreat
open Go.ChangeShapes Go.WideShapes Go.RowKit
set_option linter.unusedVariables false
set_option maxRecDepth 100000
theorem array6 {α : Type} {cs : Array α} (h : cs.size = 6) : ∃ c0 c1 c2 c3 c4 c5, cs = #[c0, c1, c2, c3, c4, c5] := by
  obtain ⟨l⟩ := cs
  match l, h with
  | [c0, c1, c2, c3, c4, c5], _ => exact ⟨c0, c1, c2, c3, c4, c5, rfl⟩
theorem cells_params : Tryz.prog.cellsOf 28 = 6 := by kernel_rfl
theorem cells_drawsP : Tryz.prog.cellsOf 26 = 3 := by kernel_rfl
theorem cells_intP : Tryz.prog.cellsOf 3 = 1 := by kernel_rfl
theorem cells_booP : Tryz.prog.cellsOf 4 = 1 := by kernel_rfl
theorem cells_u64P : Tryz.prog.cellsOf 23 = 1 := by kernel_rfl
theorem cells_u64sP : Tryz.prog.cellsOf 24 = 1 := by kernel_rfl
set_option maxRecDepth 100000 in
theorem open_params {H : Type} {enc : TypeId × Value → H} {W : World} {held : Bool} {r : Reach} {b0 : Nat} {v : Value} {d : DataW H} {p : List MemPlace}
    (hv : Value.okWide Tryz.prog W r b0 28 v) (h : DataW.Trod enc Tryz.prog W 0 (fun _ => true) held 28 v d p) :
    ∃ t l d sc sd A n c, v = .agg #[.int .i64 t, .int .i64 l, .int .i64 d, .bool sc, .int .u64 sd, .slice A n c] ∧ (Lit.int .i64 t).wf = true ∧ (Lit.int .i64 l).wf = true ∧ (Lit.int .i64 d).wf = true := by
  obtain ⟨cs, rfl, hsz⟩ := okWide_struct Tryz.underlying28 hv
  rw [cells_params] at hsz
  obtain ⟨c0, c1, c2, c3, c4, c5, rfl⟩ := array6 hsz
  obtain ⟨fuel, hf⟩ := h
  obtain ⟨y0, y1, y2, y3, n, _, _, h0, h1, h2, h3⟩ := Go.Joins.trod_struct4 Tryz.underlying28 hf
  have k0 : DataW.trod enc Tryz.prog W 0 (fun _ => true) held n 3 [c0] = some y0 := by simpa [Value.cells, cells_intP] using h0
  have k1 : DataW.trod enc Tryz.prog W 0 (fun _ => true) held n 3 [c1] = some y1 := by simpa [Value.cells, cells_intP] using h1
  have k2 : DataW.trod enc Tryz.prog W 0 (fun _ => true) held n 3 [c2] = some y2 := by simpa [Value.cells, cells_intP] using h2
  have k3 : DataW.trod enc Tryz.prog W 0 (fun _ => true) held n 26 [c3, c4, c5] = some y3 := by simpa [Value.cells, cells_drawsP] using h3
  obtain ⟨t, rfl, w0⟩ := open_num Tryz.underlying3 k0
  obtain ⟨l, rfl, w1⟩ := open_num Tryz.underlying3 k1
  obtain ⟨d, rfl, w2⟩ := open_num Tryz.underlying3 k2
  obtain ⟨z0, z1, z2, m, _, _, g0, g1, g2⟩ := Go.Deep.trod_struct3 Tryz.underlying26 k3
  have j0 : DataW.trod enc Tryz.prog W 0 (fun _ => true) held m 4 [c3] = some z0 := by simpa [Value.cells, cells_booP] using g0
  have j1 : DataW.trod enc Tryz.prog W 0 (fun _ => true) held m 23 [c4] = some z1 := by simpa [Value.cells, cells_u64P] using g1
  have j2 : DataW.trod enc Tryz.prog W 0 (fun _ => true) held m 24 [c5] = some z2 := by simpa [Value.cells, cells_u64sP] using g2
  obtain ⟨sc, rfl⟩ := open_boo Tryz.underlying4 j0
  obtain ⟨sd, rfl, _⟩ := open_num Tryz.underlying23 j1
  obtain ⟨A, c, xs, rfl, _⟩ := open_sl Tryz.underlying24 Tryz.underlying23 (by kernel_rfl) j2
  exact ⟨t, l, d, sc, sd, A, _, c, rfl, w0, w1, w2⟩
end Go.Proofs.YticdmglondpgaaaGreat

/-! ## OpenP2: How an argument of a statement that is a struct of params reads, with its list of draws. No condition. -/
namespace Go.Proofs.YticdmglondpgaaaGreat
open Go.ChangeShapes Go.WideShapes Go.RowKit
set_option linter.unusedVariables false
set_option maxRecDepth 100000
set_option maxRecDepth 100000 in
theorem open_paramsD {H : Type} {enc : TypeId × Value → H} {W : World} {held : Bool} {r : Reach} {b0 : Nat} {v : Value} {d : DataW H} {p : List MemPlace}
    (hv : Value.okWide Tryz.prog W r b0 28 v) (h : DataW.Trod enc Tryz.prog W 0 (fun _ => true) held 28 v d p) :
    ∃ t l d sc sd A c, ∃ xs : List Int, v = .agg #[.int .i64 t, .int .i64 l, .int .i64 d, .bool sc, .int .u64 sd, .slice A xs.length c] ∧ (Lit.int .i64 t).wf = true ∧ (Lit.int .i64 l).wf = true ∧ (Lit.int .i64 d).wf = true ∧ (Lit.int .u64 sd).wf = true ∧ xs.length ≤ c ∧ Rd W .u64 A xs ∧ (∀ n ∈ xs, (Lit.int .u64 n).wf = true) := by
  obtain ⟨cs, rfl, hsz⟩ := okWide_struct Tryz.underlying28 hv
  rw [cells_params] at hsz
  obtain ⟨c0, c1, c2, c3, c4, c5, rfl⟩ := array6 hsz
  obtain ⟨fuel, hf⟩ := h
  obtain ⟨y0, y1, y2, y3, n, _, _, h0, h1, h2, h3⟩ := Go.Joins.trod_struct4 Tryz.underlying28 hf
  have k0 : DataW.trod enc Tryz.prog W 0 (fun _ => true) held n 3 [c0] = some y0 := by simpa [Value.cells, cells_intP] using h0
  have k1 : DataW.trod enc Tryz.prog W 0 (fun _ => true) held n 3 [c1] = some y1 := by simpa [Value.cells, cells_intP] using h1
  have k2 : DataW.trod enc Tryz.prog W 0 (fun _ => true) held n 3 [c2] = some y2 := by simpa [Value.cells, cells_intP] using h2
  have k3 : DataW.trod enc Tryz.prog W 0 (fun _ => true) held n 26 [c3, c4, c5] = some y3 := by simpa [Value.cells, cells_drawsP] using h3
  obtain ⟨t, rfl, w0⟩ := open_num Tryz.underlying3 k0
  obtain ⟨l, rfl, w1⟩ := open_num Tryz.underlying3 k1
  obtain ⟨d, rfl, w2⟩ := open_num Tryz.underlying3 k2
  obtain ⟨z0, z1, z2, m, _, _, g0, g1, g2⟩ := Go.Deep.trod_struct3 Tryz.underlying26 k3
  have j0 : DataW.trod enc Tryz.prog W 0 (fun _ => true) held m 4 [c3] = some z0 := by simpa [Value.cells, cells_booP] using g0
  have j1 : DataW.trod enc Tryz.prog W 0 (fun _ => true) held m 23 [c4] = some z1 := by simpa [Value.cells, cells_u64P] using g1
  have j2 : DataW.trod enc Tryz.prog W 0 (fun _ => true) held m 24 [c5] = some z2 := by simpa [Value.cells, cells_u64sP] using g2
  obtain ⟨sc, rfl⟩ := open_boo Tryz.underlying4 j0
  obtain ⟨sd, rfl, w3⟩ := open_num Tryz.underlying23 j1
  obtain ⟨A, c, xs, rfl, hc, hr, hw, _⟩ := open_sl Tryz.underlying24 Tryz.underlying23 (by kernel_rfl) j2
  exact ⟨t, l, d, sc, sd, A, c, xs, rfl, w0, w1, w2, w3, hc, hr, hw⟩
end Go.Proofs.YticdmglondpgaaaGreat
