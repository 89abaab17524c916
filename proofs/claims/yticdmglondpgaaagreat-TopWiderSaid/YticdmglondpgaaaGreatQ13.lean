/-
  Texts on the program, part 13: Pairs, TwoP.
-/
import Derived.Deep.SlicePairs
import Derived.Test.YticdmglondpgaaaGreatQ02
import Derived.Test.YticdmglondpgaaaGreatQ11

/-! ## Pairs: A list of structs of two whole numbers, in memory, and how such an argument reads. No condition. -/
namespace Go.Proofs.YticdmglondpgaaaGreat
open Go.ChangeShapes Go.WideShapes Go.RowKit
set_option linter.unusedVariables false
set_option maxRecDepth 100000

def RdP (w : World) (k0 k1 : IntKind) (A : Option Addr) (xs : List (Int × Int)) : Prop :=
  xs.length ≤ 9223372036854775807 ∧ ∀ j, j < xs.length → ∃ ad, A = some ad ∧ w.cell? (ad.add (j * 2)) = some (.int k0 (xs.getD j (0, 0)).1) ∧ w.cell? (ad.add (j * 2 + 1)) = some (.int k1 (xs.getD j (0, 0)).2)
theorem RdP.below {w w1 : World} {k0 k1 : IntKind} {A : Option Addr} {xs : List (Int × Int)} (h : RdP w k0 k1 A xs) (hb : Below w.heap.size w w1) : RdP w1 k0 k1 A xs :=
  ⟨h.1, fun j hj => by
    obtain ⟨ad, e, h1, h2⟩ := h.2 j hj
    exact ⟨ad, e, cell_below hb h1 (World.block_lt_of_cell? _ _ h1), cell_below hb h2 (World.block_lt_of_cell? _ _ h2)⟩⟩
theorem RdP.nil (w : World) (k0 k1 : IntKind) (A : Option Addr) : RdP w k0 k1 A [] := ⟨by simp, fun j hj => by simp at hj⟩
def intV : Value → Int
  | .int _ n => n
  | _ => 0
section
variable {H : Type} {enc : TypeId × Value → H} {W : World} {held : Bool} {P : Program}
theorem open_pr {t e : TypeId} {f0 f1 : Field} {k0 k1 : IntKind} {v : Value} {fuel : Nat} {y : DataW H × List MemPlace} (ht : P.underlying t = some (.slice e)) (he : P.underlying e = some (.struct #[f0, f1])) (ce : P.cellsOf e = 2) (o0 : f0.offset = 0) (o1 : f1.offset = 1) (c0 : P.cellsOf f0.type = 1) (c1 : P.cellsOf f1.type = 1)
    (u0 : P.underlying f0.type = some (.int k0)) (u1 : P.underlying f1.type = some (.int k1)) (hf : DataW.trod enc P W 0 (fun _ => true) held fuel t v.cells.toList = some y) (hv : ∃ A n c, v = .slice A n c) :
    ∃ A c xs, v = .slice A xs.length c ∧ xs.length ≤ c ∧ RdP W k0 k1 A xs ∧ ∀ x ∈ xs, (Lit.int k0 x.1).wf = true ∧ (Lit.int k1 x.2).wf = true := by
  obtain ⟨A, n, c, rfl⟩ := hv
  rcases Go.Deep.open_slice_pairs ht he ce o0 o1 c0 c1 hf with ⟨hcs, _⟩ | ⟨a, len, cap, m, q, V0, V1, D0, D1, P0, P1, hcs, _, hl, hm, hmm, _, hx⟩
  · simp [Value.cells] at hcs
    obtain ⟨rfl, rfl, rfl⟩ := hcs
    exact ⟨none, 0, [], rfl, Nat.le_refl _, RdP.nil _ _ _ _, fun x hx => by cases hx⟩
  · simp [Value.cells] at hcs
    obtain ⟨rfl, rfl, rfl⟩ := hcs
    simp only [if_true] at hmm
    have hel : ∀ i, i < n → V0 i = .int k0 (intV (V0 i)) ∧ V1 i = .int k1 (intV (V1 i)) ∧ (Lit.int k0 (intV (V0 i))).wf = true ∧ (Lit.int k1 (intV (V1 i))).wf = true := fun i hi => by
      obtain ⟨_, _, h0, h1⟩ := hx i (by omega)
      obtain ⟨n0, e0, w0⟩ := open_num u0 h0
      obtain ⟨n1, e1, w1⟩ := open_num u1 h1
      rw [e0, e1]
      exact ⟨rfl, rfl, w0, w1⟩
    have hlen : ((List.range n).map fun i => (intV (V0 i), intV (V1 i))).length = n := by simp
    refine ⟨some a, c, (List.range n).map fun i => (intV (V0 i), intV (V1 i)), by rw [hlen], by rw [hlen]; exact hl, ⟨by rw [hlen]; simp only [maxLen] at hm; omega, fun j hj => ?_⟩, fun x hx' => ?_⟩
    · rw [hlen] at hj
      obtain ⟨h0, h1, _, _⟩ := hx j (by omega)
      have e : ((List.range n).map fun i => (intV (V0 i), intV (V1 i))).getD j (0, 0) = (intV (V0 j), intV (V1 j)) := by simp [List.getD, hj]
      rw [e]
      obtain ⟨e0, e1, _, _⟩ := hel j hj
      exact ⟨a, rfl, by rw [h0, e0]; rfl, by rw [h1, e1]; rfl⟩
    · obtain ⟨i, hi, rfl⟩ := List.mem_map.1 hx'
      obtain ⟨_, _, w0, w1⟩ := hel i (List.mem_range.1 hi)
      exact ⟨w0, w1⟩
end
theorem cells_rs : Tryz.prog.cellsOf 90 = 2 := by kernel_rfl
theorem open_rs {H : Type} {enc : TypeId × Value → H} {W : World} {held : Bool} {r : Reach} {b0 : Nat} {v : Value} {d : DataW H} {p : List MemPlace}
    (hv : Value.okWide Tryz.prog W r b0 36 v) (h : DataW.Trod enc Tryz.prog W 0 (fun _ => true) held 36 v d p) :
    ∃ A c xs, v = .slice A xs.length c ∧ xs.length ≤ c ∧ RdP W .i64 .i64 A xs ∧ ∀ x ∈ xs, (Lit.int .i64 x.1).wf = true ∧ (Lit.int .i64 x.2).wf = true := by
  obtain ⟨fuel, hf⟩ := h
  exact open_pr Tryz.underlying36 Tryz.underlying90 cells_rs rfl rfl (by kernel_rfl) (by kernel_rfl) Tryz.underlying3 Tryz.underlying2 hf (okWide_slice Tryz.underlying36 hv)
end Go.Proofs.YticdmglondpgaaaGreat

/-! ## TwoP: A row of the call's own of pairs reads as pairs; the beginning of pairs. No condition. -/
namespace Go.Proofs.YticdmglondpgaaaGreat
open Go.RowKit
set_option linter.unusedVariables false
set_option maxRecDepth 100000
theorem OwnF.rdp {w : World} {base : Nat} {e : TypeId} {A : Option Addr} {n c : Nat} {xs : List (Int × Int)} {f : Int × Int → List Value} (h : OwnF w base e 2 f (.slice A n c) xs) (hf : f = fun p => [.int .i64 p.1, .int .i64 p.2]) : RdP w .i64 .i64 A xs := by
  have hq : ∀ x, (f x).length = 2 := fun x => by rw [hf]; rfl
  have hn : n = xs.length := by
    obtain ⟨A1, c1, he, _⟩ := h.shape
    injection he
  have hb : xs.length ≤ 9223372036854775807 := by
    rcases h.2 with ⟨_, h0⟩ | ⟨g, cap, cur, h1, _, _, h2, h3, _⟩
    · omega
    · have : maxLen = 9223372036854775807 := rfl
      omega
  refine ⟨hb, fun j hj => ?_⟩
  obtain ⟨g, x, rfl, _, _, hx, hc, _, _⟩ := h.at_ hq j (by omega) (by omega)
  have hxg : xs.getD j (0, 0) = x := by simp [List.getD, hx]
  have h0 := hc 0 (by omega)
  have h1 := hc 1 (by omega)
  rw [hf] at h0 h1
  refine ⟨_, rfl, ?_, ?_⟩
  · rw [add_plain, hxg]; exact h0
  · rw [add_plain, hxg]; exact h1
theorem RdP.take {w : World} {k0 k1 : IntKind} {A : Option Addr} {xs : List (Int × Int)} (h : RdP w k0 k1 A xs) (k : Nat) : RdP w k0 k1 A (xs.take k) := by
  refine ⟨by have := h.1; simp; omega, fun j hj => ?_⟩
  rw [List.length_take] at hj
  have hj1 : j < k := by omega
  have e : (xs.take k).getD j (0, 0) = xs.getD j (0, 0) := by simp [List.getD, List.getElem?_take_of_lt hj1]
  rw [e]
  exact h.2 j (by omega)
end Go.Proofs.YticdmglondpgaaaGreat
