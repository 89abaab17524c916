
/-
  A list of lists of whole numbers in memory, and how such an argument reads. No condition.
-/
import Derived.Test.YtohmcpblagcfeaaOpenS
import Derived.Deep.Matrix
namespace Go.Proofs.Ytohmcpblagcfeaa
open Go.ChangeShapes Go.WideShapes Go.RowKit
set_option linter.unusedVariables false
set_option maxRecDepth 100000
def Rows (w : World) (k : IntKind) (A : Option Addr) (ls : List (List Int)) : Prop :=
  ls.length ≤ 9223372036854775807 ∧ ∀ j, j < ls.length → ∃ ad B c, A = some ad ∧ w.cell? (ad.add j) = some (.slice B (ls.getD j []).length c) ∧ (ls.getD j []).length ≤ c ∧ Rd w k B (ls.getD j [])
theorem Rows.below {w w1 : World} {k : IntKind} {A : Option Addr} {ls : List (List Int)} (h : Rows w k A ls) (hb : Below w.heap.size w w1) : Rows w1 k A ls :=
  ⟨h.1, fun j hj => by
    obtain ⟨ad, B, c, e, hc, hl, hr⟩ := h.2 j hj
    exact ⟨ad, B, c, e, cell_below hb hc (World.block_lt_of_cell? _ _ hc), hl, hr.below hb⟩⟩
theorem Rows.nil (w : World) (k : IntKind) (A : Option Addr) : Rows w k A [] := ⟨by simp, fun j hj => by simp at hj⟩
section
variable {H : Type} {enc : TypeId × Value → H} {W : World} {held : Bool} {P : Program}
theorem open_mat {t e q : TypeId} {k : IntKind} {v : Value} {fuel : Nat} {y : DataW H × List MemPlace} (ht : P.underlying t = some (.slice e)) (he : P.underlying e = some (.slice q)) (hq : P.underlying q = some (.int k))
    (ce : P.cellsOf e = 1) (cq : P.cellsOf q = 1) (hf : DataW.trod enc P W 0 (fun _ => true) held fuel t v.cells.toList = some y) (hv : ∃ A n c, v = .slice A n c) :
    ∃ A c ls, v = .slice A ls.length c ∧ ls.length ≤ c ∧ Rows W k A ls ∧ ∀ xs ∈ ls, ∀ n ∈ xs, (Lit.int k n).wf = true := by
  obtain ⟨A0, n0, c0, rfl⟩ := hv
  simp only [Value.cells] at hf
  rcases Go.Deep.open_int_rows ht he hq ce cq hf with ⟨hcs, _⟩ | ⟨a, len, cap, A, L, C, Z, hcs, _, hl, hm, _, hrow⟩
  · simp at hcs
    obtain ⟨rfl, rfl, rfl⟩ := hcs
    exact ⟨none, 0, [], rfl, by simp, Rows.nil _ _ _, fun xs h => by cases h⟩
  · simp at hcs
    obtain ⟨rfl, rfl, rfl⟩ := hcs
    have hmx : maxLen = 9223372036854775807 := rfl
    have hll : ((List.range n0).map fun r => (Z r).take (L r)).length = n0 := by simp
    have hget : ∀ j, j < n0 → ((List.range n0).map fun r => (Z r).take (L r)).getD j [] = (Z j).take (L j) := fun j hj => by simp [List.getD, hj]
    refine ⟨some a, c0, (List.range n0).map fun r => (Z r).take (L r), by rw [hll], by rw [hll]; exact hl, ⟨by rw [hll]; omega, fun j hj => ?_⟩, ?_⟩
    · rw [hll] at hj
      obtain ⟨h1, h2, h3, h4, h5, h6, h7⟩ := hrow j (by omega)
      have hlj : ((Z j).take (L j)).length = L j := by simp; omega
      rw [hget j hj, hlj]
      refine ⟨a, A j, C j, rfl, h1, h2, ⟨by omega, fun i hi => ?_⟩⟩
      rw [hlj] at hi
      cases hA : A j with
      | none => have := h6 hA; omega
      | some a' =>
        refine ⟨a', rfl, ?_⟩
        rw [(h7 a' hA).2 i (by omega)]
        simp [List.getD, hi]
    · intro xs hx n hn
      simp only [List.mem_map, List.mem_range] at hx
      obtain ⟨j, hj, rfl⟩ := hx
      obtain ⟨h1, h2, h3, h4, h5, h6, h7⟩ := hrow j (by omega)
      exact h5 n (List.mem_of_mem_take hn)
end
theorem open_m32 {H : Type} {enc : TypeId × Value → H} {W : World} {held : Bool} {r : Reach} {b0 : Nat} {v : Value} {d : DataW H} {p : List MemPlace}
    (hv : Value.okWide Try.prog W r b0 22 v) (h : DataW.Trod enc Try.prog W 0 (fun _ => true) held 22 v d p) :
    ∃ A c ls, v = .slice A ls.length c ∧ ls.length ≤ c ∧ Rows W .i32 A ls ∧ ∀ xs ∈ ls, ∀ n ∈ xs, (Lit.int .i32 n).wf = true := by
  obtain ⟨fuel, hf⟩ := h
  exact open_mat Try.underlying22 Try.underlying24 Try.underlying21 (by kernel_rfl) (by kernel_rfl) hf (okWide_slice Try.underlying22 hv)
end Go.Proofs.Ytohmcpblagcfeaa
