
/-
  The heap of things of two whole numbers (api.Result): Len, Peek. Condition: the heap's blocks are as the word HpE bx says; no more than a million things.
-/
import Derived.Test.YtacgkoclammggaaHeapE
import Derived.Test.YtacgkoclammggaaHeapBst
import Derived.Laws.ResultCell
namespace Go.Proofs.Ytacgkoclammggaa
open Go.RowKit
set_option linter.unusedVariables false
set_option maxRecDepth 100000
set_option linter.unusedSimpArgs false

theorem HLenE_calls (bx b lo : Nat) (v : Value) (l : List (Int × Int × Int)) (w : World) (h : HpE bx w b lo v l) :
    Calls Try.prog 99 #[.pointer (some ⟨b, 0, none⟩)] w fun e w' => e = .returned (.int .i64 l.length) ∧ ∃ n, w' = w.drewN n := by
  obtain ⟨h1, h2, h3, h4⟩ := h
  obtain ⟨A, c, rfl, hlc⟩ := h2.shape
  have hc1 : w.cell? ⟨b, 1, none⟩ = some (.slice A l.length c) := by simp [World.cell?, h1]
  clear h1 h2
  go_enter Try.func99, Try.ntmps99
  go_wp2_with fail
  go_ret
  exact ⟨rfl, 0, rfl⟩
theorem PeekE_none (bx b lo : Nat) (v : Value) (w : World) (h : HpE bx w b lo v []) :
    Calls Try.prog 86 #[.pointer (some ⟨b, 0, none⟩)] w fun e w' => e = .returned (.tuple #[.agg #[.int .i64 0, .int .i64 0, .int .i64 0], .bool false]) ∧ Below w.heap.size w w' := by
  obtain ⟨h1, h2, h3, h4⟩ := h
  obtain ⟨A, c, rfl, hlc⟩ := h2.shape
  have hc1 : w.cell? ⟨b, 1, none⟩ = some (.slice A 0 c) := by simp [World.cell?, h1]
  have gc1 := fun o => (World.cell?_alloc_lt (o := o) w _ (World.block_lt_of_cell? _ _ hc1)).trans hc1
  clear h1 h2
  go_enter Try.func86, Try.ntmps86
  go_wp2_with fail
  refine bodyPost_ret ?_ rfl ⟨rfl, by repeat (first | exact Below.refl _ _ | apply below_drew1 | apply below_alloc1)⟩
  rw [results_cell_tmp rfl]
  go_simp
theorem PeekE_some (bx b lo : Nat) (v : Value) (x0 x1 x2 : Int) (l : List (Int × Int × Int)) (w : World) (h : HpE bx w b lo v ((x0, x1, x2) :: l)) :
    Calls Try.prog 86 #[.pointer (some ⟨b, 0, none⟩)] w fun e w' => e = .returned (.tuple #[.agg #[.int .i64 x0, .int .i64 x1, .int .i64 x2], .bool true]) ∧ Below w.heap.size w w' := by
  obtain ⟨h1, h2, h3, h4⟩ := h
  obtain ⟨A, c, rfl, hlc⟩ := h2.shape
  obtain ⟨g, x, rfl, _, _, hx, hc0, hf0, _⟩ := h2.at_ tri_q 0 (by simp) (by omega)
  have hx' : (x0, x1, x2) = x := by simpa using hx
  subst hx'
  have hc1 : w.cell? ⟨b, 1, none⟩ = some (.slice (some ⟨g, 0, none⟩) (l.length + 1) c) := by simp [World.cell?, h1]
  have hcx0 : w.cell? ⟨g, 0, none⟩ = some (.int .i64 x0) := by simpa [tri] using hc0 0 (by omega)
  have hcx1 : w.cell? ⟨g, 1, none⟩ = some (.int .i64 x1) := by simpa [tri] using hc0 1 (by omega)
  have hcx2 : w.cell? ⟨g, 2, none⟩ = some (.int .i64 x2) := by simpa [tri] using hc0 2 (by omega)
  have gx0 := fun o => (World.cell?_alloc_lt (o := o) w _ (World.block_lt_of_cell? _ _ hcx0)).trans hcx0
  have gx1 := fun o => (World.cell?_alloc_lt (o := o) w _ (World.block_lt_of_cell? _ _ hcx1)).trans hcx1
  have gx2 := fun o => (World.cell?_alloc_lt (o := o) w _ (World.block_lt_of_cell? _ _ hcx2)).trans hcx2
  have gc1 := fun o => (World.cell?_alloc_lt (o := o) w _ (World.block_lt_of_cell? _ _ hc1)).trans hc1
  have hne : (((l.length + 1 : Nat) : Int) == 0) = false := by simp; omega
  have hb0 : (0 : Int) < (l.length : Int) + 1 := by omega
  clear h1 h2 hc0 hx hf0
  go_enter Try.func86, Try.ntmps86
  go_wp2_with fail
  refine bodyPost_ret ?_ rfl ⟨rfl, by repeat (first | exact Below.refl _ _ | apply below_drew1 | apply below_alloc1)⟩
  rw [results_cell_tmp rfl]
  go_simp
end Go.Proofs.Ytacgkoclammggaa
