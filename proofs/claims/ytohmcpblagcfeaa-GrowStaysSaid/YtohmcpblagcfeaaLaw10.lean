
/-
  What the statements of layer 10 (data) share: the document's example answers true. No condition.
-/
import Derived.Test.YtohmcpblagcfeaaData
namespace Go.Proofs.Ytohmcpblagcfeaa
open Go.RowKit
set_option linter.unusedVariables false
set_option maxRecDepth 100000
set_option linter.unusedSimpArgs false

theorem rows_two (w : World) (t1 t2 : TypeId) : Rows (((w.alloc (.cells #[.int .i32 1, .int .i32 2] t1)).alloc (.cells #[.int .i32 3, .int .i32 4] t1)).alloc (.cells #[.slice (some ⟨w.heap.size, 0, none⟩) 2 2, .slice (some ⟨w.heap.size + 1, 0, none⟩) 2 2] t2)) .i32 (some ⟨w.heap.size + 2, 0, none⟩) [[1, 2], [3, 4]] := by
  have r1 : Rd (((w.alloc (.cells #[.int .i32 1, .int .i32 2] t1)).alloc (.cells #[.int .i32 3, .int .i32 4] t1)).alloc (.cells #[.slice (some ⟨w.heap.size, 0, none⟩) 2 2, .slice (some ⟨w.heap.size + 1, 0, none⟩) 2 2] t2)) .i32 (some ⟨w.heap.size, 0, none⟩) [1, 2] :=
    ((Rd.new w .i32 [1, 2] t1 (by simp)).alloc _).alloc _
  have r2 : Rd (((w.alloc (.cells #[.int .i32 1, .int .i32 2] t1)).alloc (.cells #[.int .i32 3, .int .i32 4] t1)).alloc (.cells #[.slice (some ⟨w.heap.size, 0, none⟩) 2 2, .slice (some ⟨w.heap.size + 1, 0, none⟩) 2 2] t2)) .i32 (some ⟨w.heap.size + 1, 0, none⟩) [3, 4] := by
    have h := (Rd.new (w.alloc (.cells #[.int .i32 1, .int .i32 2] t1)) .i32 [3, 4] t1 (by simp)).alloc (.cells #[.slice (some ⟨w.heap.size, 0, none⟩) 2 2, .slice (some ⟨w.heap.size + 1, 0, none⟩) 2 2] t2)
    rw [World.size_alloc] at h
    exact h
  have hb := heap_alloc_new ((w.alloc (.cells #[.int .i32 1, .int .i32 2] t1)).alloc (.cells #[.int .i32 3, .int .i32 4] t1)) (.cells #[.slice (some ⟨w.heap.size, 0, none⟩) 2 2, .slice (some ⟨w.heap.size + 1, 0, none⟩) 2 2] t2)
  rw [World.size_alloc, World.size_alloc] at hb
  refine ⟨by simp, fun j hj => ?_⟩
  simp at hj
  rcases (by omega : j = 0 ∨ j = 1) with rfl | rfl
  · exact ⟨_, _, 2, rfl, by rw [add_plain]; exact cell_blk (cs := [_, _]) hb 0, by simp, r1⟩
  · exact ⟨_, _, 2, rfl, by rw [add_plain]; exact cell_blk (cs := [_, _]) hb 1, by simp, r2⟩
theorem chk_two : chkV 2 [[1, 2], [3, 4]] = 0 := by decide
end Go.Proofs.Ytohmcpblagcfeaa
