/-
  What the statements of layer 10 (data) share: the document's example answers true. No condition.
-/
import Derived.Test.YtgjcajffkhjlbaaData
namespace Go.Proofs.Ytgjcajffkhjlbaa
open Go.RowKit
set_option linter.unusedVariables false
set_option linter.unusedSimpArgs false

theorem rows_two (w : World) (t1 t2 : TypeId) : Rows (((w.alloc (.cells #[.int .i32 1, .int .i32 2] t1)).alloc (.cells #[.int .i32 3, .int .i32 4] t1)).alloc (.cells #[.slice (some ⟨w.heap.size, 0, none⟩) 2 2, .slice (some ⟨w.heap.size + 1, 0, none⟩) 2 2] t2)) .i32 (some ⟨w.heap.size + 2, 0, none⟩) [[1, 2], [3, 4]] := by
  have r1 : Rd (((w.alloc (.cells #[.int .i32 1, .int .i32 2] t1)).alloc (.cells #[.int .i32 3, .int .i32 4] t1)).alloc (.cells #[.slice (some ⟨w.heap.size, 0, none⟩) 2 2, .slice (some ⟨w.heap.size + 1, 0, none⟩) 2 2] t2)) .i32 (some ⟨w.heap.size, 0, none⟩) [1, 2] :=
    ((Rd.new w .i32 [1, 2] t1 (by simp)).alloc _).alloc _
  have r2 : Rd (((w.alloc (.cells #[.int .i32 1, .int .i32 2] t1)).alloc (.cells #[.int .i32 3, .int .i32 4] t1)).alloc (.cells #[.slice (some ⟨w.heap.size, 0, none⟩) 2 2, .slice (some ⟨w.heap.size + 1, 0, none⟩) 2 2] t2)) .i32 (some ⟨w.heap.size + 1, 0, none⟩) [3, 4] := by
    have h := (Rd.new (w.alloc (.cells #[.int .i32 1, .int .i32 2] t1)) .i32 [3, 4] t1 (by simp)).alloc (.cells #[.slice (some ⟨w.heap.size, 0, none⟩) 2 2, .slice (some ⟨w.heap.size + 1, 0, none⟩) 2 2] t2)
    rw [World.size_alloc] at h
    exact h
  have hb := heap_alloc_new ((w.alloc (.cells #[.int .i32 1, .int .i32 2] t1)).alloc (.cells #[.int .i32 3, .int .i32 4] t1)) (.cells #[.slice (some ⟨w.heap.size, 0, none⟩) 2 2, .slice (some ⟨w.heap.size + 1, 0, none⟩) 2 2] t2)
  rw [World.size_alloc, World.size_alloc] at hb
  refine ⟨by simp, fun j hj => ?_⟩
  simp at hj
  rcases (by omega : j = 0 ∨ j = 1) with rfl | rfl
  · exact ⟨_, _, 2, rfl, by rw [add_plain]; exact cell_blk (cs := [_, _]) hb 0, by simp, r1⟩
  · exact ⟨_, _, 2, rfl, by rw [add_plain]; exact cell_blk (cs := [_, _]) hb 1, by simp, r2⟩
theorem chk_two : chkV 2 [[1, 2], [3, 4]] = 0 := by decide
set_option maxHeartbeats 800000 in
theorem awake10_calls (w : World) : Calls Try.prog 43 #[] w fun e w' => e = .returned (.bool true) ∧ Below w.heap.size w w' := by
  go_enter Try.func43, Try.ntmps43
  go_wp2_with fail
  refine (Of_calls 2 _ 2 [[1, 2], [3, 4]] _ (rows_two w _ _) (by simp)).mono ?_
  rintro e w1 ⟨v, f, he, hf, _, hgood, hb⟩
  rw [chk_two] at hf
  subst hf
  obtain ⟨b, rfl, hlo, hit⟩ := hgood rfl
  subst he
  have hb1 : Below w.heap.size w w1 := (below_alloc1 (below_alloc1 (below_alloc1 (Below.refl _ _) _) _) _).trans (hb.mono (by simp; omega))
  have hz1 := hb1.size
  have HI := Lib.hid (show It w1 b 2 [[1, 2], [3, 4]] from hit)
  clear hgood hb hit hlo
  go_wp2_with fail
  refine (At_calls b 2 [[1, 2], [3, 4]] 1 _ HI.out (by decide)).mono ?_
  rintro e w2 ⟨v, he, ho, hb2⟩
  subst he
  have hb3 : Below w.heap.size w w2 := hb1.trans (hb2.mono hz1)
  have HI2 := Lib.hid (HI.out.below hb2)
  obtain ⟨A1, c1, rfl, hc1, _⟩ := ho.shape
  obtain ⟨g, rfl, _, _, hcell, _⟩ := ho.at_ 0 (by decide)
  have hcell' : w2.cell? ⟨g, 0, none⟩ = some (.int .i32 3) := hcell
  have hz2 := hb3.size
  clear ho hcell hb2 hc1
  go_wp2_with fail
  refine (Len_calls b 2 _ _ HI2.out).mono ?_
  rintro e w3 ⟨he, m, rfl⟩
  subst he
  have hcell2 : (w2.drewN m).cell? ⟨g, 0, none⟩ = some (.int .i32 3) := hcell'
  go_wp2_with fail
  refine (Dim_calls b 2 _ _ (HI2.out.drewN m)).mono ?_
  rintro e _ ⟨he, rfl⟩
  subst he
  go_wp2_with fail
  go_ret
  exact ⟨rfl, below_drewN hb3 m⟩
end Go.Proofs.Ytgjcajffkhjlbaa
