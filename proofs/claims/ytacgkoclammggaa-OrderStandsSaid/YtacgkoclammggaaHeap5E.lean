
/-
  The heap of a selector's entries: New, of none.
-/
import Derived.Test.YtacgkoclammggaaHeap4E
namespace Go.Proofs.Ytacgkoclammggaa
open Go.RowKit
set_option linter.unusedVariables false
set_option maxRecDepth 100000
set_option linter.unusedSimpArgs false

set_option maxHeartbeats 3200000 in
theorem NewE_calls (bx : Nat) (w : World) :
    Calls Try.prog 82 #[.func (.func 83) #[] #[.pointer (some ⟨bx, 0, none⟩)], .slice none 0 0] w fun e w' => ∃ b, e = .returned (.pointer (some ⟨b, 0, none⟩)) ∧ w.heap.size ≤ b ∧ HpE bx w' b b (.slice none 0 0) [] ∧ Below w.heap.size w w' := by
  go_enter Try.func82, Try.ntmps82
  go_wp2_with fail
  obtain ⟨w1, hw⟩ : ∃ W, w.alloc (.cells #[.func (.func 83) #[] #[.pointer (some ⟨bx, 0, none⟩)], .slice none 0 0] 161) = W := ⟨_, rfl⟩
  rw [hw]
  have hH : HpE bx w1 w.heap.size w.heap.size (.slice none 0 0) [] := by
    refine ⟨by rw [← hw]; exact heap_alloc_new w _, OwnF.nil _ _ _, Nat.le_refl _, fun k hk => by simp [Value.ownBlock] at hk⟩
  have hb1 : Below w.heap.size w w1 := by rw [← hw]; exact below_alloc1 (Below.refl _ _) _
  have HH := Lib.hid hH
  clear hw hH
  go_loopg [13] 0 (fun kq v13 w' => kq = 0 ∧ v13 = .int .i64 0 ∧ w' = w1)
  case atStart => exact ⟨rfl, rfl, rfl⟩
  case round =>
    obtain ⟨rfl, rfl, rfl⟩ := hrel
    go_wp2_with fail
    go_ret
    exact ⟨_, rfl, Nat.le_refl _, HH.out, hb1⟩
end Go.Proofs.Ytacgkoclammggaa
