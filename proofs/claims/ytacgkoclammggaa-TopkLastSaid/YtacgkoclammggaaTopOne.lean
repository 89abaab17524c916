
/-
  A selector's last one, whether there is one or not (results). Condition: the selector's blocks are as the word SelE says.
-/
import Derived.Test.YtacgkoclammggaaSelE
namespace Go.Proofs.Ytacgkoclammggaa
open Go.RowKit
set_option linter.unusedVariables false
set_option maxRecDepth 100000

/-- The one on top, and whether there is one. -/
def lastP : List (Int × Int × Int) → Int × Int
  | [] => (0, 0)
  | z :: _ => (z.1, z.2.1)
def isP : List (Int × Int × Int) → Bool
  | [] => false
  | _ :: _ => true
theorem SLastE_calls (s : Sl) (most nx : Int) (L : List (Int × Int × Int)) (w : World) (h : SelE w s most nx L) :
    Calls Try.prog 56 #[.pointer (some ⟨s.bs, 0, none⟩)] w fun e w' => e = .returned (.tuple #[.agg #[.int .i64 (lastP L).1, .int .i64 (lastP L).2], .bool (isP L)]) ∧ Below w.heap.size w w' := by
  cases L with
  | nil => exact SLastE_none s most nx w h
  | cons z r =>
    obtain ⟨z0, z1, z2⟩ := z
    exact SLastE_some s most nx z0 z1 z2 r w h
end Go.Proofs.Ytacgkoclammggaa
