
/-
  What the statements of layer 5 (rng) share: the document's example answers true, and the source that they draw of. Condition: the list reads as numbers of 64 bits.
-/
import Derived.Test.YtohmcpblagcfeaaRef05
namespace Go.Proofs.Ytohmcpblagcfeaa
open Go.RowKit
set_option linter.unusedVariables false
set_option maxRecDepth 100000
set_option linter.unusedSimpArgs false

theorem u64_of_wf {xs : List Int} (h : ∀ n ∈ xs, (Lit.int .u64 n).wf = true) : U64 xs := fun x hx => by
  have := h x hx
  simp [Lit.wf, IntKind.min, IntKind.max, IntKind.signed, IntKind.bits] at this
  omega
theorem u64w_of_wf {n : Int} (h : (Lit.int .u64 n).wf = true) : 0 ≤ n ∧ n ≤ 18446744073709551615 := by
  simp [Lit.wf, IntKind.min, IntKind.max, IntKind.signed, IntKind.bits] at h
  omega
theorem iface_nil (T : TypeId) (p : Value) (w : World) : (binOp .eql 45 (.iface T p) .nilIface).run Try.prog w = .ok (.bool false) w := by
  kernel_rfl
theorem iface_nil2 (T : TypeId) (p : Value) (w : World) : (binOp .neq 45 (.iface T p) .nilIface).run Try.prog w = .ok (.bool true) w := by
  kernel_rfl
/-- what 'of' draws of. -/
def ofS (mixed : Bool) (st : Int) (l : List Int) (i : Nat) : Int := refS mixed st l i
theorem mix_zero : mixAt 0 1 = 16294208416658607535 := by
  kernel_rfl
theorem rd_u64_pair (w : World) (a b : Int) (t : TypeId) : Rd (w.alloc (.cells #[.int .u64 a, .int .u64 b] t)) .u64 (some ⟨w.heap.size, 0, none⟩) [a, b] := Rd.new w .u64 [a, b] t (by simp)
end Go.Proofs.Ytohmcpblagcfeaa
