
/-
  A row of the call's own of pairs reads as pairs; the beginning of pairs. No condition.
-/
import Derived.Test.YtacgkoclammggaaTwo
import Derived.Test.YtacgkoclammggaaPairs
namespace Go.Proofs.Ytacgkoclammggaa
open Go.RowKit
set_option linter.unusedVariables false
set_option maxRecDepth 100000
theorem OwnF.rdp {w : World} {base : Nat} {e : TypeId} {A : Option Addr} {n c : Nat} {xs : List (Int × Int)} {f : Int × Int → List Value} (h : OwnF w base e 2 f (.slice A n c) xs) (hf : f = fun p => [.int .i64 p.1, .int .i64 p.2]) : RdP w .i64 .i64 A xs := by
  have hq : ∀ x, (f x).length = 2 := fun x => by rw [hf]; rfl
  have hn : n = xs.length := by
    obtain ⟨A1, c1, he, _⟩ := h.shape
    injection he
  have hb : xs.length ≤ 9223372036854775807 := by
    rcases h.2 with ⟨_, h0⟩ | ⟨g, cap, cur, h1, _, _, h2, h3, _⟩
    · omega
    · have : maxLen = 9223372036854775807 := rfl
      omega
  refine ⟨hb, fun j hj => ?_⟩
  obtain ⟨g, x, rfl, _, _, hx, hc, _, _⟩ := h.at_ hq j (by omega) (by omega)
  have hxg : xs.getD j (0, 0) = x := by simp [List.getD, hx]
  have h0 := hc 0 (by omega)
  have h1 := hc 1 (by omega)
  rw [hf] at h0 h1
  refine ⟨_, rfl, ?_, ?_⟩
  · rw [add_plain, hxg]; exact h0
  · rw [add_plain, hxg]; exact h1
theorem RdP.take {w : World} {k0 k1 : IntKind} {A : Option Addr} {xs : List (Int × Int)} (h : RdP w k0 k1 A xs) (k : Nat) : RdP w k0 k1 A (xs.take k) := by
  refine ⟨by have := h.1; simp; omega, fun j hj => ?_⟩
  rw [List.length_take] at hj
  have hj1 : j < k := by omega
  have e : (xs.take k).getD j (0, 0) = xs.getD j (0, 0) := by simp [List.getD, List.getElem?_take_of_lt hj1]
  rw [e]
  exact h.2 j (by omega)
end Go.Proofs.Ytacgkoclammggaa
