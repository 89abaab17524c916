/-
  What the statements of layer 6 (stream) share: the document's example answers true. No condition.
-/
import Derived.Test.YtmcbgogeemnjnaaStrm2
namespace Go.Proofs.Ytmcbgogeemnjnaa
open Go.RowKit
set_option linter.unusedVariables false
set_option linter.unusedSimpArgs false
theorem rd_u64_five (w : World) (a b c d e : Int) (t : TypeId) : Rd (w.alloc (.cells #[.int .u64 a, .int .u64 b, .int .u64 c, .int .u64 d, .int .u64 e] t)) .u64 (some ⟨w.heap.size, 0, none⟩) [a, b, c, d, e] := Rd.new w .u64 [a, b, c, d, e] t (by simp)
theorem awake6_calls (w : World) : Calls Try.prog 24 #[] w fun e w' => e = .returned (.bool true) ∧ Below w.heap.size w w' := by
  have hn2 := iface_nil2
  go_enter Try.func24, Try.ntmps24
  go_wp2_with fail
  refine (sOf_calls true 0 _ _ [1, 2, 3, 4, 5] 1 2 _ (rd_u64_five _ _ _ _ _ _ _) (by intro x hx; simp at hx; omega) (by simp) (by omega)).mono ?_
  rintro e w1 ⟨v, he, hs, hb, T, p, rfl⟩
  subst he
  have e0 : offT true 0 [1, 2, 3, 4, 5] 1 2 0 = 2 := by decide
  have e1 : offT true 0 [1, 2, 3, 4, 5] 1 2 1 = 4 := by decide
  have e2 : offT true 0 [1, 2, 3, 4, 5] 1 2 2 = 0 := by decide
  have hs0 := At.of_src (hs.wide (lo' := w.heap.size) (hi' := w1.heap.size) (by simp) (Nat.le_refl _))
  have hb1 : Below w.heap.size w w1 := (below_alloc1 (Below.refl _ _) _).trans (hb.mono (by simp))
  obtain ⟨T, a, h1, hT⟩ := hs.shape
  injection h1 with h1 h2
  subst h1 h2
  have hm := hT.meth a
  have hc := hT.call (.pointer (some a))
  have HS := Lib.hid hs0
  have hz1 := hb1.size
  have E0 := Lib.hid e0
  have E1 := Lib.hid e1
  have E2 := Lib.hid e2
  clear hs hb hs0 e0 e1 e2
  go_wp2_with fail
  refine (HS.out.draw_calls (by omega)).mono ?_
  rintro e w2 ⟨he, hs, ho2⟩
  rw [E0.out] at he
  subst he
  have HS2 := Lib.hid hs
  clear hs
  go_wp2_with fail
  refine (HS2.out.draw_calls (by omega)).mono ?_
  rintro e w3 ⟨he, hs, ho3⟩
  rw [E1.out] at he
  subst he
  have HS3 := Lib.hid hs
  clear hs
  go_wp2_with fail
  refine (HS3.out.draw_calls (by omega)).mono ?_
  rintro e w4 ⟨he, hs, ho4⟩
  rw [E2.out] at he
  subst he
  clear hs
  have hb4 : Below w.heap.size w w4 := hb1.trans (((ho2.trans ho3).trans ho4).below hz1 fun k hk h => by have := h.1; omega)
  clear ho2 ho3 ho4
  go_wp2_with fail
  go_ret
  exact ⟨rfl, hb4⟩
end Go.Proofs.Ytmcbgogeemnjnaa
