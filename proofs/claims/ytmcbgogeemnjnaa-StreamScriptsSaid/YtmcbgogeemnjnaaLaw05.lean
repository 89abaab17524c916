/-
  What the statements of layer 5 (rng) share: the document's example answers true, and the source that they draw of. Condition: the list reads as numbers of 64 bits.
-/
import Derived.Test.YtmcbgogeemnjnaaRef05
namespace Go.Proofs.Ytmcbgogeemnjnaa
open Go.RowKit
set_option linter.unusedVariables false
set_option linter.unusedSimpArgs false

theorem u64_of_wf {xs : List Int} (h : ∀ n ∈ xs, (Lit.int .u64 n).wf = true) : U64 xs := fun x hx => by
  have := h x hx
  simp [Lit.wf, IntKind.min, IntKind.max, IntKind.signed, IntKind.bits] at this
  omega
theorem u64w_of_wf {n : Int} (h : (Lit.int .u64 n).wf = true) : 0 ≤ n ∧ n ≤ 18446744073709551615 := by
  simp [Lit.wf, IntKind.min, IntKind.max, IntKind.signed, IntKind.bits] at h
  omega
theorem iface_nil (T : TypeId) (p : Value) (w : World) : (binOp .eql 28 (.iface T p) .nilIface).run Try.prog w = .ok (.bool false) w := by
  kernel_rfl
theorem iface_nil2 (T : TypeId) (p : Value) (w : World) : (binOp .neq 28 (.iface T p) .nilIface).run Try.prog w = .ok (.bool true) w := by
  kernel_rfl
/-- what 'of' draws of. -/
def ofS (mixed : Bool) (st : Int) (l : List Int) (i : Nat) : Int := refS mixed st l i
theorem of_calls (mixed : Bool) (st : Int) (A : Option Addr) (c : Nat) (l : List Int) (w : World) (ha : Rd w .u64 A l) (hu : U64 l) (hs : l.length ≤ 17592186044416) :
    Calls Try.prog 14 #[.bool mixed, .int .u64 st, .slice A l.length c] w fun e w' => ∃ v, e = .returned v ∧ Src w' w.heap.size w'.heap.size v (ofS mixed st l) ∧ Below w.heap.size w w' ∧ ∃ T p, v = .iface T p := by
  cases mixed with
  | true =>
    have hm := Lib.hid (Mix_calls st w)
    go_enter Try.func14, Try.ntmps14
    go_wp2_with fail
    refine hm.out.mono ?_
    rintro e w' ⟨v, rfl, h1, h2, T, p, rfl⟩
    have H1 := Lib.hid h1
    clear h1
    go_wp2_with fail
    go_ret
    exact ⟨_, rfl, H1.out, h2, _, _, rfl⟩
  | false =>
    have hm := Lib.hid (Script_calls A c l w ha hu hs)
    clear ha
    go_enter Try.func14, Try.ntmps14
    go_wp2_with fail
    refine hm.out.mono ?_
    rintro e w' ⟨v, rfl, h1, h2, T, p, rfl⟩
    have H1 := Lib.hid h1
    clear h1
    go_wp2_with fail
    go_ret
    exact ⟨_, rfl, H1.out, h2, _, _, rfl⟩

theorem mix_zero : mixAt 0 1 = 16294208416658607535 := by
  kernel_rfl
theorem rd_u64_pair (w : World) (a b : Int) (t : TypeId) : Rd (w.alloc (.cells #[.int .u64 a, .int .u64 b] t)) .u64 (some ⟨w.heap.size, 0, none⟩) [a, b] := Rd.new w .u64 [a, b] t (by simp)
theorem awake_calls (w : World) : Calls Try.prog 12 #[] w fun e w' => e = .returned (.bool true) ∧ Below w.heap.size w w' := by
  have hn := iface_nil
  go_enter Try.func12, Try.ntmps12
  go_wp2_with fail
  refine (Script_calls _ _ [7, 9] _ (rd_u64_pair _ _ _ _) (by intro x hx; simp at hx; omega) (by simp)).mono ?_
  rintro e w1 ⟨v, he, hs, hb, T, p, rfl⟩
  subst he
  have hb1 : Below w.heap.size w w1 := (below_alloc1 (Below.refl _ _) _).trans (hb.mono (by simp))
  have hz : w.heap.size ≤ (w.alloc (.cells #[.int .u64 7, .int .u64 9] 22)).heap.size := by simp
  obtain ⟨lo, hlo⟩ : ∃ lo, (w.alloc (.cells #[.int .u64 7, .int .u64 9] 22)).heap.size = lo := ⟨_, rfl⟩
  rw [hlo] at hs hz hb
  clear hlo
  obtain ⟨T, a, h1, hT⟩ := hs.shape
  injection h1 with h1 h2
  subst h1 h2
  have hm := hT.meth a
  have hc := hT.call (.pointer (some a))
  have HS := Lib.hid hs
  have hz1 := hb1.size
  clear hs hb
  go_wp2_with fail
  refine HS.out.draw.mono ?_
  rintro e w2 ⟨he, hs, ho2⟩
  subst he
  have HS2 := Lib.hid hs
  clear hs
  go_wp2_with fail
  refine HS2.out.draw.mono ?_
  rintro e w3 ⟨he, hs, ho3⟩
  subst he
  have HS3 := Lib.hid hs
  clear hs
  go_wp2_with fail
  refine HS3.out.draw.mono ?_
  rintro e w4 ⟨he, hs, ho4⟩
  subst he
  clear hs
  have hb4 : Below w.heap.size w w4 := hb1.trans (((ho2.trans ho3).trans ho4).below hz1 fun k hk h => by have := h.1; omega)
  clear ho2 ho3 ho4
  go_wp2_with fail
  refine (Mix_calls 0 _).mono ?_
  rintro e w5 ⟨v, he, hs, hb5, T', p', rfl⟩
  subst he
  have hb6 : Below w.heap.size w w5 := hb4.trans (hb5.mono hb4.size)
  obtain ⟨T', a', h1, hT'⟩ := hs.shape
  injection h1 with h1 h2
  subst h1 h2
  have hm' := hT'.meth a'
  have hc' := hT'.call (.pointer (some a'))
  have HS5 := Lib.hid hs
  have hn2 := iface_nil2
  have hz4 := hb4.size
  clear hs hb5
  go_wp2_with fail
  refine HS5.out.draw.mono ?_
  rintro e w6 ⟨he, hs, ho6⟩
  subst he
  clear hs
  have hmz : mixAt 0 (0 + 1) = 16294208416658607535 := mix_zero
  have hb7 : Below w.heap.size w w6 := hb6.trans (ho6.below hb6.size fun k hk h => by have := h.1; omega)
  go_wp2_with fail
  go_ret
  exact ⟨rfl, hb7⟩
end Go.Proofs.Ytmcbgogeemnjnaa
