/-
  What the statements of layer 11 (plane) share: the document's example answers true. No condition.
-/
import Derived.Test.YtgjcajffkhjlbaaPlane
namespace Go.Proofs.Ytgjcajffkhjlbaa
open Go.RowKit
set_option linter.unusedVariables false
set_option linter.unusedSimpArgs false

theorem r32_lit (a b : Int) (ha : -10 ≤ a ∧ a ≤ 10) (hb : -10 ≤ b ∧ b ≤ 10) : R32 [a, b] := by intro x hx; simp at hx; omega
theorem Between_eg (A B : Option Addr) (c d : Nat) (w : World) (ha : Rd w .i32 A [3, 0]) (hb : Rd w .i32 B [1, 0]) :
    Calls Try.prog 27 #[.slice A 2 c, .slice B 2 d] w fun e w' => ∃ v, e = .returned (.agg #[v, .int .i64 8]) ∧ Own w' w.heap.size 21 .i32 v [2, 0] ∧ Below w.heap.size w w' := by
  have h := Between_calls A B c d [3, 0] [1, 0] w ha hb (r32_lit _ _ (by omega) (by omega)) (r32_lit _ _ (by omega) (by omega)) (by simp)
  have e1 : less [3, 0] [1, 0] = [2, 0] := by simp [less, lessN, List.range_succ, wrap32]
  have e2 : betweenOff [3, 0] [1, 0] = 8 := by simp [betweenOff, e1, dot, dotN, sumTo, wrap64]
  rw [e1, e2] at h
  exact h
theorem Margin_eg (A B : Option Addr) (c d : Nat) (x r : Int) (w : World) (ha : Rd w .i32 A [2, 0]) (hb : Rd w .i32 B [x, 0]) (hx : -10 ≤ x ∧ x ≤ 10) (hr : r = 4 * x - 8) :
    Calls Try.prog 28 #[.agg #[.slice A 2 c, .int .i64 8], .slice B 2 d] w fun e w' => e = .returned (.int .i64 r) ∧ Below w.heap.size w w' := by
  have h := Margin_calls A B c d [2, 0] [x, 0] 8 w ha hb (r32_lit _ _ (by omega) (by omega)) (r32_lit _ _ hx (by omega))
  have e1 : margin [2, 0] 8 [x, 0] = r := by simp [margin, dot, dotN, sumTo, wrap64]; omega
  rw [e1] at h
  exact h
theorem rd_pair (w : World) (a b : Int) (t : TypeId) (o : Obj) : Rd ((w.alloc (.cells #[.int .i32 a, .int .i32 b] t)).alloc o) .i32 (some ⟨w.heap.size, 0, none⟩) [a, b] := (Rd.new w .i32 [a, b] t (by simp)).alloc o
theorem rd_pair1 (w : World) (a b : Int) (t : TypeId) : Rd (w.alloc (.cells #[.int .i32 a, .int .i32 b] t)) .i32 (some ⟨w.heap.size, 0, none⟩) [a, b] := Rd.new w .i32 [a, b] t (by simp)
theorem rd_pair2 (w : World) (a b : Int) (t : TypeId) (o : Obj) : Rd ((w.alloc o).alloc (.cells #[.int .i32 a, .int .i32 b] t)) .i32 (some ⟨w.heap.size + 1, 0, none⟩) [a, b] := by
  have h := Rd.new (w.alloc o) .i32 [a, b] t (by simp)
  rw [World.size_alloc] at h
  exact h

theorem awake_calls (w : World) : Calls Try.prog 26 #[] w fun e w' => e = .returned (.bool true) ∧ Below w.heap.size w w' := by
  go_enter Try.func26, Try.ntmps26
  go_wp2_with fail
  refine (Between_eg _ _ _ _ _ (rd_pair _ _ _ _ _) (rd_pair2 _ _ _ _ _)).mono ?_
  rintro e w1 ⟨v, he, ho, hb⟩
  subst he
  have hb1 : Below w.heap.size w w1 := (((Below.refl _ _).alloc (Nat.le_refl _) _).alloc (by simp) _).trans (hb.mono (by simp; omega))
  obtain ⟨A, c, rfl, hc, hR⟩ := ho.shape
  obtain ⟨g, rfl, _, hg, hcell, _⟩ := ho.at_ 0 (by simp)
  simp at hcell
  have KR := Lib.hid hR
  clear hb hR ho
  go_wp2_with fail
  refine (Margin_eg _ _ _ _ 3 4 _ ((KR.out.alloc _).alloc _) (rd_pair2 _ _ _ _ _) (by omega) (by omega)).mono ?_
  rintro e w2 ⟨he, hb⟩
  subst he
  have hblk := obj_below hb (obj_below ((Below.refl _ _).alloc (Nat.le_refl _) _) (heap_alloc_new w1 (.cells #[.slice (some ⟨g, 0, none⟩) 2 c, .int .i64 8] 30)) (by simp)) (by simp; omega)
  have hk1 : Below w1.heap.size w1 w2 := (below_alloc1 (below_alloc1 (Below.refl _ _) _) _).trans (hb.mono (by simp; omega))
  have hc0 : w2.cell? ⟨w1.heap.size, 0, none⟩ = some (.slice (some ⟨g, 0, none⟩) 2 c) := by simp [World.cell?, hblk]
  have hc1 : w2.cell? ⟨w1.heap.size, 1, none⟩ = some (.int .i64 8) := by simp [World.cell?, hblk]
  clear hblk hb
  go_wp2_with fail
  refine (Margin_eg _ _ _ _ 1 (-4) _ ((KR.out.below hk1).alloc _) (rd_pair1 _ _ _ _) (by omega) (by omega)).mono ?_
  rintro e w3 ⟨he, hb⟩
  subst he
  have hz := hk1.size
  have hz1 := hb1.size
  go_wp2
  go_ret
  exact ⟨rfl, (below_alloc1 (hb1.trans (hk1.mono hz1)) _).trans (hb.mono (by simp; omega))⟩
end Go.Proofs.Ytgjcajffkhjlbaa
