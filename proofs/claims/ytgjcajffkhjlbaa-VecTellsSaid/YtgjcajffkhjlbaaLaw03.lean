/-
  What the statements of layer 3 (vec) share: the document's example answers true, and the bound on lengths is told. No condition beyond what each lemma names.
-/
import Derived.Test.YtgjcajffkhjlbaaVec
namespace Go.Proofs.Ytgjcajffkhjlbaa
open Go.RowKit
set_option linter.unusedVariables false
set_option linter.unusedSimpArgs false

theorem Dot_eg (A B : Option Addr) (c d : Nat) (w : World) (ha : Rd w .i32 A [1, 2]) (hb : Rd w .i32 B [3, 4]) :
    Calls Try.prog 23 #[.slice A 2 c, .slice B 2 d] w fun e w' => e = .returned (.int .i64 11) ∧ Below w.heap.size w w' :=
  (Dot_b A B c d [1, 2] [3, 4] w ha hb (by intro x hx; simp at hx; omega) (by intro x hx; simp at hx; omega)).mono fun e w' ⟨h1, h2⟩ => ⟨h1.trans (ret_int (by simp [dot, dotN, sumTo, wrap64])), h2⟩
theorem Far_eg (A B : Option Addr) (c d : Nat) (w : World) (ha : Rd w .i32 A [1, 2]) (hb : Rd w .i32 B [3, 4]) :
    Calls Try.prog 24 #[.slice A 2 c, .slice B 2 d] w fun e w' => e = .returned (.int .i64 8) ∧ Below w.heap.size w w' :=
  (Far_b A B c d [1, 2] [3, 4] w ha hb (by intro x hx; simp at hx; omega) (by intro x hx; simp at hx; omega)).mono fun e w' ⟨h1, h2⟩ => ⟨h1.trans (ret_int (by simp [far, farN, sumTo, wrap64])), h2⟩

theorem rd_pair (w : World) (a b : Int) (t : TypeId) (o : Obj) : Rd ((w.alloc (.cells #[.int .i32 a, .int .i32 b] t)).alloc o) .i32 (some ⟨w.heap.size, 0, none⟩) [a, b] := (Rd.new w .i32 [a, b] t (by simp)).alloc o
theorem rd_pair2 (w : World) (a b : Int) (t : TypeId) (o : Obj) : Rd ((w.alloc o).alloc (.cells #[.int .i32 a, .int .i32 b] t)) .i32 (some ⟨w.heap.size + 1, 0, none⟩) [a, b] := by
  have h := Rd.new (w.alloc o) .i32 [a, b] t (by simp)
  rw [World.size_alloc] at h
  exact h

theorem awake_calls (w : World) : Calls Try.prog 18 #[] w fun e w' => e = .returned (.bool true) ∧ Below w.heap.size w w' := by
  go_enter Try.func18, Try.ntmps18
  go_wp2_with fail
  refine (Dot_eg _ _ _ _ _ (rd_pair _ _ _ _ _) (rd_pair2 _ _ _ _ _)).mono ?_
  rintro e w1 ⟨rfl, hb⟩
  have hb1 : Below w.heap.size w w1 := (((Below.refl _ _).alloc (Nat.le_refl _) _).alloc (by simp) _).trans (hb.mono (by simp; omega))
  clear hb
  go_wp2_with fail
  refine (Far_eg _ _ _ _ _ (rd_pair _ _ _ _ _) (rd_pair2 _ _ _ _ _)).mono ?_
  rintro e w2 ⟨rfl, hb⟩
  have hz1 := hb1.size
  have hb2 : Below w.heap.size w w2 := ((hb1.alloc hz1 _).alloc (by simp; omega) _).trans (hb.mono (by simp; omega))
  clear hb
  go_wp2
  go_ret
  exact ⟨rfl, hb2⟩

theorem few_calls (A B : Option Addr) (n m c d : Nat) (w : World) : Calls Try.prog 19 #[.slice A n c, .slice B m d] w fun e w' => e = .returned (.bool (decide (n ≤ 1100 ∧ m ≤ 1100))) ∧ w = w' := by
  by_cases h1 : n ≤ 1100
  · have h1' : decide ((n : Int) ≤ 1100) = true := by simp; omega
    by_cases h2 : m ≤ 1100
    · have h2' : decide ((m : Int) ≤ 1100) = true := by simp; omega
      rw [decide_eq_true ⟨h1, h2⟩]
      go_enter Try.func19, Try.ntmps19
      go_wp2
      go_ret
      exact ⟨rfl, rfl⟩
    · have h2' : decide ((m : Int) ≤ 1100) = false := by simp; omega
      rw [decide_eq_false (fun h => h2 h.2)]
      go_enter Try.func19, Try.ntmps19
      go_wp2
      go_ret
      exact ⟨rfl, rfl⟩
  · have h1' : decide ((n : Int) ≤ 1100) = false := by simp; omega
    rw [decide_eq_false (fun h => h1 h.1)]
    go_enter Try.func19, Try.ntmps19
    go_wp2
    go_ret
    exact ⟨rfl, rfl⟩

end Go.Proofs.Ytgjcajffkhjlbaa
