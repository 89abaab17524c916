
/-
  What the statements of layer 4 (order) share: the document's example. No condition.
-/
import Derived.Test.YtacgkoclammggaaOrder1
namespace Go.Proofs.Ytacgkoclammggaa
open Go.RowKit
set_option linter.unusedVariables false
set_option maxRecDepth 100000
set_option linter.unusedSimpArgs false

def lessB (a0 a1 b0 b1 : Int) : Bool := decide (a0 < b0)
theorem PLess_calls (a0 a1 b0 b1 : Int) (w : World) : Calls Try.prog 48 #[.agg #[.int .i64 a0, .int .i64 a1], .agg #[.int .i64 b0, .int .i64 b1]] w fun e w' => e = .returned (.bool (lessB a0 a1 b0 b1)) ∧ Below w.heap.size w w' := by
  go_enter Try.func48, Try.ntmps48
  go_wp2_with fail
  go_ret
  exact ⟨rfl, below_alloc1 (below_alloc1 (Below.refl _ _) _) _⟩
set_option maxHeartbeats 3200000 in
theorem CompareP_calls (a0 a1 b0 b1 : Int) (w : World) : Calls Try.prog 70 #[.func (.func 48) #[] #[], .agg #[.int .i64 a0, .int .i64 a1], .agg #[.int .i64 b0, .int .i64 b1]] w fun e w' => e = .returned (.int .i64 (if lessB a0 a1 b0 b1 then -1 else if lessB b0 b1 a0 a1 then 1 else 0)) ∧ Below w.heap.size w w' := by
  obtain ⟨x, hx⟩ : ∃ x, lessB a0 a1 b0 b1 = x := ⟨_, rfl⟩
  obtain ⟨y, hy⟩ : ∃ y, lessB b0 b1 a0 a1 = y := ⟨_, rfl⟩
  rw [hx, hy]
  have HX := Lib.hid hx
  have HY := Lib.hid hy
  clear hx hy
  go_enter Try.func70, Try.ntmps70
  go_wp2_with fail
  obtain ⟨w2, hw⟩ : ∃ W, (w.alloc (.cells #[.int .i64 a0, .int .i64 a1] 80)).alloc (.cells #[.int .i64 b0, .int .i64 b1] 80) = W := ⟨_, rfl⟩
  rw [hw]
  have hb1 : Below w.heap.size w w2 := by rw [← hw]; exact below_alloc1 (below_alloc1 (Below.refl _ _) _) _
  have ba : w2.heap[w.heap.size]? = some (.cells #[.int .i64 a0, .int .i64 a1] 80 (0, 0)) := by rw [← hw]; exact obj_below ((Below.refl _ _).alloc (Nat.le_refl _) _) (heap_alloc_new w _) (obj_lt (heap_alloc_new w _))
  have bb : w2.heap[w.heap.size + 1]? = some (.cells #[.int .i64 b0, .int .i64 b1] 80 (0, 0)) := by rw [← hw]; have h := heap_alloc_new (w.alloc (.cells #[.int .i64 a0, .int .i64 a1] 80)) (.cells #[.int .i64 b0, .int .i64 b1] 80); rwa [World.size_alloc] at h
  clear hw
  refine (PLess_calls a0 a1 b0 b1 _).mono ?_
  rintro e w3 ⟨he, hbn⟩
  rw [HX.out] at he
  subst he
  have hb3 := hb1.trans (hbn.mono hb1.size)
  have ba3 := obj_below hbn ba (obj_lt ba)
  have bb3 := obj_below hbn bb (obj_lt bb)
  have h0 : w3.cell? ⟨w.heap.size, 0, none⟩ = some (.int .i64 a0) := by simp [World.cell?, ba3]
  have h1 : w3.cell? ⟨w.heap.size, 1, none⟩ = some (.int .i64 a1) := by simp [World.cell?, ba3]
  have h2 : w3.cell? ⟨w.heap.size + 1, 0, none⟩ = some (.int .i64 b0) := by simp [World.cell?, bb3]
  have h3 : w3.cell? ⟨w.heap.size + 1, 1, none⟩ = some (.int .i64 b1) := by simp [World.cell?, bb3]
  have hz3 := hb3.size
  clear hbn ba bb ba3 bb3 hb1
  cases x with
  | true =>
    go_wp2_with fail
    go_ret
    exact ⟨rfl, hb3⟩
  | false =>
    go_wp2_with fail
    refine (PLess_calls b0 b1 a0 a1 _).mono ?_
    rintro e w4 ⟨he, hbn⟩
    rw [HY.out] at he
    subst he
    have hb4 := hb3.trans (hbn.mono hz3)
    clear hbn
    cases y with
    | true =>
      go_wp2_with fail
      go_ret
      exact ⟨rfl, hb4⟩
    | false =>
      go_wp2_with fail
      go_ret
      exact ⟨rfl, hb4⟩
theorem by_calls (v : Value) (w : World) : Calls Try.prog 105 #[.func (.func 48) #[] #[]] w fun e w' => ∃ v, e = .returned v ∧ (∃ f bs, v = .func (.func f) #[] bs) ∧ Below w.heap.size w w' := by
  go_enter Try.func105, Try.ntmps105
  go_wp2_with fail
  go_ret
  exact ⟨_, rfl, ⟨_, _, rfl⟩, below_alloc1 (Below.refl _ _) _⟩
theorem SortedNil_calls (f : FuncId) (bs : Array Value) (w : World) : Calls Try.prog 106 #[.slice none 0 0, .func (.func f) #[] bs] w fun e w' => e = .returned (.bool true) ∧ Below w.heap.size w w' := by
  have hw : IntKind.i64.wrap (-1) = -1 := by decide
  go_enter Try.func106, Try.ntmps106
  go_wp2_with fail
  go_loopg [5] 0 (fun kq v5 w' => v5 = .int .i64 (-1) ∧ w' = w)
  case atStart => exact ⟨rfl, rfl⟩
  case round =>
    obtain ⟨rfl, rfl⟩ := hrel
    go_wp2_with fail
    go_ret
    exact ⟨rfl, Below.refl _ _⟩
theorem SortedP_calls (w : World) : Calls Try.prog 63 #[.func (.func 48) #[] #[], .slice none 0 0] w fun e w' => e = .returned (.bool true) ∧ Below w.heap.size w w' := by
  go_enter Try.func63, Try.ntmps63
  go_wp2_with fail
  refine (by_calls (.bool true) _).mono ?_
  rintro e w1 ⟨v, he, ⟨f, bs, rfl⟩, hb1⟩
  subst he
  go_wp2_with fail
  refine (SortedNil_calls f bs _).mono ?_
  rintro e w2 ⟨he, hb2⟩
  subst he
  go_wp2_with fail
  go_ret
  exact ⟨rfl, hb1.trans (hb2.mono hb1.size)⟩
theorem awake4_calls (w : World) : Calls Try.prog 27 #[] w fun e w' => e = .returned (.bool true) ∧ Below w.heap.size w w' := by
  have e1 := Lib.hid (show nearB 1 5 2 5 = true by decide)
  have e2 := Lib.hid (show aheadB 7 3 6 0 = true by decide)
  have e3 := Lib.hid (show (if lessB 1 0 2 0 then -1 else if lessB 2 0 1 0 then 1 else 0 : Int) = -1 by decide)
  go_enter Try.func27, Try.ntmps27
  go_wp2_with fail
  refine (Nearer_calls 1 5 2 5 _).mono ?_
  rintro e w1 ⟨he, hb1⟩
  rw [e1.out] at he
  subst he
  go_wp2_with fail
  refine (Ahead_calls 7 3 6 0 _).mono ?_
  rintro e w2 ⟨he, hbn⟩
  rw [e2.out] at he
  subst he
  have hb2 := hb1.trans (hbn.mono hb1.size)
  clear hbn
  go_wp2_with fail
  refine (CompareP_calls 1 0 2 0 _).mono ?_
  rintro e w3 ⟨he, hbn⟩
  rw [e3.out] at he
  subst he
  have hb3 := hb2.trans (hbn.mono hb2.size)
  clear hbn
  go_wp2_with fail
  refine (SortedP_calls _).mono ?_
  rintro e w4 ⟨he, hbn⟩
  subst he
  have hb4 := hb3.trans (hbn.mono hb3.size)
  go_wp2_with fail
  go_ret
  exact ⟨rfl, hb4⟩
end Go.Proofs.Ytacgkoclammggaa
