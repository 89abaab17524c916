
/-
  Entries of a selector (topk, over api.Result): what comes ahead of what; the selector's ahead, and the closure that its heap compares by. Conditions: the selector's cells are as the theorems' heads say.
-/
import Derived.Test.YtacgkoclammggaaHeapMath
import Derived.Test.YtacgkoclammggaaOrder1
import Derived.BigRegion
import Derived.Deep.RegionHeld3
namespace Go.Proofs.Ytacgkoclammggaa
open Go.RowKit
set_option linter.unusedVariables false
set_option maxRecDepth 100000
set_option linter.unusedSimpArgs false

theorem firstE_iff (a0 a1 b0 b1 : Int) : nearB a0 a1 b0 b1 = true ↔ a1 < b1 ∨ (a1 = b1 ∧ a0 < b0) := by
  unfold nearB orV cmpV
  rw [decide_eq_true_iff]
  repeat' split
  all_goals omega
theorem firstE_no (a0 a1 b0 b1 : Int) : nearB a0 a1 b0 b1 = false ↔ ¬ (a1 < b1 ∨ (a1 = b1 ∧ a0 < b0)) := by rw [← firstE_iff, Bool.not_eq_true]
/-- Is the first entry ahead? -/
def aheadE (a b : Int × Int × Int) : Bool := nearB a.1 a.2.1 b.1 b.2.1 || (!nearB b.1 b.2.1 a.1 a.2.1 && decide (a.2.2 < b.2.2))
/-- What the heap goes by: the last one is on top. -/
def ltE (a b : Int × Int × Int) : Bool := aheadE b a
theorem ltE_iff (a b : Int × Int × Int) : ltE a b = true ↔ b.2.1 < a.2.1 ∨ (b.2.1 = a.2.1 ∧ (b.1 < a.1 ∨ (b.1 = a.1 ∧ b.2.2 < a.2.2))) := by
  unfold ltE aheadE
  rw [Bool.or_eq_true, Bool.and_eq_true, Bool.not_eq_true', firstE_iff, firstE_no, decide_eq_true_iff]
  omega
theorem ltE_no (a b : Int × Int × Int) : ltE a b = false ↔ ¬ (b.2.1 < a.2.1 ∨ (b.2.1 = a.2.1 ∧ (b.1 < a.1 ∨ (b.1 = a.1 ∧ b.2.2 < a.2.2)))) := by rw [← ltE_iff, Bool.not_eq_true]
theorem ltE_wo : WO ltE := ⟨fun a b h => by rw [ltE_iff] at h; rw [ltE_no]; omega, fun a b c h1 h2 => by rw [ltE_no] at *; omega⟩
set_option maxHeartbeats 3200000 in
theorem AheadE_calls (bs : Nat) (a0 a1 a2 b0 b1 b2 : Int) (w : World) (hs : w.cell? ⟨bs, 0, none⟩ = some (.func (.func 29) #[] #[])) :
    Calls Try.prog 84 #[.pointer (some ⟨bs, 0, none⟩), .agg #[.int .i64 a0, .int .i64 a1, .int .i64 a2], .agg #[.int .i64 b0, .int .i64 b1, .int .i64 b2]] w fun e w' => e = .returned (.bool (aheadE (a0, a1, a2) (b0, b1, b2))) ∧ Below w.heap.size w w' := by
  obtain ⟨r1, hr1⟩ : ∃ r, nearB a0 a1 b0 b1 = r := ⟨_, rfl⟩
  obtain ⟨r2, hr2⟩ : ∃ r, nearB b0 b1 a0 a1 = r := ⟨_, rfl⟩
  have HR1 := Lib.hid hr1
  have HR2 := Lib.hid hr2
  have HV := Lib.hid (show aheadE (a0, a1, a2) (b0, b1, b2) = (r1 || (!r2 && decide (a2 < b2))) by unfold aheadE; simp only [hr1, hr2])
  clear hr1 hr2
  go_enter Try.func84, Try.ntmps84
  go_wp2_with fail
  obtain ⟨w2, hw2⟩ : ∃ W, (w.alloc (.cells #[.int .i64 a0, .int .i64 a1, .int .i64 a2] 124)).alloc (.cells #[.int .i64 b0, .int .i64 b1, .int .i64 b2] 124) = W := ⟨_, rfl⟩
  (try rw [hw2])
  have hbel2 : Below w.heap.size w w2 := by rw [← hw2]; exact below_alloc1 (below_alloc1 (Below.refl _ _) _) _
  have ba : w2.heap[w.heap.size]? = some (.cells #[.int .i64 a0, .int .i64 a1, .int .i64 a2] 124 (0, 0)) := by
    rw [← hw2]; exact obj_below ((Below.refl _ _).alloc (Nat.le_refl _) _) (heap_alloc_new w _) (obj_lt (heap_alloc_new w _))
  have bb : w2.heap[w.heap.size + 1]? = some (.cells #[.int .i64 b0, .int .i64 b1, .int .i64 b2] 124 (0, 0)) := by
    rw [← hw2]; have h := heap_alloc_new (w.alloc (.cells #[.int .i64 a0, .int .i64 a1, .int .i64 a2] 124)) (.cells #[.int .i64 b0, .int .i64 b1, .int .i64 b2] 124); rwa [World.size_alloc] at h
  have HB2 := Lib.hid hbel2
  have BA := Lib.hid ba
  have BB := Lib.hid bb
  have hs1 := cell_below hbel2 hs (World.block_lt_of_cell? _ _ hs)
  have ha0 : w2.cell? ⟨w.heap.size, 0, none⟩ = some (.int .i64 a0) := by have h := BA.out; simp [World.cell?, h]
  have ha1 : w2.cell? ⟨w.heap.size, 1, none⟩ = some (.int .i64 a1) := by have h := BA.out; simp [World.cell?, h]
  have ha2 : w2.cell? ⟨w.heap.size, 2, none⟩ = some (.int .i64 a2) := by have h := BA.out; simp [World.cell?, h]
  have hb0 : w2.cell? ⟨w.heap.size + 1, 0, none⟩ = some (.int .i64 b0) := by have h := BB.out; simp [World.cell?, h]
  have hb1 : w2.cell? ⟨w.heap.size + 1, 1, none⟩ = some (.int .i64 b1) := by have h := BB.out; simp [World.cell?, h]
  have hb2 : w2.cell? ⟨w.heap.size + 1, 2, none⟩ = some (.int .i64 b2) := by have h := BB.out; simp [World.cell?, h]
  clear hw2 hbel2 ba bb
  have hbr : Below w2.heap.size w2 w2 := Below.refl _ _
  go_wp2_with fail
  go_region_held3 (fun w' => w'.cell? ⟨bs, 0, none⟩ = some (.func (.func 29) #[] #[]) ∧ w'.cell? ⟨w.heap.size, 0, none⟩ = some (.int .i64 a0) ∧ w'.cell? ⟨w.heap.size, 1, none⟩ = some (.int .i64 a1) ∧ w'.cell? ⟨w.heap.size + 1, 0, none⟩ = some (.int .i64 b0) ∧ w'.cell? ⟨w.heap.size + 1, 1, none⟩ = some (.int .i64 b1) ∧ Below w2.heap.size w2 w')
    (first | exact ⟨cell_below (B := w2.heap.size) (w := w2) (by first | ((repeat (first | assumption | exact Below.refl _ _ | apply below_drew1 | apply below_alloc1)); done)) hs1 (World.block_lt_of_cell? _ _ hs1), cell_below (B := w2.heap.size) (w := w2) (by first | ((repeat (first | assumption | exact Below.refl _ _ | apply below_drew1 | apply below_alloc1)); done)) ha0 (World.block_lt_of_cell? _ _ ha0), cell_below (B := w2.heap.size) (w := w2) (by first | ((repeat (first | assumption | exact Below.refl _ _ | apply below_drew1 | apply below_alloc1)); done)) ha1 (World.block_lt_of_cell? _ _ ha1), cell_below (B := w2.heap.size) (w := w2) (by first | ((repeat (first | assumption | exact Below.refl _ _ | apply below_drew1 | apply below_alloc1)); done)) hb0 (World.block_lt_of_cell? _ _ hb0), cell_below (B := w2.heap.size) (w := w2) (by first | ((repeat (first | assumption | exact Below.refl _ _ | apply below_drew1 | apply below_alloc1)); done)) hb1 (World.block_lt_of_cell? _ _ hb1), (by first | ((repeat (first | assumption | exact Below.refl _ _ | apply below_drew1 | apply below_alloc1)); done))⟩ | go_keep)
    (first
      | (go_at_call 29; go_split_ands; (with_reducible refine (Nearer_calls a0 a1 b0 b1 _).mono ?_); rintro e w3 ⟨he, hbq⟩; rw [HR1.out] at he; subst he; have hB2 : Below w2.heap.size w2 w3 := Below.after (by first | ((repeat (first | assumption | exact Below.refl _ _ | apply below_drew1 | apply below_alloc1)); done)) hbq))
  have hbz : Below w2.heap.size w2 w3 := by assumption
  have HB3 := Lib.hid (HB2.out.trans (hbz.mono HB2.out.size))
  have hs1' := cell_below hbz hs1 (World.block_lt_of_cell? _ _ hs1)
  have BA3 := Lib.hid (obj_below hbz BA.out (obj_lt BA.out))
  have BB3 := Lib.hid (obj_below hbz BB.out (obj_lt BB.out))
  clear hbz hs1 ha0 ha1 ha2 hb0 hb1 hb2 BA BB
  cases r1 with
  | true =>
    go_wp2_with fail
    go_ret
    exact ⟨by rw [HV.out]; rfl, HB3.out⟩
  | false =>
    have hs1 := hs1'
    clear hs1'
    have ha0 : w3.cell? ⟨w.heap.size, 0, none⟩ = some (.int .i64 a0) := by have h := BA3.out; simp [World.cell?, h]
    have ha1 : w3.cell? ⟨w.heap.size, 1, none⟩ = some (.int .i64 a1) := by have h := BA3.out; simp [World.cell?, h]
    have ha2 : w3.cell? ⟨w.heap.size, 2, none⟩ = some (.int .i64 a2) := by have h := BA3.out; simp [World.cell?, h]
    have hb0 : w3.cell? ⟨w.heap.size + 1, 0, none⟩ = some (.int .i64 b0) := by have h := BB3.out; simp [World.cell?, h]
    have hb1 : w3.cell? ⟨w.heap.size + 1, 1, none⟩ = some (.int .i64 b1) := by have h := BB3.out; simp [World.cell?, h]
    have hb2 : w3.cell? ⟨w.heap.size + 1, 2, none⟩ = some (.int .i64 b2) := by have h := BB3.out; simp [World.cell?, h]
    have hbr : Below w3.heap.size w3 w3 := Below.refl _ _
    go_wp2_with fail
    go_region_held3 (fun w' => w'.cell? ⟨bs, 0, none⟩ = some (.func (.func 29) #[] #[]) ∧ w'.cell? ⟨w.heap.size, 0, none⟩ = some (.int .i64 a0) ∧ w'.cell? ⟨w.heap.size, 1, none⟩ = some (.int .i64 a1) ∧ w'.cell? ⟨w.heap.size + 1, 0, none⟩ = some (.int .i64 b0) ∧ w'.cell? ⟨w.heap.size + 1, 1, none⟩ = some (.int .i64 b1) ∧ Below w3.heap.size w3 w')
      (first | exact ⟨cell_below (B := w3.heap.size) (w := w3) (by first | ((repeat (first | assumption | exact Below.refl _ _ | apply below_drew1 | apply below_alloc1)); done)) hs1 (World.block_lt_of_cell? _ _ hs1), cell_below (B := w3.heap.size) (w := w3) (by first | ((repeat (first | assumption | exact Below.refl _ _ | apply below_drew1 | apply below_alloc1)); done)) ha0 (World.block_lt_of_cell? _ _ ha0), cell_below (B := w3.heap.size) (w := w3) (by first | ((repeat (first | assumption | exact Below.refl _ _ | apply below_drew1 | apply below_alloc1)); done)) ha1 (World.block_lt_of_cell? _ _ ha1), cell_below (B := w3.heap.size) (w := w3) (by first | ((repeat (first | assumption | exact Below.refl _ _ | apply below_drew1 | apply below_alloc1)); done)) hb0 (World.block_lt_of_cell? _ _ hb0), cell_below (B := w3.heap.size) (w := w3) (by first | ((repeat (first | assumption | exact Below.refl _ _ | apply below_drew1 | apply below_alloc1)); done)) hb1 (World.block_lt_of_cell? _ _ hb1), (by first | ((repeat (first | assumption | exact Below.refl _ _ | apply below_drew1 | apply below_alloc1)); done))⟩ | go_keep)
      (first
        | (go_at_call 29; go_split_ands; (with_reducible refine (Nearer_calls b0 b1 a0 a1 _).mono ?_); rintro e w4 ⟨he, hbq⟩; rw [HR2.out] at he; subst he; have hB2 : Below w3.heap.size w3 w4 := Below.after (by first | ((repeat (first | assumption | exact Below.refl _ _ | apply below_drew1 | apply below_alloc1)); done)) hbq))
    have hbz : Below w3.heap.size w3 w4 := by assumption
    have HB4 := Lib.hid (HB3.out.trans (hbz.mono HB3.out.size))
    have BA4 := Lib.hid (obj_below hbz BA3.out (obj_lt BA3.out))
    have BB4 := Lib.hid (obj_below hbz BB3.out (obj_lt BB3.out))
    clear hbz hs1 ha0 ha1 ha2 hb0 hb1 hb2
    cases r2 with
    | true =>
      go_wp2_with fail
      go_ret
      exact ⟨by rw [HV.out]; rfl, HB4.out⟩
    | false =>
      have ha2 : w4.cell? ⟨w.heap.size, 2, none⟩ = some (.int .i64 a2) := by have h := BA4.out; simp [World.cell?, h]
      have hb2 : w4.cell? ⟨w.heap.size + 1, 2, none⟩ = some (.int .i64 b2) := by have h := BB4.out; simp [World.cell?, h]
      go_wp2_with fail
      go_ret
      exact ⟨by rw [HV.out]; simp, HB4.out⟩
theorem LessE_calls (bx bs : Nat) (a0 a1 a2 b0 b1 b2 : Int) (w : World) (hx : w.cell? ⟨bx, 0, none⟩ = some (.pointer (some ⟨bs, 0, none⟩))) (hs : w.cell? ⟨bs, 0, none⟩ = some (.func (.func 29) #[] #[])) :
    Calls Try.prog 83 #[.agg #[.int .i64 a0, .int .i64 a1, .int .i64 a2], .agg #[.int .i64 b0, .int .i64 b1, .int .i64 b2], .pointer (some ⟨bx, 0, none⟩)] w fun e w' => e = .returned (.bool (ltE (a0, a1, a2) (b0, b1, b2))) ∧ Below w.heap.size w w' := by
  have HV := Lib.hid (show aheadE (b0, b1, b2) (a0, a1, a2) = ltE (a0, a1, a2) (b0, b1, b2) from rfl)
  have gx := fun o1 o2 => cell_below (below_alloc1 (below_alloc1 (Below.refl w.heap.size w) o1) o2) hx (World.block_lt_of_cell? _ _ hx)
  go_enter Try.func83, Try.ntmps83
  go_wp2_with fail
  obtain ⟨w2, hw2⟩ : ∃ W, (w.alloc (.cells #[.int .i64 a0, .int .i64 a1, .int .i64 a2] 124)).alloc (.cells #[.int .i64 b0, .int .i64 b1, .int .i64 b2] 124) = W := ⟨_, rfl⟩
  (try rw [hw2])
  have hbel2 : Below w.heap.size w w2 := by rw [← hw2]; exact below_alloc1 (below_alloc1 (Below.refl _ _) _) _
  have ba : w2.heap[w.heap.size]? = some (.cells #[.int .i64 a0, .int .i64 a1, .int .i64 a2] 124 (0, 0)) := by
    rw [← hw2]; exact obj_below ((Below.refl _ _).alloc (Nat.le_refl _) _) (heap_alloc_new w _) (obj_lt (heap_alloc_new w _))
  have bb : w2.heap[w.heap.size + 1]? = some (.cells #[.int .i64 b0, .int .i64 b1, .int .i64 b2] 124 (0, 0)) := by
    rw [← hw2]; have h := heap_alloc_new (w.alloc (.cells #[.int .i64 a0, .int .i64 a1, .int .i64 a2] 124)) (.cells #[.int .i64 b0, .int .i64 b1, .int .i64 b2] 124); rwa [World.size_alloc] at h
  have HB2 := Lib.hid hbel2
  have BA := Lib.hid ba
  have BB := Lib.hid bb
  have hs1 := cell_below hbel2 hs (World.block_lt_of_cell? _ _ hs)
  have hx1 := cell_below hbel2 hx (World.block_lt_of_cell? _ _ hx)
  have ha0 : w2.cell? ⟨w.heap.size, 0, none⟩ = some (.int .i64 a0) := by have h := BA.out; simp [World.cell?, h]
  have ha1 : w2.cell? ⟨w.heap.size, 1, none⟩ = some (.int .i64 a1) := by have h := BA.out; simp [World.cell?, h]
  have ha2 : w2.cell? ⟨w.heap.size, 2, none⟩ = some (.int .i64 a2) := by have h := BA.out; simp [World.cell?, h]
  have hb0 : w2.cell? ⟨w.heap.size + 1, 0, none⟩ = some (.int .i64 b0) := by have h := BB.out; simp [World.cell?, h]
  have hb1 : w2.cell? ⟨w.heap.size + 1, 1, none⟩ = some (.int .i64 b1) := by have h := BB.out; simp [World.cell?, h]
  have hb2 : w2.cell? ⟨w.heap.size + 1, 2, none⟩ = some (.int .i64 b2) := by have h := BB.out; simp [World.cell?, h]
  clear hw2 hbel2 ba bb gx
  refine (AheadE_calls bs b0 b1 b2 a0 a1 a2 w2 hs1).mono ?_
  rintro e w3 ⟨he, hb3⟩
  subst he
  have HB3 := Lib.hid (HB2.out.trans (hb3.mono HB2.out.size))
  clear hb3
  go_wp2_with fail
  go_ret
  exact ⟨by rw [← HV.out]; rfl, HB3.out⟩
end Go.Proofs.Ytacgkoclammggaa
