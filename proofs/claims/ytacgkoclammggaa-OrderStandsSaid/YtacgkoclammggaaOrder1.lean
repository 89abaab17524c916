
/-
  What comes first (package order, and the library's cmp): what each function tells. No condition.
-/
import Derived.Test.YtacgkoclammggaaLib
import Derived.Deep.RegionHeld3
namespace Go.Proofs.Ytacgkoclammggaa
open Go.RowKit
set_option linter.unusedVariables false
set_option maxRecDepth 100000
set_option linter.unusedSimpArgs false

def cmpV (a b : Int) : Int := if a < b then -1 else if b < a then 1 else 0
theorem _root_.Go.RowKit.Below.after {a b c : World} (h : Below a.heap.size a b) (k : Below b.heap.size b c) : Below a.heap.size a c := h.trans (k.mono h.size)
theorem isNaN64_calls (a : Int) (w : World) : Calls Try.prog 108 #[.int .i64 a] w fun e w' => e = .returned (.bool false) ∧ w = w' := by
  go_enter Try.func108, Try.ntmps108
  go_wp2_with fail
  go_ret
  exact ⟨by simp, rfl⟩
theorem isNaN_calls (a : Int) (w : World) : Calls Try.prog 109 #[.int .i64 a] w fun e w' => e = .returned (.bool false) ∧ w = w' := by
  go_enter Try.func109, Try.ntmps109
  go_wp2_with fail
  go_ret
  exact ⟨by simp, rfl⟩
theorem Cmp64_calls (a b : Int) (w : World) : Calls Try.prog 72 #[.int .i64 a, .int .i64 b] w fun e w' => e = .returned (.int .i64 (cmpV a b)) ∧ w = w' := by
  unfold cmpV
  by_cases h1 : a < b
  · have h1' : decide (a < b) = true := decide_eq_true h1
    rw [if_pos h1]
    go_enter Try.func72, Try.ntmps72
    go_wp2_with fail
    refine (isNaN64_calls _ _).mono ?_
    rintro e _ ⟨he, rfl⟩
    subst he
    go_wp2_with fail
    refine (isNaN64_calls _ _).mono ?_
    rintro e _ ⟨he, rfl⟩
    subst he
    go_wp2_with fail
    go_ret
    exact ⟨rfl, rfl⟩
  · have h1' : decide (a < b) = false := decide_eq_false h1
    rw [if_neg h1]
    by_cases h2 : b < a
    · have h2' : decide (b < a) = true := decide_eq_true h2
      rw [if_pos h2]
      go_enter Try.func72, Try.ntmps72
      go_wp2_with fail
      refine (isNaN64_calls _ _).mono ?_
      rintro e _ ⟨he, rfl⟩
      subst he
      go_wp2_with fail
      refine (isNaN64_calls _ _).mono ?_
      rintro e _ ⟨he, rfl⟩
      subst he
      go_wp2_with fail
      go_ret
      exact ⟨rfl, rfl⟩
    · have h2' : decide (b < a) = false := decide_eq_false h2
      rw [if_neg h2]
      go_enter Try.func72, Try.ntmps72
      go_wp2_with fail
      refine (isNaN64_calls _ _).mono ?_
      rintro e _ ⟨he, rfl⟩
      subst he
      go_wp2_with fail
      refine (isNaN64_calls _ _).mono ?_
      rintro e _ ⟨he, rfl⟩
      subst he
      go_wp2_with fail
      go_ret
      exact ⟨rfl, rfl⟩
theorem Cmp_calls (a b : Int) (w : World) : Calls Try.prog 73 #[.int .i64 a, .int .i64 b] w fun e w' => e = .returned (.int .i64 (cmpV a b)) ∧ w = w' := by
  unfold cmpV
  by_cases h1 : a < b
  · have h1' : decide (a < b) = true := decide_eq_true h1
    rw [if_pos h1]
    go_enter Try.func73, Try.ntmps73
    go_wp2_with fail
    refine (isNaN_calls _ _).mono ?_
    rintro e _ ⟨he, rfl⟩
    subst he
    go_wp2_with fail
    refine (isNaN_calls _ _).mono ?_
    rintro e _ ⟨he, rfl⟩
    subst he
    go_wp2_with fail
    go_ret
    exact ⟨rfl, rfl⟩
  · have h1' : decide (a < b) = false := decide_eq_false h1
    rw [if_neg h1]
    by_cases h2 : b < a
    · have h2' : decide (b < a) = true := decide_eq_true h2
      rw [if_pos h2]
      go_enter Try.func73, Try.ntmps73
      go_wp2_with fail
      refine (isNaN_calls _ _).mono ?_
      rintro e _ ⟨he, rfl⟩
      subst he
      go_wp2_with fail
      refine (isNaN_calls _ _).mono ?_
      rintro e _ ⟨he, rfl⟩
      subst he
      go_wp2_with fail
      go_ret
      exact ⟨rfl, rfl⟩
    · have h2' : decide (b < a) = false := decide_eq_false h2
      rw [if_neg h2]
      go_enter Try.func73, Try.ntmps73
      go_wp2_with fail
      refine (isNaN_calls _ _).mono ?_
      rintro e _ ⟨he, rfl⟩
      subst he
      go_wp2_with fail
      refine (isNaN_calls _ _).mono ?_
      rintro e _ ⟨he, rfl⟩
      subst he
      go_wp2_with fail
      go_ret
      exact ⟨rfl, rfl⟩
def orV (x y : Int) : Int := if x = 0 then y else x
theorem Or_calls (g c : Nat) (x y : Int) (w : World) (h0 : w.cell? ⟨g, 0, none⟩ = some (.int .i64 x)) (h1 : w.cell? ⟨g, 1, none⟩ = some (.int .i64 y)) : Calls Try.prog 71 #[.slice (some ⟨g, 0, none⟩) 2 c] w fun e w' => e = .returned (.int .i64 (orV x y)) ∧ Below w.heap.size w w' := by
  unfold orV
  go_enter Try.func71, Try.ntmps71
  go_wp2_with fail
  go_loopg [8] 2 (fun kq v8 w' => w' = w ∧ ((kq = 2 ∧ v8 = .int .i64 0) ∨ (kq = 1 ∧ v8 = .int .i64 1 ∧ x = 0) ∨ (kq = 0 ∧ v8 = .int .i64 2 ∧ x = 0 ∧ y = 0)))
  case atStart => exact ⟨rfl, .inl ⟨rfl, rfl⟩⟩
  case round =>
    obtain ⟨rfl, hc⟩ := hrel
    rcases hc with ⟨rfl, rfl⟩ | ⟨rfl, rfl, hx⟩ | ⟨rfl, rfl, hx, hy⟩
    · by_cases hx : x = 0
      · have hx' : (x != 0) = false := by simp [hx]
        go_wp2_with fail
        go_roundg 1
        case measure => omega
        case rel => exact ⟨rfl, .inr (.inl ⟨rfl, rfl, hx⟩)⟩
      · have hx' : (x != 0) = true := by simp [hx]
        go_wp2_with fail
        go_ret
        exact ⟨rfl, Below.refl _ _⟩
    · by_cases hy : y = 0
      · have hy' : (y != 0) = false := by simp [hy]
        go_wp2_with fail
        go_roundg 0
        case measure => omega
        case rel => exact ⟨rfl, .inr (.inr ⟨rfl, rfl, hx, hy⟩)⟩
      · have hy' : (y != 0) = true := by simp [hy]
        go_wp2_with fail
        go_ret
        exact ⟨rfl, Below.refl _ _⟩
    · go_wp2_with fail
      go_ret
      exact ⟨rfl, Below.refl _ _⟩
def nearB (a0 a1 b0 b1 : Int) : Bool := decide (orV (cmpV a1 b1) (cmpV a0 b0) < 0)
set_option maxHeartbeats 3200000 in
theorem Nearer_calls (a0 a1 b0 b1 : Int) (w : World) : Calls Try.prog 29 #[.agg #[.int .i64 a0, .int .i64 a1], .agg #[.int .i64 b0, .int .i64 b1]] w fun e w' => e = .returned (.bool (nearB a0 a1 b0 b1)) ∧ Below w.heap.size w w' := by
  obtain ⟨x, hx⟩ : ∃ x, cmpV a1 b1 = x := ⟨_, rfl⟩
  obtain ⟨y, hy⟩ : ∃ y, cmpV a0 b0 = y := ⟨_, rfl⟩
  obtain ⟨z, hz⟩ : ∃ z, orV x y = z := ⟨_, rfl⟩
  have hr : nearB a0 a1 b0 b1 = decide (z < 0) := by unfold nearB; rw [hx, hy, hz]
  rw [hr]
  have HX := Lib.hid hx
  have HY := Lib.hid hy
  have HZ := Lib.hid hz
  clear hr hx hy hz
  go_enter Try.func29, Try.ntmps29
  go_wp2_with fail
  obtain ⟨w2, hw⟩ : ∃ W, (w.alloc (.cells #[.int .i64 a0, .int .i64 a1] 41)).alloc (.cells #[.int .i64 b0, .int .i64 b1] 41) = W := ⟨_, rfl⟩
  rw [hw]
  have hb1 : Below w.heap.size w w2 := by rw [← hw]; exact below_alloc1 (below_alloc1 (Below.refl _ _) _) _
  have ba : w2.heap[w.heap.size]? = some (.cells #[.int .i64 a0, .int .i64 a1] 41 (0, 0)) := by rw [← hw]; exact obj_below ((Below.refl _ _).alloc (Nat.le_refl _) _) (heap_alloc_new w _) (obj_lt (heap_alloc_new w _))
  have bb : w2.heap[w.heap.size + 1]? = some (.cells #[.int .i64 b0, .int .i64 b1] 41 (0, 0)) := by rw [← hw]; have h := heap_alloc_new (w.alloc (.cells #[.int .i64 a0, .int .i64 a1] 41)) (.cells #[.int .i64 b0, .int .i64 b1] 41); rwa [World.size_alloc] at h
  have h2_0 : w2.cell? ⟨w.heap.size, 0, none⟩ = some (.int .i64 a0) := by simp [World.cell?, ba]
  have h2_1 : w2.cell? ⟨w.heap.size, 1, none⟩ = some (.int .i64 a1) := by simp [World.cell?, ba]
  have h2_2 : w2.cell? ⟨w.heap.size + 1, 0, none⟩ = some (.int .i64 b0) := by simp [World.cell?, bb]
  have h2_3 : w2.cell? ⟨w.heap.size + 1, 1, none⟩ = some (.int .i64 b1) := by simp [World.cell?, bb]
  have hbs : Below w2.heap.size w2 w2 := Below.refl _ _
  clear hw ba bb
  go_region_held3 (fun w' => w'.cell? ⟨w.heap.size, 0, none⟩ = some (.int .i64 a0) ∧ w'.cell? ⟨w.heap.size, 1, none⟩ = some (.int .i64 a1) ∧ w'.cell? ⟨w.heap.size + 1, 0, none⟩ = some (.int .i64 b0) ∧ w'.cell? ⟨w.heap.size + 1, 1, none⟩ = some (.int .i64 b1) ∧ Below w2.heap.size w2 w')
    (first | exact ⟨cell_below (B := w2.heap.size) (w := w2) (by repeat (first | assumption | exact Below.refl _ _ | apply below_drew1 | apply below_alloc1)) h2_0 (World.block_lt_of_cell? _ _ h2_0), cell_below (B := w2.heap.size) (w := w2) (by repeat (first | assumption | exact Below.refl _ _ | apply below_drew1 | apply below_alloc1)) h2_1 (World.block_lt_of_cell? _ _ h2_1), cell_below (B := w2.heap.size) (w := w2) (by repeat (first | assumption | exact Below.refl _ _ | apply below_drew1 | apply below_alloc1)) h2_2 (World.block_lt_of_cell? _ _ h2_2), cell_below (B := w2.heap.size) (w := w2) (by repeat (first | assumption | exact Below.refl _ _ | apply below_drew1 | apply below_alloc1)) h2_3 (World.block_lt_of_cell? _ _ h2_3), (by repeat (first | assumption | exact Below.refl _ _ | apply below_drew1 | apply below_alloc1))⟩ | go_keep)
    (first
      | (go_at_call 72; go_split_ands; (with_reducible refine (Cmp64_calls _ _ _).mono ?_); rintro e w3 ⟨he, hq3⟩; rw [HX.out] at he; subst he; have hb3 : Below w2.heap.size w2 w3 := (by rw [← hq3]; exact (by repeat (first | assumption | exact Below.refl _ _ | apply below_drew1 | apply below_alloc1))); clear hq3)
      | (go_at_call 73; go_split_ands; (with_reducible refine (Cmp_calls _ _ _).mono ?_); rintro e w4 ⟨he, hq4⟩; rw [HY.out] at he; subst he; have hb4 : Below w2.heap.size w2 w4 := (by rw [← hq4]; exact (by repeat (first | assumption | exact Below.refl _ _ | apply below_drew1 | apply below_alloc1))); clear hq4)
      | (go_at_call 71; go_split_ands; (with_reducible refine (Or_calls _ _ x y _ (cell_blk (cs := [_, _]) (heap_alloc_new _ _) 0) (cell_blk (cs := [_, _]) (heap_alloc_new _ _) 1)).mono ?_); rintro e w5 ⟨he, hb5⟩; rw [HZ.out] at he; subst he; have hb6 : Below w2.heap.size w2 w5 := Below.after (by repeat (first | assumption | exact Below.refl _ _ | apply below_drew1 | apply below_alloc1)) hb5))
  go_wp2_with fail
  go_ret
  exact ⟨rfl, hb1.trans (hb6.mono hb1.size)⟩
def aheadB (a0 a1 b0 b1 : Int) : Bool := decide (orV (cmpV b0 a0) (cmpV a1 b1) < 0)
set_option maxHeartbeats 3200000 in
theorem Ahead_calls (a0 a1 b0 b1 : Int) (w : World) : Calls Try.prog 31 #[.agg #[.int .i64 a0, .int .i64 a1], .agg #[.int .i64 b0, .int .i64 b1]] w fun e w' => e = .returned (.bool (aheadB a0 a1 b0 b1)) ∧ Below w.heap.size w w' := by
  obtain ⟨x, hx⟩ : ∃ x, cmpV b0 a0 = x := ⟨_, rfl⟩
  obtain ⟨y, hy⟩ : ∃ y, cmpV a1 b1 = y := ⟨_, rfl⟩
  obtain ⟨z, hz⟩ : ∃ z, orV x y = z := ⟨_, rfl⟩
  have hr : aheadB a0 a1 b0 b1 = decide (z < 0) := by unfold aheadB; rw [hx, hy, hz]
  rw [hr]
  have HX := Lib.hid hx
  have HY := Lib.hid hy
  have HZ := Lib.hid hz
  clear hr hx hy hz
  go_enter Try.func31, Try.ntmps31
  go_wp2_with fail
  obtain ⟨w2, hw⟩ : ∃ W, (w.alloc (.cells #[.int .i64 a0, .int .i64 a1] 45)).alloc (.cells #[.int .i64 b0, .int .i64 b1] 45) = W := ⟨_, rfl⟩
  rw [hw]
  have hb1 : Below w.heap.size w w2 := by rw [← hw]; exact below_alloc1 (below_alloc1 (Below.refl _ _) _) _
  have ba : w2.heap[w.heap.size]? = some (.cells #[.int .i64 a0, .int .i64 a1] 45 (0, 0)) := by rw [← hw]; exact obj_below ((Below.refl _ _).alloc (Nat.le_refl _) _) (heap_alloc_new w _) (obj_lt (heap_alloc_new w _))
  have bb : w2.heap[w.heap.size + 1]? = some (.cells #[.int .i64 b0, .int .i64 b1] 45 (0, 0)) := by rw [← hw]; have h := heap_alloc_new (w.alloc (.cells #[.int .i64 a0, .int .i64 a1] 45)) (.cells #[.int .i64 b0, .int .i64 b1] 45); rwa [World.size_alloc] at h
  have h2_0 : w2.cell? ⟨w.heap.size, 0, none⟩ = some (.int .i64 a0) := by simp [World.cell?, ba]
  have h2_1 : w2.cell? ⟨w.heap.size, 1, none⟩ = some (.int .i64 a1) := by simp [World.cell?, ba]
  have h2_2 : w2.cell? ⟨w.heap.size + 1, 0, none⟩ = some (.int .i64 b0) := by simp [World.cell?, bb]
  have h2_3 : w2.cell? ⟨w.heap.size + 1, 1, none⟩ = some (.int .i64 b1) := by simp [World.cell?, bb]
  have hbs : Below w2.heap.size w2 w2 := Below.refl _ _
  clear hw ba bb
  go_region_held3 (fun w' => w'.cell? ⟨w.heap.size, 0, none⟩ = some (.int .i64 a0) ∧ w'.cell? ⟨w.heap.size, 1, none⟩ = some (.int .i64 a1) ∧ w'.cell? ⟨w.heap.size + 1, 0, none⟩ = some (.int .i64 b0) ∧ w'.cell? ⟨w.heap.size + 1, 1, none⟩ = some (.int .i64 b1) ∧ Below w2.heap.size w2 w')
    (first | exact ⟨cell_below (B := w2.heap.size) (w := w2) (by repeat (first | assumption | exact Below.refl _ _ | apply below_drew1 | apply below_alloc1)) h2_0 (World.block_lt_of_cell? _ _ h2_0), cell_below (B := w2.heap.size) (w := w2) (by repeat (first | assumption | exact Below.refl _ _ | apply below_drew1 | apply below_alloc1)) h2_1 (World.block_lt_of_cell? _ _ h2_1), cell_below (B := w2.heap.size) (w := w2) (by repeat (first | assumption | exact Below.refl _ _ | apply below_drew1 | apply below_alloc1)) h2_2 (World.block_lt_of_cell? _ _ h2_2), cell_below (B := w2.heap.size) (w := w2) (by repeat (first | assumption | exact Below.refl _ _ | apply below_drew1 | apply below_alloc1)) h2_3 (World.block_lt_of_cell? _ _ h2_3), (by repeat (first | assumption | exact Below.refl _ _ | apply below_drew1 | apply below_alloc1))⟩ | go_keep)
    (first
      | (go_at_call 72; go_split_ands; (with_reducible refine (Cmp64_calls _ _ _).mono ?_); rintro e w3 ⟨he, hq3⟩; rw [HX.out] at he; subst he; have hb3 : Below w2.heap.size w2 w3 := (by rw [← hq3]; exact (by repeat (first | assumption | exact Below.refl _ _ | apply below_drew1 | apply below_alloc1))); clear hq3)
      | (go_at_call 73; go_split_ands; (with_reducible refine (Cmp_calls _ _ _).mono ?_); rintro e w4 ⟨he, hq4⟩; rw [HY.out] at he; subst he; have hb4 : Below w2.heap.size w2 w4 := (by rw [← hq4]; exact (by repeat (first | assumption | exact Below.refl _ _ | apply below_drew1 | apply below_alloc1))); clear hq4)
      | (go_at_call 71; go_split_ands; (with_reducible refine (Or_calls _ _ x y _ (cell_blk (cs := [_, _]) (heap_alloc_new _ _) 0) (cell_blk (cs := [_, _]) (heap_alloc_new _ _) 1)).mono ?_); rintro e w5 ⟨he, hb5⟩; rw [HZ.out] at he; subst he; have hb6 : Below w2.heap.size w2 w5 := Below.after (by repeat (first | assumption | exact Below.refl _ _ | apply below_drew1 | apply below_alloc1)) hb5))
  go_wp2_with fail
  go_ret
  exact ⟨rfl, hb1.trans (hb6.mono hb1.size)⟩
set_option maxHeartbeats 3200000 in
theorem CompareR_calls (a0 a1 b0 b1 : Int) (w : World) : Calls Try.prog 28 #[.func (.func 29) #[] #[], .agg #[.int .i64 a0, .int .i64 a1], .agg #[.int .i64 b0, .int .i64 b1]] w fun e w' => e = .returned (.int .i64 (if nearB a0 a1 b0 b1 then -1 else if nearB b0 b1 a0 a1 then 1 else 0)) ∧ Below w.heap.size w w' := by
  obtain ⟨x, hx⟩ : ∃ x, nearB a0 a1 b0 b1 = x := ⟨_, rfl⟩
  obtain ⟨y, hy⟩ : ∃ y, nearB b0 b1 a0 a1 = y := ⟨_, rfl⟩
  rw [hx, hy]
  have HX := Lib.hid hx
  have HY := Lib.hid hy
  clear hx hy
  go_enter Try.func28, Try.ntmps28
  go_wp2_with fail
  obtain ⟨w2, hw⟩ : ∃ W, (w.alloc (.cells #[.int .i64 a0, .int .i64 a1] 41)).alloc (.cells #[.int .i64 b0, .int .i64 b1] 41) = W := ⟨_, rfl⟩
  rw [hw]
  have hb1 : Below w.heap.size w w2 := by rw [← hw]; exact below_alloc1 (below_alloc1 (Below.refl _ _) _) _
  have ba : w2.heap[w.heap.size]? = some (.cells #[.int .i64 a0, .int .i64 a1] 41 (0, 0)) := by rw [← hw]; exact obj_below ((Below.refl _ _).alloc (Nat.le_refl _) _) (heap_alloc_new w _) (obj_lt (heap_alloc_new w _))
  have bb : w2.heap[w.heap.size + 1]? = some (.cells #[.int .i64 b0, .int .i64 b1] 41 (0, 0)) := by rw [← hw]; have h := heap_alloc_new (w.alloc (.cells #[.int .i64 a0, .int .i64 a1] 41)) (.cells #[.int .i64 b0, .int .i64 b1] 41); rwa [World.size_alloc] at h
  clear hw
  refine (Nearer_calls a0 a1 b0 b1 _).mono ?_
  rintro e w3 ⟨he, hbn⟩
  rw [HX.out] at he
  subst he
  have hb3 := hb1.trans (hbn.mono hb1.size)
  have ba3 := obj_below hbn ba (obj_lt ba)
  have bb3 := obj_below hbn bb (obj_lt bb)
  have h0 : w3.cell? ⟨w.heap.size, 0, none⟩ = some (.int .i64 a0) := by simp [World.cell?, ba3]
  have h1 : w3.cell? ⟨w.heap.size, 1, none⟩ = some (.int .i64 a1) := by simp [World.cell?, ba3]
  have h2 : w3.cell? ⟨w.heap.size + 1, 0, none⟩ = some (.int .i64 b0) := by simp [World.cell?, bb3]
  have h3 : w3.cell? ⟨w.heap.size + 1, 1, none⟩ = some (.int .i64 b1) := by simp [World.cell?, bb3]
  have hz3 := hb3.size
  clear hbn ba bb ba3 bb3 hb1
  cases x with
  | true =>
    go_wp2_with fail
    go_ret
    exact ⟨rfl, hb3⟩
  | false =>
    go_wp2_with fail
    refine (Nearer_calls b0 b1 a0 a1 _).mono ?_
    rintro e w4 ⟨he, hbn⟩
    rw [HY.out] at he
    subst he
    have hb4 := hb3.trans (hbn.mono hz3)
    clear hbn
    cases y with
    | true =>
      go_wp2_with fail
      go_ret
      exact ⟨rfl, hb4⟩
    | false =>
      go_wp2_with fail
      go_ret
      exact ⟨rfl, hb4⟩
set_option maxHeartbeats 3200000 in
theorem CompareT_calls (a0 a1 b0 b1 : Int) (w : World) : Calls Try.prog 30 #[.func (.func 31) #[] #[], .agg #[.int .i64 a0, .int .i64 a1], .agg #[.int .i64 b0, .int .i64 b1]] w fun e w' => e = .returned (.int .i64 (if aheadB a0 a1 b0 b1 then -1 else if aheadB b0 b1 a0 a1 then 1 else 0)) ∧ Below w.heap.size w w' := by
  obtain ⟨x, hx⟩ : ∃ x, aheadB a0 a1 b0 b1 = x := ⟨_, rfl⟩
  obtain ⟨y, hy⟩ : ∃ y, aheadB b0 b1 a0 a1 = y := ⟨_, rfl⟩
  rw [hx, hy]
  have HX := Lib.hid hx
  have HY := Lib.hid hy
  clear hx hy
  go_enter Try.func30, Try.ntmps30
  go_wp2_with fail
  obtain ⟨w2, hw⟩ : ∃ W, (w.alloc (.cells #[.int .i64 a0, .int .i64 a1] 45)).alloc (.cells #[.int .i64 b0, .int .i64 b1] 45) = W := ⟨_, rfl⟩
  rw [hw]
  have hb1 : Below w.heap.size w w2 := by rw [← hw]; exact below_alloc1 (below_alloc1 (Below.refl _ _) _) _
  have ba : w2.heap[w.heap.size]? = some (.cells #[.int .i64 a0, .int .i64 a1] 45 (0, 0)) := by rw [← hw]; exact obj_below ((Below.refl _ _).alloc (Nat.le_refl _) _) (heap_alloc_new w _) (obj_lt (heap_alloc_new w _))
  have bb : w2.heap[w.heap.size + 1]? = some (.cells #[.int .i64 b0, .int .i64 b1] 45 (0, 0)) := by rw [← hw]; have h := heap_alloc_new (w.alloc (.cells #[.int .i64 a0, .int .i64 a1] 45)) (.cells #[.int .i64 b0, .int .i64 b1] 45); rwa [World.size_alloc] at h
  clear hw
  refine (Ahead_calls a0 a1 b0 b1 _).mono ?_
  rintro e w3 ⟨he, hbn⟩
  rw [HX.out] at he
  subst he
  have hb3 := hb1.trans (hbn.mono hb1.size)
  have ba3 := obj_below hbn ba (obj_lt ba)
  have bb3 := obj_below hbn bb (obj_lt bb)
  have h0 : w3.cell? ⟨w.heap.size, 0, none⟩ = some (.int .i64 a0) := by simp [World.cell?, ba3]
  have h1 : w3.cell? ⟨w.heap.size, 1, none⟩ = some (.int .i64 a1) := by simp [World.cell?, ba3]
  have h2 : w3.cell? ⟨w.heap.size + 1, 0, none⟩ = some (.int .i64 b0) := by simp [World.cell?, bb3]
  have h3 : w3.cell? ⟨w.heap.size + 1, 1, none⟩ = some (.int .i64 b1) := by simp [World.cell?, bb3]
  have hz3 := hb3.size
  clear hbn ba bb ba3 bb3 hb1
  cases x with
  | true =>
    go_wp2_with fail
    go_ret
    exact ⟨rfl, hb3⟩
  | false =>
    go_wp2_with fail
    refine (Ahead_calls b0 b1 a0 a1 _).mono ?_
    rintro e w4 ⟨he, hbn⟩
    rw [HY.out] at he
    subst he
    have hb4 := hb3.trans (hbn.mono hz3)
    clear hbn
    cases y with
    | true =>
      go_wp2_with fail
      go_ret
      exact ⟨rfl, hb4⟩
    | false =>
      go_wp2_with fail
      go_ret
      exact ⟨rfl, hb4⟩
end Go.Proofs.Ytacgkoclammggaa
