
/-
  The document's example of layer 12 (split) answers true. No condition.
-/
import Derived.Test.YtohmcpblagcfeaaLaw12
namespace Go.Proofs.Ytohmcpblagcfeaa
open Go.RowKit
set_option linter.unusedVariables false
set_option maxRecDepth 100000
set_option linter.unusedSimpArgs false

/-- The world behind the four lists of the example. -/
def ex4 (w : World) (t1 t2 : TypeId) : World := ((((w.alloc (.cells #[.int .i32 0] t1)).alloc (.cells #[.int .i32 10] t1)).alloc (.cells #[.int .i32 1] t1)).alloc (.cells #[.int .i32 11] t1)).alloc (.cells #[.slice (some ⟨w.heap.size, 0, none⟩) 1 1, .slice (some ⟨w.heap.size + 1, 0, none⟩) 1 1, .slice (some ⟨w.heap.size + 2, 0, none⟩) 1 1, .slice (some ⟨w.heap.size + 3, 0, none⟩) 1 1] t2)
theorem ex4_below (w : World) (t1 t2 : TypeId) : Below w.heap.size w (ex4 w t1 t2) := by unfold ex4; repeat (first | exact Below.refl _ _ | apply below_alloc1)
theorem ex4_size (w : World) (t1 t2 : TypeId) : (ex4 w t1 t2).heap.size = w.heap.size + 5 := by simp [ex4]
theorem heap_push (w : World) (o : Obj) (b : Nat) (hb : b < w.heap.size) : (w.alloc o).heap[b]? = w.heap[b]? := Below.heap_alloc _ _ _ hb
theorem rows_four (w : World) (t1 t2 : TypeId) : Rows (ex4 w t1 t2) .i32 (some ⟨w.heap.size + 4, 0, none⟩) [[0], [10], [1], [11]] := by
  have hs : ∀ (W : World) (o : Obj) (n : Nat), W.heap.size = n → (W.alloc o).heap[n]? = some o := fun W o n h => by rw [← h]; exact heap_alloc_new W o
  have b0 : (ex4 w t1 t2).heap[w.heap.size]? = some (.cells (nums .i32 [0]).toArray t1 (0, 0)) := by
    unfold ex4
    rw [heap_push _ _ _ (by simp; omega), heap_push _ _ _ (by simp; omega), heap_push _ _ _ (by simp; omega), heap_push _ _ _ (by simp)]
    exact hs _ _ _ rfl
  have b1 : (ex4 w t1 t2).heap[w.heap.size + 1]? = some (.cells (nums .i32 [10]).toArray t1 (0, 0)) := by
    unfold ex4
    rw [heap_push _ _ _ (by simp), heap_push _ _ _ (by simp), heap_push _ _ _ (by simp)]
    exact hs _ _ _ (by simp)
  have b2 : (ex4 w t1 t2).heap[w.heap.size + 2]? = some (.cells (nums .i32 [1]).toArray t1 (0, 0)) := by
    unfold ex4
    rw [heap_push _ _ _ (by simp), heap_push _ _ _ (by simp)]
    exact hs _ _ _ (by simp)
  have b3 : (ex4 w t1 t2).heap[w.heap.size + 3]? = some (.cells (nums .i32 [11]).toArray t1 (0, 0)) := by
    unfold ex4
    rw [heap_push _ _ _ (by simp)]
    exact hs _ _ _ (by simp)
  have hb : (ex4 w t1 t2).heap[w.heap.size + 4]? = some (.cells #[.slice (some ⟨w.heap.size, 0, none⟩) 1 1, .slice (some ⟨w.heap.size + 1, 0, none⟩) 1 1, .slice (some ⟨w.heap.size + 2, 0, none⟩) 1 1, .slice (some ⟨w.heap.size + 3, 0, none⟩) 1 1] t2 (0, 0)) := by
    unfold ex4
    exact hs _ _ _ (by simp)
  refine ⟨by simp, fun j hj => ?_⟩
  simp at hj
  rcases (by omega : j = 0 ∨ j = 1 ∨ j = 2 ∨ j = 3) with rfl | rfl | rfl | rfl
  · exact ⟨_, _, 1, rfl, by rw [add_plain]; exact cell_blk (cs := [_, _, _, _]) hb 0, by simp, Rd.blk b0 (by simp)⟩
  · exact ⟨_, _, 1, rfl, by rw [add_plain]; exact cell_blk (cs := [_, _, _, _]) hb 1, by simp, Rd.blk b1 (by simp)⟩
  · exact ⟨_, _, 1, rfl, by rw [add_plain]; exact cell_blk (cs := [_, _, _, _]) hb 2, by simp, Rd.blk b2 (by simp)⟩
  · exact ⟨_, _, 1, rfl, by rw [add_plain]; exact cell_blk (cs := [_, _, _, _]) hb 3, by simp, Rd.blk b3 (by simp)⟩
theorem chk_four : chkV 1 [[0], [10], [1], [11]] = 0 := by decide
theorem r32_four : ∀ r ∈ [[0], [10], [1], [(11 : Int)]], R32 r := by
  intro r hr x hx
  simp at hr
  rcases hr with rfl | rfl | rfl | rfl <;> simp at hx <;> subst hx <;> omega
theorem choose_four : choose [[0], [10], [1], [11]] 1 [0, 1, 2, 3] (fun i => [(0 : Int), 0].getD i 0) 0 = ⟨[-10], -100, [1, 3], [0, 2], 1⟩ := by kernel_rfl
set_option maxHeartbeats 1600000 in
theorem awake12_calls (w : World) : Calls Try.prog 13 #[] w fun e w' => e = .returned (.bool true) ∧ Below w.heap.size w w' := by
  go_enter Try.func13, Try.ntmps13
  go_wp2_with fail
  refine (Of_calls 1 _ 4 [[0], [10], [1], [11]] _ (rows_four w 21 24) (by simp)).mono ?_
  rintro e w1 ⟨v, f, he, hf, _, hgood, hb⟩
  rw [chk_four] at hf
  subst hf
  obtain ⟨b, rfl, hlo, hit⟩ := hgood rfl
  subst he
  have hb1 : Below w.heap.size w w1 := (ex4_below w _ _).trans (hb.mono (ex4_below w _ _).size)
  have hz1 := hb1.size
  have hwb : w.heap.size ≤ b := Nat.le_trans (ex4_below w _ _).size hlo
  obtain ⟨AI, cI, hitv⟩ := hit.v
  have HI := Lib.hid (show ItV w1 b 1 [[0], [10], [1], [11]] AI cI from hitv)
  have HB1 := Lib.hid hb1
  clear hgood hb hit hlo hitv
  go_wp2_with fail
  obtain ⟨w2, hw2⟩ : ∃ W, (w1.alloc (.cells #[.int .i64 0, .int .i64 1, .int .i64 2, .int .i64 3] 3)).alloc (.cells #[.int .u64 0, .int .u64 0] 50) = W := ⟨_, rfl⟩
  rw [hw2]
  have hb2 : Below w1.heap.size w1 w2 := by rw [← hw2]; exact below_alloc1 (below_alloc1 (Below.refl _ _) _) _
  have hids : Rd w2 .i64 (some ⟨w1.heap.size, 0, none⟩) [0, 1, 2, 3] := by rw [← hw2]; exact (Rd.new w1 .i64 [0, 1, 2, 3] 3 (by simp)).alloc _
  have hd : Rd w2 .u64 (some ⟨w1.heap.size + 1, 0, none⟩) [0, 0] := by
    rw [← hw2]
    have h := Rd.new (w1.alloc (.cells #[.int .i64 0, .int .i64 1, .int .i64 2, .int .i64 3] 3)) .u64 [0, 0] 50 (by simp)
    rw [World.size_alloc] at h
    exact h
  have hz2 : w2.heap.size = w1.heap.size + 2 := by rw [← hw2]; simp
  have HZ2 := Lib.hid hz2
  have HIDS := Lib.hid hids
  have HB2 := Lib.hid hb2
  have hu : U64 [0, 0] := by intro x hx; simp at hx; subst hx; omega
  clear hw2 hids hz2 hb2
  refine (Script_calls _ 2 [0, 0] w2 hd hu (by simp)).mono ?_
  rintro e w3 ⟨v, he, hs, hb3, T, p, rfl⟩
  subst he
  have hz3 := hb3.size
  have HI3 := HI.out.only (S := fun _ => False) (Only.of_below (HB2.out.trans (hb3.mono HB2.out.size))) fun _ _ h => h
  have HIDS3 := HIDS.out.below hb3
  have HB3 := Lib.hid hb3
  have HS := Lib.hid hs
  have H3 := Lib.hid HI3
  have H4 := Lib.hid HIDS3
  clear hd hu hs HI3 HIDS3 hb3
  go_wp2_with fail
  refine (Choose_calls b 1 [[0], [10], [1], [11]] AI cI _ 4 [0, 1, 2, 3] w2.heap.size w3.heap.size _ _ 0 w3 H3.out r32_four H4.out (by simp) (by simp) (At.of_src HS.out) (by omega) (fun q hq h => by have := (HI.out.blk q hq).2; have := h.1; have := HB2.out.size; omega) (fun ad _ e h => by injection e with e; subst e; have := h.1; have := HZ2.out; simp at *; omega) (Nat.le_refl _)).mono ?_
  rintro e w4 ⟨vn, vl, vr, he, hn, hl, hr, _, hon⟩
  rw [choose_four] at he hn hl hr
  subst he
  have hw3 : w.heap.size ≤ w3.heap.size := by have := HB2.out.size; omega
  have hbw4 : Below w.heap.size w w4 := HB1.out.trans ((HB2.out.trans (HB3.out.mono HB2.out.size)).mono hz1 |>.trans (hon.below hw3 fun k hk h => by have := h.1; have := HB2.out.size; omega))
  have HL := Lib.hid hl
  have HR := Lib.hid hr
  have HBW := Lib.hid hbw4
  have hlr := hl.shape
  have hrr := hr.shape
  have hnr := hn.shape
  simp only [List.length_cons, List.length_nil] at hlr hrr hnr
  obtain ⟨Al, cl, rfl, hcl, _⟩ := hlr
  obtain ⟨Ar, cr, rfl, hcr, _⟩ := hrr
  obtain ⟨An, cn, rfl, hcn, _⟩ := hnr
  clear hn hl hr hon hbw4
  go_wp2_with fail
  obtain ⟨w5, hw5⟩ : ∃ W, (w4.alloc (.cells #[.slice An 1 cn, .int .i64 (-100), .slice Al 2 cl, .slice Ar 2 cr, .int .i64 1] 42)).alloc (.cells #[.int .i64 1, .int .i64 3] 3) = W := ⟨_, rfl⟩
  try rw [hw5]
  have hb5 : Below w4.heap.size w4 w5 := by rw [← hw5]; exact below_alloc1 (below_alloc1 (Below.refl _ _) _) _
  have bs5 : w5.heap[w4.heap.size]? = some (.cells #[.slice An 1 cn, .int .i64 (-100), .slice Al 2 cl, .slice Ar 2 cr, .int .i64 1] 42 (0, 0)) := by
    rw [← hw5]; exact obj_below ((Below.refl _ _).alloc (Nat.le_refl _) _) (heap_alloc_new w4 _) (obj_lt (heap_alloc_new w4 _))
  have hi5 : Rd w5 .i64 (some ⟨w4.heap.size + 1, 0, none⟩) [1, 3] := by
    rw [← hw5]
    have h := Rd.new (w4.alloc (.cells #[.slice An 1 cn, .int .i64 (-100), .slice Al 2 cl, .slice Ar 2 cr, .int .i64 1] 42)) .i64 [1, 3] 3 (by simp)
    rw [World.size_alloc] at h
    exact h
  have HB5 := Lib.hid hb5
  have HS5 := Lib.hid bs5
  have HI5 := Lib.hid hi5
  clear hw5 hb5 bs5 hi5
  refine (SameI_calls Al _ cl 2 [1, 3] [1, 3] w5 (HL.out.keep HB5.out).rd.2 HI5.out).mono ?_
  rintro e _ ⟨he, q, rfl⟩
  rw [decide_eq_true rfl] at he
  subst he
  obtain ⟨w6, hw6⟩ : ∃ W, w5.drewN q = W := ⟨_, rfl⟩
  have hb6 : Below w5.heap.size w5 w6 := by rw [← hw6]; exact below_drewN_self _ _
  rw [hw6]
  have hs6 := obj_below hb6 HS5.out (obj_lt HS5.out)
  have HS6 := Lib.hid hs6
  have c2 : w6.cell? ⟨w4.heap.size, 3, none⟩ = some (.slice Ar 2 cr) := by simp [World.cell?, hs6]
  have HB6 := Lib.hid (HB5.out.trans (hb6.mono HB5.out.size))
  clear hw6 hb6 hs6
  go_wp2_with fail
  obtain ⟨w7, hw7⟩ : ∃ W, w6.alloc (.cells #[.int .i64 0, .int .i64 2] 3) = W := ⟨_, rfl⟩
  rw [hw7]
  have hb7 : Below w6.heap.size w6 w7 := by rw [← hw7]; exact below_alloc1 (Below.refl _ _) _
  have hi7 : Rd w7 .i64 (some ⟨w6.heap.size, 0, none⟩) [0, 2] := by rw [← hw7]; exact Rd.new w6 .i64 [0, 2] 3 (by simp)
  have HB7 := Lib.hid (HB6.out.trans (hb7.mono HB6.out.size))
  have HS7 := Lib.hid (obj_below hb7 HS6.out (obj_lt HS6.out))
  have HI7 := Lib.hid hi7
  clear hw7 hb7 hi7 c2
  refine (SameI_calls Ar _ cr 2 [0, 2] [0, 2] w7 (HR.out.keep HB7.out).rd.2 HI7.out).mono ?_
  rintro e _ ⟨he, q2, rfl⟩
  rw [decide_eq_true rfl] at he
  subst he
  have c3 : (w7.drewN q2).cell? ⟨w4.heap.size, 4, none⟩ = some (.int .i64 1) := by
    have h : (w7.drewN q2).heap[w4.heap.size]? = _ := HS7.out
    simp [World.cell?, HS7.out]
  go_wp2_with fail
  go_ret
  exact ⟨rfl, below_drewN (HBW.out.trans (HB7.out.mono HBW.out.size)) q2⟩
end Go.Proofs.Ytohmcpblagcfeaa
