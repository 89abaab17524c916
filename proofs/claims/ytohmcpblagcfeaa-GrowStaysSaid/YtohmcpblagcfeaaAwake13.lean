
/-
  The document's example of layer 13 (grow) answers true; the law's some; Bound. No condition beyond the theorems' heads.
-/
import Derived.Test.YtohmcpblagcfeaaAwake12
import Derived.Test.YtohmcpblagcfeaaGrowR2
namespace Go.Proofs.Ytohmcpblagcfeaa
open Go.RowKit
set_option linter.unusedVariables false
set_option maxRecDepth 100000
set_option linter.unusedSimpArgs false

theorem max2_run (P : Program) (w : World) (k k' : IntKind) (x y : Int) : (Builtin.max2 (.int k x) (.int k' y)).run P w = .ok (.int k (if x < y then y else x)) w := rfl
theorem Bound_calls (n : Nat) (w : World) (hn : n ≤ 1000000) :
    Calls Try.prog 38 #[.int .i64 (n : Int)] w fun e w' => e = .returned (.int .i64 ((8 * (n - 1) : Nat) : Int)) ∧ w = w' := by
  have hmax := @max2_run Try.prog
  rcases Nat.eq_zero_or_pos n with h | h
  · subst h
    go_enter Try.func38, Try.ntmps38
    go_wp2_with fail
    go_ret
    exact ⟨by simp, rfl⟩
  · obtain ⟨m, rfl⟩ : ∃ m, n = m + 1 := ⟨n - 1, by omega⟩
    obtain ⟨q, hq⟩ : ∃ q : Int, ((m + 1 : Nat) : Int) = q := ⟨_, rfl⟩
    have hw1 : IntKind.i64.wrap (q - 1) = (m : Int) := by rw [← hq, i64_w, wrap64_id _ (by omega)]; omega
    have hw2 : IntKind.i64.wrap (8 * (m : Int)) = 8 * (m : Int) := by rw [i64_w]; exact wrap64_id _ (by omega)
    have hm : ¬ (m : Int) < 0 := by omega
    rw [hq, show ((8 * (m + 1 - 1) : Nat) : Int) = 8 * (m : Int) by omega]
    clear hq
    go_enter Try.func38, Try.ntmps38
    go_wp2_with fail
    go_ret
    exact ⟨rfl, rfl⟩
def Some13Post (w : World) (dim : Int) (ls : List (List Int)) (e : Ending) (w' : World) : Prop :=
  ∃ v, e = .returned v ∧ Below w.heap.size w w' ∧ (v = .pointer none ∨ ∃ b, v = .pointer (some ⟨b, 0, none⟩) ∧ w.heap.size ≤ b ∧ It w' b dim.toNat ls ∧ chkV dim ls = 0 ∧ ls.length ≤ 301)
theorem some13_calls (dim : Int) (LA : Option Addr) (lc : Nat) (ls : List (List Int)) (w : World) (ha : Rows w .i32 LA ls) :
    Calls Try.prog 33 #[.int .i64 dim, .slice LA ls.length lc] w (Some13Post w dim ls) := by
  have KA := Lib.hid ha
  clear ha
  go_enter Try.func33, Try.ntmps33
  go_wp2_with fail
  refine (Few_calls LA lc ls _ KA.out).mono ?_
  rintro e _ ⟨few, he, hfew, rfl⟩
  subst he
  have HFEW := Lib.hid hfew
  clear hfew
  cases few with
  | false =>
    go_wp2_with fail
    go_ret
    exact ⟨_, rfl, Below.refl _ _, .inl rfl⟩
  | true =>
    have hl3 := HFEW.out rfl
    go_wp2_with fail
    refine (Of_calls dim LA lc ls _ KA.out (by omega)).mono ?_
    rintro e w2 ⟨v, f, he, hchk, hf0, hf1, hbn⟩
    subst he
    have HCHK := Lib.hid hchk
    have HF0 := Lib.hid hf0
    have HF1 := Lib.hid hf1
    have HBN := Lib.hid hbn
    by_cases hf : f = 0
    · have hf' : (f != 0) = false := by simp [hf]
      have HF := Lib.hid hf
      clear hchk hf0 hf1 hbn hf
      go_wp2_with fail
      go_ret
      obtain ⟨b, hv, hb, hit⟩ := HF1.out HF.out
      exact ⟨_, rfl, HBN.out, .inr ⟨b, hv, hb, hit, by rw [HCHK.out, HF.out], hl3⟩⟩
    · have hf' : (f != 0) = true := by simp [hf]
      clear hchk hf0 hf1 hbn hf
      go_wp2_with fail
      go_ret
      exact ⟨_, rfl, HBN.out, .inl rfl⟩
def ex2G (w : World) (t1 t2 : TypeId) : World := ((w.alloc (.cells #[.int .i32 0] t1)).alloc (.cells #[.int .i32 10] t1)).alloc (.cells #[.slice (some ⟨w.heap.size, 0, none⟩) 1 1, .slice (some ⟨w.heap.size + 1, 0, none⟩) 1 1] t2)
theorem ex2G_below (w : World) (t1 t2 : TypeId) : Below w.heap.size w (ex2G w t1 t2) := by unfold ex2G; repeat (first | exact Below.refl _ _ | apply below_alloc1)
theorem rows_twoG (w : World) (t1 t2 : TypeId) : Rows (ex2G w t1 t2) .i32 (some ⟨w.heap.size + 2, 0, none⟩) [[0], [10]] := by
  have hs : ∀ (W : World) (o : Obj) (n : Nat), W.heap.size = n → (W.alloc o).heap[n]? = some o := fun W o n h => by rw [← h]; exact heap_alloc_new W o
  have b0 : (ex2G w t1 t2).heap[w.heap.size]? = some (.cells (nums .i32 [0]).toArray t1 (0, 0)) := by
    unfold ex2G
    rw [heap_push _ _ _ (by simp; omega), heap_push _ _ _ (by simp)]
    exact hs _ _ _ rfl
  have b1 : (ex2G w t1 t2).heap[w.heap.size + 1]? = some (.cells (nums .i32 [10]).toArray t1 (0, 0)) := by
    unfold ex2G
    rw [heap_push _ _ _ (by simp)]
    exact hs _ _ _ (by simp)
  have hb : (ex2G w t1 t2).heap[w.heap.size + 2]? = some (.cells #[.slice (some ⟨w.heap.size, 0, none⟩) 1 1, .slice (some ⟨w.heap.size + 1, 0, none⟩) 1 1] t2 (0, 0)) := by
    unfold ex2G
    exact hs _ _ _ (by simp)
  refine ⟨by simp, fun j hj => ?_⟩
  simp at hj
  rcases (by omega : j = 0 ∨ j = 1) with rfl | rfl
  · exact ⟨_, _, 1, rfl, by rw [add_plain]; exact cell_blk (cs := [_, _]) hb 0, by simp, Rd.blk b0 (by simp)⟩
  · exact ⟨_, _, 1, rfl, by rw [add_plain]; exact cell_blk (cs := [_, _]) hb 1, by simp, Rd.blk b1 (by simp)⟩
theorem chk_twoG : chkV 1 [[0], [10]] = 0 := by decide
theorem r32_twoG : ∀ r ∈ [[0], [(10 : Int)]], R32 r := by
  intro r hr x hx
  simp at hr
  rcases hr with rfl | rfl <;> simp at hx <;> subst hx <;> omega
def treeTwo : List NodeV := [⟨false, [], [-10], -100, 1, 2⟩, leafN [1], leafN [0]]
theorem grow_two : growF [[0], [10]] 1 1 (fun i => ([] : List Int).getD i 0) 9 (upTo 2) 0 0 = (treeTwo, 2) := by kernel_rfl
set_option maxHeartbeats 3200000 in
theorem awake13_calls (w : World) : Calls Try.prog 30 #[] w fun e w' => e = .returned (.bool true) ∧ Below w.heap.size w w' := by
  go_enter Try.func30, Try.ntmps30
  go_wp2_with fail
  refine (Of_calls 1 _ 2 [[0], [10]] _ (rows_twoG w 21 24) (by simp)).mono ?_
  rintro e w1 ⟨v, f, he, hf, _, hgood, hb⟩
  rw [chk_twoG] at hf
  subst hf
  obtain ⟨b, rfl, hlo, hit⟩ := hgood rfl
  subst he
  have hb1 : Below w.heap.size w w1 := (ex2G_below w _ _).trans (hb.mono (ex2G_below w _ _).size)
  have hz1 := hb1.size
  obtain ⟨AI, cI, hitv⟩ := hit.v
  have HI := Lib.hid (show ItV w1 b 1 [[0], [10]] AI cI from hitv)
  have HB1 := Lib.hid hb1
  clear hgood hb hit hlo hitv hb1
  go_wp2_with fail
  refine (Script_calls none 0 [] w1 (Rd.nil _ _ _) (by intro x hx; simp at hx) (by simp)).mono ?_
  rintro e w3 ⟨v, he, hs, hb3, T, p, rfl⟩
  subst he
  have hz3 := hb3.size
  have HI3 := Lib.hid (HI.out.only (S := fun _ => False) (Only.of_below hb3) fun _ _ h => h)
  have HS := Lib.hid hs
  have HW3 := Lib.hid (HB1.out.trans (hb3.mono hz1))
  clear hs hb3
  go_wp2_with fail
  refine (Tree_calls b 1 [[0], [10]] AI cI 1 1 9 false 0 none 0 0 w1.heap.size w3.heap.size _ _ 0 w3 HI3.out r32_twoG (At.of_src HS.out) (by omega) (by simp) (fun q hq h => by have := (HI.out.blk q hq).2; have := h.1; omega) (Nat.le_refl _)).mono ?_
  rintro e w4 ⟨vN, he, _, hgood⟩
  rw [show treeErr [[0], [(10 : Int)]].length 1 1 9 = 0 from by decide] at he hgood
  obtain ⟨hown, _, hon⟩ := hgood rfl
  rw [show ([[0], [(10 : Int)]] : List (List Int)).length = 2 from rfl, show (1 : Int).toNat = 1 from rfl, show (9 : Int).toNat = 9 from rfl, grow_two] at hown
  subst he
  have hrd := RdN.of_own hown (P := fun _ => False) (fun _ h => h.elim)
  obtain ⟨A, c, rfl, hc⟩ := hrd.shape
  obtain ⟨g, B1, c1, B2, c2, rfl, hg, p0, p1, p2, p3, p4, p5, _⟩ := hrd.at_ 0 (x := ⟨false, [], [-10], -100, 1, 2⟩) rfl
  obtain ⟨g1, D1, d1, D2, d2, e1, _, q0, q1, q2, q3, q4, q5, _⟩ := hrd.at_ 1 (x := leafN [1]) rfl
  obtain ⟨g2, E1, f1, E2, f2, e2, _, r0, r1, r2, r3, r4, r5, _⟩ := hrd.at_ 2 (x := leafN [0]) rfl
  injection e1 with e1; injection e1 with e1; subst e1
  injection e2 with e2; injection e2 with e2; subst e2
  have HW4 := Lib.hid (HW3.out.trans ((hon.below (B := w1.heap.size) hz3 fun q hq h => by have := h.1; omega).mono hz1 |> fun h => ⟨h.os, h.tape, h.output, by have := hon.size; exact this, fun q hq => hon.block q (by omega) fun h => by have := h.1; omega⟩))
  clear hown hon hrd hc
  simp only [treeTwo, leafN, List.length_cons, List.length_nil, Nat.zero_mul, Nat.zero_add, Nat.one_mul] at *
  go_wp2_with fail
  refine (Bound_calls 2 w4 (by omega)).mono ?_
  rintro e _ ⟨he, rfl⟩
  subst he
  go_wp2_with fail
  go_ret
  exact ⟨rfl, HW4.out⟩
end Go.Proofs.Ytohmcpblagcfeaa
