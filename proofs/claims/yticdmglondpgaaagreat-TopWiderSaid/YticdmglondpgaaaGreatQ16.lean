/-
  Texts on the program, part 16: Shape3, Awake12, GrowR2, Awake13.
-/
import Derived.Test.YticdmglondpgaaaGreatQ07
import Derived.Test.YticdmglondpgaaaGreatQ08
import Derived.Test.YticdmglondpgaaaGreatQ15

/-! ## Shape3: Package shape: Leaves, as an iterator. Conditions: the nodes read as the list; no leaf of it is empty. -/
namespace Go.Proofs.YticdmglondpgaaaGreat
open Go.RowKit
set_option linter.unusedVariables false
set_option maxRecDepth 100000
set_option linter.unusedSimpArgs false

attribute [local go_sem] Oper.semAt_some

theorem filt_get {α : Type} (p : α → Bool) {N : List α} {i : Nat} {x : α} (h : N[i]? = some x) (hp : p x = true) : (N.filter p)[((N.take i).filter p).length]? = some x := by
  have hi : i < N.length := (List.getElem?_eq_some_iff.1 h).1
  have e : N = N.take i ++ x :: N.drop (i + 1) := by
    have h1 := List.take_append_drop i N
    rw [List.drop_eq_getElem_cons hi] at h1
    have h2 : N[i] = x := by rw [List.getElem?_eq_getElem hi] at h; injection h
    rw [h2] at h1
    exact h1.symm
  have e2 : N.filter p = (N.take i).filter p ++ (x :: N.drop (i + 1)).filter p := by rw [← List.filter_append, ← e]
  rw [e2, List.getElem?_append_right (Nat.le_refl _), Nat.sub_self, List.filter_cons, if_pos hp]
  rfl
theorem filt_yes {α : Type} (p : α → Bool) {N : List α} {i : Nat} {x : α} (h : N[i]? = some x) (hp : p x = true) : ((N.take (i + 1)).filter p).length = ((N.take i).filter p).length + 1 := by
  rw [List.take_add_one, h, List.filter_append]
  simp [hp]
theorem filt_no {α : Type} (p : α → Bool) {N : List α} {i : Nat} {x : α} (h : N[i]? = some x) (hp : p x = false) : ((N.take (i + 1)).filter p).length = ((N.take i).filter p).length := by
  rw [List.take_add_one, h, List.filter_append]
  simp [hp]
theorem filt_lt {α : Type} (p : α → Bool) {N : List α} {i : Nat} {x : α} (h : N[i]? = some x) (hp : p x = true) : ((N.take i).filter p).length < (N.filter p).length := (List.getElem?_eq_some_iff.1 (filt_get p h hp)).1
/-- What is yielded: a slice. -/
abbrev LX := Option Addr × Nat × Nat
def leavesN (N : List NodeV) : List (List Int) := (N.filter NodeV.leaf).map NodeV.ids
/-- Blocks below n, and the variable bX, stay. -/
def KpL (n : Nat) (bX : Nat) (A B : World) : Prop := Only (fun k => ¬ (k < n ∨ k = bX)) A B
theorem KpL.putObj {W : World} {n bX k : Nat} {o' : Obj} (h0 : n ≤ k) (h1 : k ≠ bX) : KpL n bX W (W.putObj k o') :=
  ⟨rfl, rfl, rfl, by simp, fun j _ hj => World.putObj_heap_other fun e => hj fun h => h.elim (fun h => by omega) fun h => h1 (by omega)⟩
def XL (ls : List (List Int)) (pre : List LX) (x : LX) (A0 W : World) : Prop :=
  x.2.1 = (ls.getD pre.length []).length ∧ x.2.1 ≤ x.2.2 ∧ Own W A0.heap.size 3 .i64 (.slice x.1 x.2.1 x.2.2) (ls.getD pre.length [])
theorem Leaves_calls (A : Option Addr) (n c : Nat) (w : World) :
    Calls Tryz.prog 161 #[.slice A n c] w fun e w' => e = .returned (.func (.func 217) #[] #[.pointer (some ⟨w.heap.size, 0, none⟩)]) ∧ w' = w.alloc (.cells #[.slice A n c] 48) := by
  go_enter Tryz.func161, Tryz.ntmps161
  go_wp2_with fail
  go_ret
  exact ⟨rfl, rfl⟩
set_option maxHeartbeats 3200000 in
theorem leaves_iter (m bX : Nat) (A : Option Addr) (c : Nat) (N : List NodeV) (P : Nat → Prop) (w0 w : World) (hw : Below w0.heap.size w0 w) (hN : RdN w0 P (.slice A N.length c) N) (hl : N.length ≤ 1000000) (h1 : ∀ x ∈ N, x.leaf = true → 1 ≤ x.ids.length ∧ x.ids.length ≤ 1000000) (hbX : w.heap[bX]? = some (.cells #[.slice A N.length c] 48 (0, 0))) :
    IterD Fence.wide m Tryz.prog 217 #[.pointer (some ⟨bX, 0, none⟩)] (fun x : LX => #[.slice x.1 x.2.1 x.2.2]) (fun _ => False) (KpL w0.heap.size bX) (XL (leavesN N))
      (fun xs W => xs.length = (leavesN N).length) (fun xs W => True) (leavesN N).length w := by
  intro lp J Jx W hW hJ hJx hY h0
  refine callsIn_of_wp Tryz.func217 rfl trivial ?_ rfl
  simp only [Tryz.ntmps217, List.size_toArray, List.length_cons, List.length_nil, Nat.reduceAdd, Nat.reduceSub, Array.replicate_succ, Array.replicate_zero, List.push_toArray, List.append_toArray, List.nil_append, List.cons_append]
  have hX0 := obj_below hW hbX (obj_lt hbX)
  have hcX0 : W.cell? ⟨bX, 0, none⟩ = some (.slice A N.length c) := by simp [World.cell?, hX0]
  have hB0 : Below w0.heap.size w0 W := hw.trans (hW.mono hw.size)
  have HJ := Lib.hid hJ
  have HJX := Lib.hid hJx
  have HY := Lib.hid hY
  have H0 := Lib.hid h0
  have HN := Lib.hid hN
  have H1 := Lib.hid h1
  have HX0 := Lib.hid hX0
  obtain ⟨n, hn⟩ : ∃ n, N.length = n := ⟨_, rfl⟩
  rw [hn] at hl hcX0
  have EN := Lib.hid hn
  clear hJ hJx hY h0 hN h1 hX0 hbX hn
  gi_wp2
  gi_loopw [7] (fun v7 wr => ∃ k : Nat, k ≤ n ∧ v7 = .int .i64 k ∧ ∃ pre : List LX, pre.length = ((N.take k).filter NodeV.leaf).length ∧ J pre wr ∧ Below w0.heap.size w0 wr ∧ wr.heap[bX]? = some (.cells #[.slice A N.length c] 48 (0, 0))) (fun v7 _ => n - (intOf v7).toNat)
  case atStart => exact ⟨0, Nat.zero_le _, rfl, [], rfl, H0.out, hB0, HX0.out⟩
  case round =>
    clear HX0 H0 hcX0 hB0
    obtain ⟨k, hk, rfl, pre, hpl, hJs, hB, hX⟩ := hrel
    have HPL := Lib.hid hpl
    have HJS := Lib.hid hJs
    have HX := Lib.hid hX
    have HB := Lib.hid hB
    clear hpl hJs hX hB
    by_cases hlt : k < n
    · have hlt0' : decide ((k : Int) < (n : Int)) = true := decide_eq_true (by omega)
      have hltI : (k : Int) < (n : Int) := by omega
      obtain ⟨x, hx⟩ : ∃ x, N[k]? = some x := ⟨N[k]'(by rw [EN.out]; exact hlt), List.getElem?_eq_getElem _⟩
      obtain ⟨g, B1, c1, B2, c2, rfl, hg, q0, q1, q2, q3, q4, q5, l1, l2⟩ := (HN.out.below HB.out).at_ k hx
      have HXX := Lib.hid hx
      have HL1 := Lib.hid l1
      obtain ⟨xl, hxl⟩ : ∃ y, x.leaf = y := ⟨_, rfl⟩
      obtain ⟨n1, hn1⟩ : ∃ y, x.ids.length = y := ⟨_, rfl⟩
      obtain ⟨n2, hn2⟩ : ∃ y, x.ns.length = y := ⟨_, rfl⟩
      rw [hxl] at q0
      rw [hn1] at q1
      rw [hn2] at q2
      have HXL := Lib.hid hxl
      have HN1 := Lib.hid hn1
      clear hx l1 l2 hxl hn1 hn2
      cases xl with
      | false =>
        have hB2 : Below wr.heap.size wr (wr.alloc (.cells #[.bool false, .slice B1 n1 c1, .slice B2 n2 c2, .int .i64 x.off, .int .i64 x.left, .int .i64 x.right] 113)) := below_alloc1 (Below.refl _ _) _
        have HJ2 := Lib.hid (HJ.out _ _ _ HJS.out (Only.of_below hB2))
        have HB2 := Lib.hid (HB.out.trans (hB2.mono HB.out.size))
        have HX2 := Lib.hid (obj_below hB2 HX.out (obj_lt HX.out))
        clear hB2
        gi_wp2
        refine ⟨trivial, ?_⟩
        gi_wp2
        refine ⟨(fun f h => by cases h), ?_⟩
        gi_wp2
        go_roundw
        case rel => exact ⟨k + 1, by omega, by simp, pre, by rw [HPL.out]; exact (filt_no NodeV.leaf HXX.out HXL.out).symm, HJ2.out, HB2.out, HX2.out⟩
        case measure => simp [intOf]; omega
      | true =>
        have hcl := CloneI_calls B1 c1 x.ids (wr.alloc (.cells #[.bool true, .slice B1 n1 c1, .slice B2 n2 c2, .int .i64 x.off, .int .i64 x.left, .int .i64 x.right] 113)) (HL1.out.2.1.below (below_alloc1 (Below.refl _ _) _)) (H1.out x (List.mem_of_getElem? HXX.out) HXL.out).1 (H1.out x (List.mem_of_getElem? HXX.out) HXL.out).2
        rw [HN1.out] at hcl
        have HCL := Lib.hid hcl
        clear hcl
        have hfl := filt_lt NodeV.leaf HXX.out HXL.out
        have hfg := filt_get NodeV.leaf HXX.out HXL.out
        have hfy := filt_yes NodeV.leaf HXX.out HXL.out
        have hlx : (leavesN N).getD pre.length [] = x.ids := by
          unfold leavesN
          rw [HPL.out, List.getD, List.getElem?_map, hfg]
          rfl
        have hpn : pre.length < (leavesN N).length := by unfold leavesN; rw [List.length_map, HPL.out]; exact hfl
        have HLX := Lib.hid hlx
        have HFY := Lib.hid hfy
        have HPN := Lib.hid hpn
        clear hfl hfg hfy hlx hpn
        gi_wp2
        refine ⟨trivial, (fun h => by cases h), (callsIn_wide.2 HCL.out).mono ?_⟩
        rintro e w2 ⟨v, he, hown, hbn⟩
        subst he
        obtain ⟨A1, c1', rfl, hc1, _⟩ := hown.shape
        have hB2w : Below wr.heap.size wr w2 := (below_alloc1 (Below.refl _ _) _).trans (hbn.mono (by simp))
        have hoA : Only (fun _ => False) wr w2 := Only.of_below hB2w
        have hown' : Own w2 wr.heap.size 3 .i64 (.slice A1 n1 c1') x.ids := by have h := hown.low (base' := wr.heap.size) (by simp); rw [HN1.out] at h; exact h
        obtain ⟨fn, tmps, assign, body, hy, hR⟩ := HY.out pre (A1, n1, c1') wr w2 HJS.out hoA HPN.out ⟨by rw [HLX.out]; exact HN1.out.symm, by rw [HN1.out] at hc1; exact hc1, by rw [HLX.out]; exact hown'⟩
        have HRR := Lib.hid hR
        have HX2 := Lib.hid (obj_below hB2w HX.out (obj_lt HX.out))
        have hB2 : Below w0.heap.size w0 w2 := HB.out.trans (hB2w.mono HB.out.size)
        rw [HN1.out]
        clear hown hown' hoA hbn hR hB2w HX
        gi_wp2
        refine ⟨(fun h => by cases h), HRR.out.mono ?_⟩
        rintro e W3 (⟨rfl, hJ3, hk3⟩ | ⟨rfl, hJx3, hk3⟩)
        · have HJ3 := Lib.hid hJ3
          have hB3 : Below w0.heap.size w0 W3 := hB2.trans (Only.below hk3 hB2.size fun k hk h => h (.inl hk))
          have HX3 := Lib.hid (Only.obj hk3 HX2.out fun h => h (.inr rfl))
          clear hJ3 hk3
          gi_wp2
          go_roundw
          case rel => exact ⟨k + 1, by omega, by simp, _, by rw [List.length_append, HPL.out, HFY.out]; rfl, HJ3.out, hB3, HX3.out⟩
          case measure => simp [intOf]; omega
        · have HJ3 := Lib.hid hJx3
          clear hJx3 hk3
          gi_wp2
          refine bodyPost_ret (results_none rfl _ _ _) rfl ?_
          exact ⟨⟨_, rfl⟩, .inr ⟨_, trivial, HJ3.out⟩⟩
    · obtain rfl : k = n := by omega
      have hlt0' : decide ((k : Int) < (k : Int)) = false := decide_eq_false (by omega)
      gi_wp2
      go_end0
      exact ⟨⟨_, rfl⟩, .inl ⟨_, by rw [HPL.out, ← EN.out, List.take_length]; simp [leavesN], HJS.out⟩⟩
end Go.Proofs.YticdmglondpgaaaGreat

/-! ## Awake12: The document's example of layer 12 (split) answers true. No condition. -/
namespace Go.Proofs.YticdmglondpgaaaGreat
open Go.RowKit
set_option linter.unusedVariables false
set_option maxRecDepth 100000
set_option linter.unusedSimpArgs false

/-- The world behind the four lists of the example. -/
def ex4 (w : World) (t1 t2 : TypeId) : World := ((((w.alloc (.cells #[.int .i32 0] t1)).alloc (.cells #[.int .i32 10] t1)).alloc (.cells #[.int .i32 1] t1)).alloc (.cells #[.int .i32 11] t1)).alloc (.cells #[.slice (some ⟨w.heap.size, 0, none⟩) 1 1, .slice (some ⟨w.heap.size + 1, 0, none⟩) 1 1, .slice (some ⟨w.heap.size + 2, 0, none⟩) 1 1, .slice (some ⟨w.heap.size + 3, 0, none⟩) 1 1] t2)
theorem ex4_below (w : World) (t1 t2 : TypeId) : Below w.heap.size w (ex4 w t1 t2) := by unfold ex4; repeat (first | exact Below.refl _ _ | apply below_alloc1)
theorem ex4_size (w : World) (t1 t2 : TypeId) : (ex4 w t1 t2).heap.size = w.heap.size + 5 := by simp [ex4]
theorem heap_push (w : World) (o : Obj) (b : Nat) (hb : b < w.heap.size) : (w.alloc o).heap[b]? = w.heap[b]? := Below.heap_alloc _ _ _ hb
theorem rows_four (w : World) (t1 t2 : TypeId) : Rows (ex4 w t1 t2) .i32 (some ⟨w.heap.size + 4, 0, none⟩) [[0], [10], [1], [11]] := by
  have hs : ∀ (W : World) (o : Obj) (n : Nat), W.heap.size = n → (W.alloc o).heap[n]? = some o := fun W o n h => by rw [← h]; exact heap_alloc_new W o
  have b0 : (ex4 w t1 t2).heap[w.heap.size]? = some (.cells (nums .i32 [0]).toArray t1 (0, 0)) := by
    unfold ex4
    rw [heap_push _ _ _ (by simp; omega), heap_push _ _ _ (by simp; omega), heap_push _ _ _ (by simp; omega), heap_push _ _ _ (by simp)]
    exact hs _ _ _ rfl
  have b1 : (ex4 w t1 t2).heap[w.heap.size + 1]? = some (.cells (nums .i32 [10]).toArray t1 (0, 0)) := by
    unfold ex4
    rw [heap_push _ _ _ (by simp), heap_push _ _ _ (by simp), heap_push _ _ _ (by simp)]
    exact hs _ _ _ (by simp)
  have b2 : (ex4 w t1 t2).heap[w.heap.size + 2]? = some (.cells (nums .i32 [1]).toArray t1 (0, 0)) := by
    unfold ex4
    rw [heap_push _ _ _ (by simp), heap_push _ _ _ (by simp)]
    exact hs _ _ _ (by simp)
  have b3 : (ex4 w t1 t2).heap[w.heap.size + 3]? = some (.cells (nums .i32 [11]).toArray t1 (0, 0)) := by
    unfold ex4
    rw [heap_push _ _ _ (by simp)]
    exact hs _ _ _ (by simp)
  have hb : (ex4 w t1 t2).heap[w.heap.size + 4]? = some (.cells #[.slice (some ⟨w.heap.size, 0, none⟩) 1 1, .slice (some ⟨w.heap.size + 1, 0, none⟩) 1 1, .slice (some ⟨w.heap.size + 2, 0, none⟩) 1 1, .slice (some ⟨w.heap.size + 3, 0, none⟩) 1 1] t2 (0, 0)) := by
    unfold ex4
    exact hs _ _ _ (by simp)
  refine ⟨by simp, fun j hj => ?_⟩
  simp at hj
  rcases (by omega : j = 0 ∨ j = 1 ∨ j = 2 ∨ j = 3) with rfl | rfl | rfl | rfl
  · exact ⟨_, _, 1, rfl, by rw [add_plain]; exact cell_blk (cs := [_, _, _, _]) hb 0, by simp, Rd.blk b0 (by simp)⟩
  · exact ⟨_, _, 1, rfl, by rw [add_plain]; exact cell_blk (cs := [_, _, _, _]) hb 1, by simp, Rd.blk b1 (by simp)⟩
  · exact ⟨_, _, 1, rfl, by rw [add_plain]; exact cell_blk (cs := [_, _, _, _]) hb 2, by simp, Rd.blk b2 (by simp)⟩
  · exact ⟨_, _, 1, rfl, by rw [add_plain]; exact cell_blk (cs := [_, _, _, _]) hb 3, by simp, Rd.blk b3 (by simp)⟩
theorem chk_four : chkV 1 [[0], [10], [1], [11]] = 0 := by decide
theorem r32_four : ∀ r ∈ [[0], [10], [1], [(11 : Int)]], R32 r := by
  intro r hr x hx
  simp at hr
  rcases hr with rfl | rfl | rfl | rfl <;> simp at hx <;> subst hx <;> omega
theorem choose_four : choose [[0], [10], [1], [11]] 1 [0, 1, 2, 3] (fun i => [(0 : Int), 0].getD i 0) 0 = ⟨[-10], -100, [1, 3], [0, 2], 1⟩ := by kernel_rfl
end Go.Proofs.YticdmglondpgaaaGreat

/-! ## GrowR2: The document's Grow and Tree, walked. Conditions: those of the theorems' heads. -/
namespace Go.Proofs.YticdmglondpgaaaGreat
open Go.RowKit
set_option linter.unusedVariables false
set_option maxRecDepth 100000
set_option linter.unusedSimpArgs false

theorem OwnF.one {α : Type} {f : α → List Value} {q : Nat} {w : World} {base g : Nat} {t : TypeId} {x : α} (h : w.heap[g]? = some (.cells (f x).toArray t (0, 0))) (hb : base ≤ g) (hq : ∀ x, (f x).length = q) : OwnF w base t q f (.slice (some ⟨g, 0, none⟩) 1 1) [x] := by
  refine ⟨by simp [hq], .inr ⟨g, 1, _, rfl, hb, h, Nat.le_refl _, by unfold maxLen; omega, by simp [hq], ?_⟩⟩
  have := hq x
  simp only [List.length_singleton, Nat.one_mul, List.flatMap_cons, List.flatMap_nil, List.append_nil]
  exact List.take_of_length_le (by simp [hq])
end Go.Proofs.YticdmglondpgaaaGreat

/-! ## Awake13: The document's example of layer 13 (grow) answers true; the law's some; Bound. No condition beyond the theorems' heads. -/
namespace Go.Proofs.YticdmglondpgaaaGreat
open Go.RowKit
set_option linter.unusedVariables false
set_option maxRecDepth 100000
set_option linter.unusedSimpArgs false

theorem max2_run (P : Program) (w : World) (k k' : IntKind) (x y : Int) : (Builtin.max2 (.int k x) (.int k' y)).run P w = .ok (.int k (if x < y then y else x)) w := rfl
theorem Bound_calls (n : Nat) (w : World) (hn : n ≤ 1000000) :
    Calls Tryz.prog 21 #[.int .i64 (n : Int)] w fun e w' => e = .returned (.int .i64 ((8 * (n - 1) : Nat) : Int)) ∧ w = w' := by
  have hmax := @max2_run Tryz.prog
  rcases Nat.eq_zero_or_pos n with h | h
  · subst h
    go_enter Tryz.func21, Tryz.ntmps21
    go_wp2_with fail
    go_ret
    exact ⟨by simp, rfl⟩
  · obtain ⟨m, rfl⟩ : ∃ m, n = m + 1 := ⟨n - 1, by omega⟩
    obtain ⟨q, hq⟩ : ∃ q : Int, ((m + 1 : Nat) : Int) = q := ⟨_, rfl⟩
    have hw1 : IntKind.i64.wrap (q - 1) = (m : Int) := by rw [← hq, i64_w, wrap64_id _ (by omega)]; omega
    have hw2 : IntKind.i64.wrap (8 * (m : Int)) = 8 * (m : Int) := by rw [i64_w]; exact wrap64_id _ (by omega)
    have hm : ¬ (m : Int) < 0 := by omega
    rw [hq, show ((8 * (m + 1 - 1) : Nat) : Int) = 8 * (m : Int) by omega]
    clear hq
    go_enter Tryz.func21, Tryz.ntmps21
    go_wp2_with fail
    go_ret
    exact ⟨rfl, rfl⟩
def Some13Post (w : World) (dim : Int) (ls : List (List Int)) (e : Ending) (w' : World) : Prop :=
  ∃ v, e = .returned v ∧ Below w.heap.size w w' ∧ (v = .pointer none ∨ ∃ b, v = .pointer (some ⟨b, 0, none⟩) ∧ w.heap.size ≤ b ∧ It w' b dim.toNat ls ∧ chkV dim ls = 0 ∧ ls.length ≤ 301)
def ex2G (w : World) (t1 t2 : TypeId) : World := ((w.alloc (.cells #[.int .i32 0] t1)).alloc (.cells #[.int .i32 10] t1)).alloc (.cells #[.slice (some ⟨w.heap.size, 0, none⟩) 1 1, .slice (some ⟨w.heap.size + 1, 0, none⟩) 1 1] t2)
theorem ex2G_below (w : World) (t1 t2 : TypeId) : Below w.heap.size w (ex2G w t1 t2) := by unfold ex2G; repeat (first | exact Below.refl _ _ | apply below_alloc1)
theorem rows_twoG (w : World) (t1 t2 : TypeId) : Rows (ex2G w t1 t2) .i32 (some ⟨w.heap.size + 2, 0, none⟩) [[0], [10]] := by
  have hs : ∀ (W : World) (o : Obj) (n : Nat), W.heap.size = n → (W.alloc o).heap[n]? = some o := fun W o n h => by rw [← h]; exact heap_alloc_new W o
  have b0 : (ex2G w t1 t2).heap[w.heap.size]? = some (.cells (nums .i32 [0]).toArray t1 (0, 0)) := by
    unfold ex2G
    rw [heap_push _ _ _ (by simp; omega), heap_push _ _ _ (by simp)]
    exact hs _ _ _ rfl
  have b1 : (ex2G w t1 t2).heap[w.heap.size + 1]? = some (.cells (nums .i32 [10]).toArray t1 (0, 0)) := by
    unfold ex2G
    rw [heap_push _ _ _ (by simp)]
    exact hs _ _ _ (by simp)
  have hb : (ex2G w t1 t2).heap[w.heap.size + 2]? = some (.cells #[.slice (some ⟨w.heap.size, 0, none⟩) 1 1, .slice (some ⟨w.heap.size + 1, 0, none⟩) 1 1] t2 (0, 0)) := by
    unfold ex2G
    exact hs _ _ _ (by simp)
  refine ⟨by simp, fun j hj => ?_⟩
  simp at hj
  rcases (by omega : j = 0 ∨ j = 1) with rfl | rfl
  · exact ⟨_, _, 1, rfl, by rw [add_plain]; exact cell_blk (cs := [_, _]) hb 0, by simp, Rd.blk b0 (by simp)⟩
  · exact ⟨_, _, 1, rfl, by rw [add_plain]; exact cell_blk (cs := [_, _]) hb 1, by simp, Rd.blk b1 (by simp)⟩
theorem chk_twoG : chkV 1 [[0], [10]] = 0 := by decide
theorem r32_twoG : ∀ r ∈ [[0], [(10 : Int)]], R32 r := by
  intro r hr x hx
  simp at hr
  rcases hr with rfl | rfl <;> simp at hx <;> subst hx <;> omega
def treeTwo : List NodeV := [⟨false, [], [-10], -100, 1, 2⟩, leafN [1], leafN [0]]
theorem grow_two : growF [[0], [10]] 1 1 (fun i => ([] : List Int).getD i 0) 9 (upTo 2) 0 0 = (treeTwo, 2) := by kernel_rfl
end Go.Proofs.YticdmglondpgaaaGreat
