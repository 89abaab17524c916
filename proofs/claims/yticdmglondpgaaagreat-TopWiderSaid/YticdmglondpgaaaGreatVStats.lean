/-
  Package index: Stats. Condition: the forest is grown.
-/
import Derived.Deep.RegionHeld3
import Derived.Deep.MidRow
import Derived.Deep.WholeRow
import Derived.Test.YticdmglondpgaaaGreatVSizes

namespace Go.Proofs.YticdmglondpgaaaGreat
open Go.RowKit
set_option linter.unusedVariables false
set_option maxRecDepth 100000
set_option linter.unusedSimpArgs false

attribute [local go_sem] Oper.semAt_some max2_runD

theorem only_setCells (b : Nat) : ∀ (vs : List Value) (o : Nat) (w : World), Only (· = b) w (w.setCells b o vs)
  | [], o, w => ⟨rfl, rfl, rfl, Nat.le_refl _, fun _ _ _ => rfl⟩
  | v :: vs, o, w => by
    show Only (· = b) w ((w.setCell ⟨b, o, none⟩ v).setCells b (o + 1) vs)
    exact (only_set w b o v).trans (only_setCells b vs (o + 1) _)
theorem step_alloc {P : Program} {w : World} {ops : Array Oper} {o : Oper} {a : Act} {K : Act → World → Prop} {Q : Exit → Act → World → Prop} {E: Prop} (hgd : o.guard = none) (t : TypeId) (hop : o.op = Op.alloc t)
    (z : Value) (n : Nat) (cs : Array Value) (hinfo : (P.info? t).map (fun i => (i.zero, i.size)) = some (some z, n)) (hzc : z.cells = cs)
    (h : ∀ w', w'.heap[w.heap.size]? = some (.cells cs t (0, 0)) → Below w.heap.size w w' → K (a.put o.dst (.pointer (some ⟨w.heap.size, 0, none⟩))) w') :
    if Region.wanted o (yielded ops a.tmps) = true then Oper.wp P o a w K Q else E := by
  have hw : Region.wanted o (yielded ops a.tmps) = true := by simp [Region.wanted, hgd]
  rw [if_pos hw]
  subst hzc
  unfold Oper.wp
  simp [execOp, hop, (Go.zero_of_info hinfo).1, Result.andThen, Instr.alloc]
  exact h _ (heap_alloc_new w _) ((Below.refl _ _).alloc (Nat.le_refl _) _)
theorem step_store {P : Program} {w : World} {ops : Array Oper} {o : Oper} {a : Act} {K : Act → World → Prop} {Q : Exit → Act → World → Prop} {E: Prop} (hgd : o.guard = none) (t : TypeId) (x y : Operand) (hop : o.op = Op.store t x y)
    (b : Nat) (v0 v1 v2 v3 v4 v5 v6 : Value) (u0 u1 u2 u3 u4 u5 u6 : Value) (e : TypeId) (hx : a.eval x = .pointer (some ⟨b, 0, none⟩)) (hy : a.eval y = .agg #[v0, v1, v2, v3, v4, v5, v6])
    (hb : w.heap[b]? = some (.cells #[u0, u1, u2, u3, u4, u5, u6] e (0, 0))) (hi : (P.info? t).map (·.size) = some 7) (h1 : (#[v0, v1, v2, v3, v4, v5, v6] : Array Value).all (·.oneCell') = true)
    (h : ∀ w', w'.heap[b]? = some (.cells #[v0, v1, v2, v3, v4, v5, v6] e (0, 0)) → Only (· = b) w w' → K (a.put o.dst undef) w') :
    if Region.wanted o (yielded ops a.tmps) = true then Oper.wp P o a w K Q else E := by
  have hw : Region.wanted o (yielded ops a.tmps) = true := by simp [Region.wanted, hgd]
  rw [if_pos hw]
  refine wp_store_mid t x y hop b 0 _ hx hy (fun j hj => ?_) hi h1 (h _ ?_ (only_setCells b _ 0 w))
  · have hj' : j < 7 := hj
    constructor
    · obtain rfl | rfl | rfl | rfl | rfl | rfl | rfl : j = 0 ∨ j = 1 ∨ j = 2 ∨ j = 3 ∨ j = 4 ∨ j = 5 ∨ j = 6 := by omega
      all_goals simp [World.cell?, hb]
    · simp [World.frozen?, hb]
  · exact set_blk (cs := [_, _, _, _, _, _, _]) (set_blk (cs := [_, _, _, _, _, _, _]) (set_blk (cs := [_, _, _, _, _, _, _]) (set_blk (cs := [_, _, _, _, _, _, _]) (set_blk (cs := [_, _, _, _, _, _, _]) (set_blk (cs := [_, _, _, _, _, _, _]) (set_blk (cs := [_, _, _, _, _, _, _]) hb 0 _) 1 _) 2 _) 3 _) 4 _) 5 _) 6 _
theorem below_ofdS {W w1 : World} {n : Nat} (h : w1 = W.drewN n) : Below W.heap.size W w1 := by rw [h]; exact below_drewN_self _ _
def statN (ts : List Tr) : Nat := (ts.map Tr.size).sum
def statL (ts : List Tr) : Nat := (ts.map fun t => t.leaves.length).sum
def statD (ts : List Tr) : Nat := ts.foldl (fun a t => max a t.depth) 0
theorem statN_le {ts : List Tr} {n dim lf dp : Nat} (h : ForestG ts n dim lf dp) (i : Nat) : statN (ts.take i) ≤ 127 * 256 ∧ statL (ts.take i) ≤ 127 * 256 := by
  have h1 : ∀ (l : List Tr), (∀ t ∈ l, t.size ≤ 127 ∧ t.leaves.length ≤ 127) → statN l ≤ 127 * l.length ∧ statL l ≤ 127 * l.length := by
    intro l
    induction l with
    | nil => intro _; simp [statN, statL]
    | cons a l ih =>
      intro hh
      have q1 := ih fun t ht => hh t (List.mem_cons_of_mem _ ht)
      have q2 := hh a List.mem_cons_self
      simp only [statN, statL, List.map_cons, List.sum_cons, List.length_cons] at q1 ⊢
      omega
  have h2 := h1 (ts.take i) fun t ht => by
    have hg := (h.g t (List.mem_of_mem_take ht)).1
    have := hg.size_le
    have := hg.leaves_le.1
    have := hg.n2
    omega
  have h3 := h.t2
  rw [List.length_take] at h2
  omega
def StatsPost (w : World) (n dim : Nat) (ts : List Tr) (e : Ending) (w' : World) : Prop :=
  ∃ z, e = .returned (.agg #[.int .i64 n, .int .i64 dim, .int .i64 ts.length, .int .i64 (statN ts : Nat), .int .i64 (statL ts : Nat), .int .i64 (statD ts : Nat), .int .i64 z]) ∧ Below w.heap.size w w'
set_option maxHeartbeats 6400000 in
set_option maxRecDepth 100000 in
theorem Stats_calls (b dim bI : Nat) (rows : List (List Int)) (lf dp : Nat) (ts : List Tr) (w : World) (hx : IxU w b dim bI rows lf dp ts) (hg : ForestG ts rows.length dim lf dp) :
    Calls Tryz.prog 80 #[.pointer (some ⟨b, 0, none⟩)] w (StatsPost w rows.length dim ts) := by
  have HX := Lib.hid hx
  have HG := Lib.hid hg
  obtain ⟨TA, Tc, hb, hI, hT⟩ := hx
  have hbl := obj_lt hb
  have HB := Lib.hid hb
  have HT := Lib.hid hT
  obtain ⟨n, hn⟩ : ∃ n, rows.length = n := ⟨_, rfl⟩
  have HN := Lib.hid hn
  have HLEN := Lib.hid (fun W (h : Below w.heap.size w W) => hn ▸ Len_calls bI dim rows W (hI.below h))
  obtain ⟨T, hTT⟩ : ∃ T, ts.length = T := ⟨_, rfl⟩
  have HTT := Lib.hid hTT
  rw [hn]
  clear hg hb hI hT hn
  go_enter Tryz.func80, Tryz.ntmps80
  go_wp2_with fail
  obtain ⟨w1, aW⟩ : ∃ W, w.alloc (.cells #[.int .i64 0, .int .i64 0, .int .i64 0, .int .i64 0, .int .i64 0, .int .i64 0, .int .i64 0] 158) = W := ⟨_, rfl⟩
  have ab : Below w.heap.size w w1 := by rw [← aW]; exact below_alloc1 (Below.refl _ _) _
  have ax : w1.heap[w.heap.size]? = some (.cells #[.int .i64 0, .int .i64 0, .int .i64 0, .int .i64 0, .int .i64 0, .int .i64 0, .int .i64 0] 158 (0, 0)) := by rw [← aW]; exact heap_alloc_new _ _
  rw [aW]
  have hbb := obj_below ab HB.out hbl
  have c0 : w1.cell? ⟨b, 0, none⟩ = some (.int .i64 dim) := by simp [World.cell?, hbb, ixC]
  have c1 : w1.cell? ⟨b, 1, none⟩ = some (.pointer (some ⟨bI, 0, none⟩)) := by simp [World.cell?, hbb, ixC]
  have hb1 := obj_lt hbb
  have hself : Below w1.heap.size w1 w1 := Below.refl _ _
  have AB := Lib.hid ab
  have AX := Lib.hid ax
  have KEEP := Lib.hid (fun W (hBx : Below w1.heap.size w1 W) => (show W.cell? ⟨b, 0, none⟩ = some (.int .i64 dim) ∧ W.cell? ⟨b, 1, none⟩ = some (.pointer (some ⟨bI, 0, none⟩)) ∧ Below w1.heap.size w1 W from ⟨cell_below hBx c0 hb1, cell_below hBx c1 hb1, hBx⟩))
  clear aW ab ax hbb
  go_cut [3] (fun s3 wx => ∃ q, s3 = .pointer (some ⟨q, 0, none⟩) ∧ w1.heap.size ≤ q ∧ wx.heap[q]? = some (.cells #[.int .i64 n, .int .i64 dim, .int .i64 0, .int .i64 0, .int .i64 0, .int .i64 0, .int .i64 0] 158 (0, 0)) ∧ Below w1.heap.size w1 wx)
  case first =>
    refine wp_region_held_drew (S := (fun w' => w'.cell? ⟨b, 0, none⟩ = some (.int .i64 dim) ∧ w'.cell? ⟨b, 1, none⟩ = some (.pointer (some ⟨bI, 0, none⟩)) ∧ Below w1.heap.size w1 w')) (by kernel_rfl) ?_ (fun hHeld => ?_)
    · (try dsimp only)
      (first | exact KEEP.out _ (by first | ((repeat (first | assumption | exact Below.refl _ _ | apply below_drew1 | apply below_alloc1)); done)) | go_keep)
    (refine wpAnyH_take (i := 0) (oi := ?_) (v := ?_) ?_ (by kernel_rfl) (by kernel_rfl) (by kernel_rfl) ?_ ?_ (by assumption) ?_; rotate_left 2; (focus (simp only [List.getElem?_toArray, List.getElem?_cons_succ, List.getElem?_cons_zero] <;> with_reducible rfl)); (focus exact fun _ _ _ h => h); (focus (refine Or.inl ⟨by rfl, ?_⟩; intro wR hSw; (try dsimp only at hSw); go_simp <;> with_reducible rfl)))
    (try simp only [Act.put, List.setIfInBounds_toArray, List.set_cons_zero, List.set_cons_succ])
    (refine wpAnyH_take (i := 1) (oi := ?_) (v := ?_) ?_ (by kernel_rfl) (by kernel_rfl) (by kernel_rfl) ?_ ?_ (by assumption) ?_; rotate_left 2; (focus (simp only [List.getElem?_toArray, List.getElem?_cons_succ, List.getElem?_cons_zero] <;> with_reducible rfl)); (focus exact fun _ _ _ h => h); (focus (refine Or.inl ⟨by rfl, ?_⟩; intro wR hSw; (try dsimp only at hSw); go_simp <;> with_reducible rfl)))
    (try simp only [Act.put, List.setIfInBounds_toArray, List.set_cons_zero, List.set_cons_succ])
    (refine wpAnyH_take (i := 2) (oi := ?_) (v := ?_) ?_ (by kernel_rfl) (by kernel_rfl) (by kernel_rfl) ?_ ?_ (by assumption) ?_; rotate_left 2; (focus (simp only [List.getElem?_toArray, List.getElem?_cons_succ, List.getElem?_cons_zero] <;> with_reducible rfl)); (focus exact fun _ _ _ h => h); (focus (refine Or.inl ⟨by rfl, ?_⟩; intro wR hSw; (try dsimp only at hSw); go_simp <;> with_reducible rfl)))
    (try simp only [Act.put, List.setIfInBounds_toArray, List.set_cons_zero, List.set_cons_succ])
    (refine wpAnyH_take (i := 3) (oi := ?_) (v := ?_) ?_ (by kernel_rfl) (by kernel_rfl) (by kernel_rfl) ?_ ?_ (by assumption) ?_; rotate_left 2; (focus (simp only [List.getElem?_toArray, List.getElem?_cons_succ, List.getElem?_cons_zero] <;> with_reducible rfl)); (focus exact fun _ _ _ h => h); (focus (refine Or.inl ⟨by rfl, ?_⟩; intro wR hSw; (try dsimp only at hSw); go_simp <;> with_reducible rfl)))
    (try simp only [Act.put, List.setIfInBounds_toArray, List.set_cons_zero, List.set_cons_succ])
    (refine wpAnyH_take (i := 5) (oi := ?_) (v := ?_) ?_ (by kernel_rfl) (by kernel_rfl) (by kernel_rfl) ?_ ?_ (by assumption) ?_; rotate_left 2; (focus (simp only [List.getElem?_toArray, List.getElem?_cons_succ, List.getElem?_cons_zero] <;> with_reducible rfl)); (focus exact fun _ _ _ h => h); (focus (refine Or.inl ⟨by rfl, ?_⟩; intro wR hSw; (try dsimp only at hSw); go_simp <;> with_reducible rfl)))
    (try simp only [Act.put, List.setIfInBounds_toArray, List.set_cons_zero, List.set_cons_succ])
    (refine wpAnyH_take (i := 6) (oi := ?_) (v := ?_) ?_ (by kernel_rfl) (by kernel_rfl) (by kernel_rfl) ?_ ?_ (by assumption) ?_; rotate_left 2; (focus (simp only [List.getElem?_toArray, List.getElem?_cons_succ, List.getElem?_cons_zero] <;> with_reducible rfl)); (focus exact fun _ _ _ h => h); (focus (refine Or.inl ⟨by rfl, ?_⟩; intro wR hSw; (try dsimp only at hSw); go_simp <;> with_reducible rfl)))
    (try simp only [Act.put, List.setIfInBounds_toArray, List.set_cons_zero, List.set_cons_succ])
    (refine wpAnyH_take (i := 7) (oi := ?_) (v := ?_) ?_ (by kernel_rfl) (by kernel_rfl) (by kernel_rfl) ?_ ?_ (by assumption) ?_; rotate_left 2; (focus (simp only [List.getElem?_toArray, List.getElem?_cons_succ, List.getElem?_cons_zero] <;> with_reducible rfl)); (focus exact fun _ _ _ h => h); (focus (refine Or.inl ⟨by rfl, ?_⟩; intro wR hSw; (try dsimp only at hSw); go_simp <;> with_reducible rfl)))
    (try simp only [Act.put, List.setIfInBounds_toArray, List.set_cons_zero, List.set_cons_succ])
    (refine wpAnyH_take (i := 8) (oi := ?_) (v := ?_) ?_ (by kernel_rfl) (by kernel_rfl) (by kernel_rfl) ?_ ?_ (by assumption) ?_; rotate_left 2; (focus (simp only [List.getElem?_toArray, List.getElem?_cons_succ, List.getElem?_cons_zero] <;> with_reducible rfl)); (focus exact fun _ _ _ h => h); (focus (refine Or.inl ⟨by rfl, ?_⟩; intro wR hSw; (try dsimp only at hSw); go_simp <;> with_reducible rfl)))
    (try simp only [Act.put, List.setIfInBounds_toArray, List.set_cons_zero, List.set_cons_succ])
    refine wpAnyH_ready (rs := [4, 10]) (by kernel_rfl) (by simp) ?_
    refine AllReadyH.cons (o := ?o1) ?e1 (fun K hK => ?b1) (AllReadyH.cons (o := ?o2) ?e2 (fun K hK => ?b2) AllReadyH.nil)
    case e1 => (simp only [List.getElem?_toArray, List.getElem?_cons_succ, List.getElem?_cons_zero] <;> with_reducible rfl)
    case e2 => (simp only [List.getElem?_toArray, List.getElem?_cons_succ, List.getElem?_cons_zero] <;> with_reducible rfl)
    case b1 =>
      go_simp
      go_split_ands
      with_reducible refine Calls.mono (HLEN.out _ (AB.out.trans (Below.mono (B := w1.heap.size) (by first | ((repeat (first | assumption | exact Below.refl _ _ | apply below_drew1 | apply below_alloc1)); done)) AB.out.size))) ?_
      rintro e wa ⟨he, qq, hq⟩
      subst he
      have hbq := below_ofdS hq
      have hBa : Below w1.heap.size w1 wa := Below.after (by first | ((repeat (first | assumption | exact Below.refl _ _ | apply below_drew1 | apply below_alloc1)); done)) hbq
      clear hq
      refine hK.out _ _ ?_ (fun hHeld => ?_)
      · (try dsimp only)
        (first | exact KEEP.out _ (by first | ((repeat (first | assumption | exact Below.refl _ _ | apply below_drew1 | apply below_alloc1)); done)) | go_keep)
      clear hK K
      (try simp only [Act.put, List.setIfInBounds_toArray, List.set_cons_zero, List.set_cons_succ])
      (refine wpAnyH_take (i := 9) (oi := ?_) (v := ?_) ?_ (by kernel_rfl) (by kernel_rfl) (by kernel_rfl) ?_ ?_ (by assumption) ?_; rotate_left 2; (focus (simp only [List.getElem?_toArray, List.getElem?_cons_succ, List.getElem?_cons_zero] <;> with_reducible rfl)); (focus exact fun _ _ _ h => h); (focus (refine Or.inl ⟨by rfl, ?_⟩; intro wR hSw; (try dsimp only at hSw); go_simp <;> with_reducible rfl)))
      (try simp only [Act.put, List.setIfInBounds_toArray, List.set_cons_zero, List.set_cons_succ])
      refine wpAnyH_ready (rs := [10]) (by kernel_rfl) (by simp) ?_
      refine AllReadyH.cons (o := ?_) ?_ (fun K hK => ?_) AllReadyH.nil
      rotate_left 1
      focus (simp only [List.getElem?_toArray, List.getElem?_cons_succ, List.getElem?_cons_zero] <;> with_reducible rfl)
      refine step_alloc (by rfl) 158 (by rfl) (.agg #[.int .i64 0, .int .i64 0, .int .i64 0, .int .i64 0, .int .i64 0, .int .i64 0, .int .i64 0]) 7 _ (by kernel_rfl) rfl ?_
      intro wm hblk hbm
      have hBm : Below w1.heap.size w1 wm := Below.after (by first | ((repeat (first | assumption | exact Below.refl _ _ | apply below_drew1 | apply below_alloc1)); done)) hbm
      have hwm : w1.heap.size ≤ _ := hBa.size
      refine hK.out _ _ ?_ (fun hHeld => ?_)
      · (try dsimp only)
        (first | exact KEEP.out _ (by first | ((repeat (first | assumption | exact Below.refl _ _ | apply below_drew1 | apply below_alloc1)); done)) | go_keep)
      clear hK K
      (try simp only [Act.put, List.setIfInBounds_toArray, List.set_cons_zero, List.set_cons_succ])
      refine wpAnyH_ready (rs := [11]) (by kernel_rfl) (by simp) ?_
      refine AllReadyH.cons (o := ?_) ?_ (fun K hK => ?_) AllReadyH.nil
      rotate_left 1
      focus (simp only [List.getElem?_toArray, List.getElem?_cons_succ, List.getElem?_cons_zero] <;> with_reducible rfl)
      refine step_store (by rfl) 158 (.tmp 3) (.tmp 17) (by rfl) _ _ _ _ _ _ _ _ _ _ _ _ _ _ _ _ (by rfl) (by rfl) hblk (by kernel_rfl) (by simp [Value.oneCell']) ?_
      intro ws hst hon
      have hBs : Below w1.heap.size w1 ws := (hBm).trans (hon.belowW hBm (Nat.le_refl _) fun k hk e => by omega)
      refine hK.out _ _ ?_ (fun hHeld => ?_)
      · (try dsimp only)
        (first | exact KEEP.out _ (by first | ((repeat (first | assumption | exact Below.refl _ _ | apply below_drew1 | apply below_alloc1)); done)) | go_keep)
      clear hK K
      (try simp only [Act.put, List.setIfInBounds_toArray, List.set_cons_zero, List.set_cons_succ])
      refine wpAnyH_done (by kernel_rfl) ?_ _
      go_wp2_with fail
      go_meet
      exact ⟨_, rfl, by omega, hst, hBs⟩
    case b2 =>
      refine step_alloc (by rfl) 158 (by rfl) (.agg #[.int .i64 0, .int .i64 0, .int .i64 0, .int .i64 0, .int .i64 0, .int .i64 0, .int .i64 0]) 7 _ (by kernel_rfl) rfl ?_
      intro wm hblk hbm
      have hBm : Below w1.heap.size w1 wm := Below.after (by first | ((repeat (first | assumption | exact Below.refl _ _ | apply below_drew1 | apply below_alloc1)); done)) hbm
      have hwm : w1.heap.size ≤ w1.drew.heap.size := Nat.le_refl _
      refine hK.out _ _ ?_ (fun hHeld => ?_)
      · (try dsimp only)
        (first | exact KEEP.out _ (by first | ((repeat (first | assumption | exact Below.refl _ _ | apply below_drew1 | apply below_alloc1)); done)) | go_keep)
      clear hK K
      (try simp only [Act.put, List.setIfInBounds_toArray, List.set_cons_zero, List.set_cons_succ])
      refine wpAnyH_ready (rs := [4]) (by kernel_rfl) (by simp) ?_
      refine AllReadyH.cons (o := ?_) ?_ (fun K hK => ?_) AllReadyH.nil
      rotate_left 1
      focus (simp only [List.getElem?_toArray, List.getElem?_cons_succ, List.getElem?_cons_zero] <;> with_reducible rfl)
      go_simp
      go_split_ands
      with_reducible refine Calls.mono (HLEN.out _ (AB.out.trans (Below.mono (B := w1.heap.size) (by first | ((repeat (first | assumption | exact Below.refl _ _ | apply below_drew1 | apply below_alloc1)); done)) AB.out.size))) ?_
      rintro e wa ⟨he, qq, hq⟩
      subst he
      have hbq := below_ofdS hq
      have hBa : Below w1.heap.size w1 wa := Below.after (by first | ((repeat (first | assumption | exact Below.refl _ _ | apply below_drew1 | apply below_alloc1)); done)) hbq
      clear hq
      replace hblk := obj_below hbq hblk (obj_lt hblk)
      refine hK.out _ _ ?_ (fun hHeld => ?_)
      · (try dsimp only)
        (first | exact KEEP.out _ (by first | ((repeat (first | assumption | exact Below.refl _ _ | apply below_drew1 | apply below_alloc1)); done)) | go_keep)
      clear hK K
      (try simp only [Act.put, List.setIfInBounds_toArray, List.set_cons_zero, List.set_cons_succ])
      (refine wpAnyH_take (i := 9) (oi := ?_) (v := ?_) ?_ (by kernel_rfl) (by kernel_rfl) (by kernel_rfl) ?_ ?_ (by assumption) ?_; rotate_left 2; (focus (simp only [List.getElem?_toArray, List.getElem?_cons_succ, List.getElem?_cons_zero] <;> with_reducible rfl)); (focus exact fun _ _ _ h => h); (focus (refine Or.inl ⟨by rfl, ?_⟩; intro wR hSw; (try dsimp only at hSw); go_simp <;> with_reducible rfl)))
      (try simp only [Act.put, List.setIfInBounds_toArray, List.set_cons_zero, List.set_cons_succ])
      refine wpAnyH_ready (rs := [11]) (by kernel_rfl) (by simp) ?_
      refine AllReadyH.cons (o := ?_) ?_ (fun K hK => ?_) AllReadyH.nil
      rotate_left 1
      focus (simp only [List.getElem?_toArray, List.getElem?_cons_succ, List.getElem?_cons_zero] <;> with_reducible rfl)
      refine step_store (by rfl) 158 (.tmp 3) (.tmp 17) (by rfl) _ _ _ _ _ _ _ _ _ _ _ _ _ _ _ _ (by rfl) (by rfl) hblk (by kernel_rfl) (by simp [Value.oneCell']) ?_
      intro ws hst hon
      have hBs : Below w1.heap.size w1 ws := (hBa).trans (hon.belowW hBa (Nat.le_refl _) fun k hk e => by omega)
      refine hK.out _ _ ?_ (fun hHeld => ?_)
      · (try dsimp only)
        (first | exact KEEP.out _ (by first | ((repeat (first | assumption | exact Below.refl _ _ | apply below_drew1 | apply below_alloc1)); done)) | go_keep)
      clear hK K
      (try simp only [Act.put, List.setIfInBounds_toArray, List.set_cons_zero, List.set_cons_succ])
      refine wpAnyH_done (by kernel_rfl) ?_ _
      go_wp2_with fail
      go_meet
      exact ⟨_, rfl, by omega, hst, hBs⟩
  case rest =>
    obtain ⟨q, rfl, hq, hblk, hbc⟩ := hcut
    have HBC := Lib.hid hbc
    have HBK := Lib.hid hblk
    have hbb := obj_below (AB.out.trans (hbc.mono AB.out.size)) HB.out hbl
    rw [hTT] at hbb
    have c3 : wc.cell? ⟨b, 6, none⟩ = some (.bool true) := by simp [World.cell?, hbb, ixC]
    have c5 : wc.cell? ⟨b, 5, none⟩ = some (.slice TA T Tc) := by simp [World.cell?, hbb, ixC]
    have k2 : wc.cell? ⟨q, 2, none⟩ = some (.int .i64 0) := by simp [World.cell?, hblk]
    have kf2 : wc.frozen? ⟨q, 2, none⟩ = false := by simp [World.frozen?, hblk]
    have hnb : ¬ q = b := by omega
    have hnb2 : ¬ b = q := by omega
    have hbbl := obj_lt hbb
    have HBB := Lib.hid hbb
    clear hblk hbc hbb c0 c1 KEEP
    go_wp2_with fail
    obtain ⟨w2, hw2⟩ : ∃ X, wc.setCell ⟨q, 2, none⟩ (.int .i64 T) = X := ⟨_, rfl⟩
    have hblk2 : w2.heap[q]? = some (.cells #[.int .i64 n, .int .i64 dim, .int .i64 T, .int .i64 0, .int .i64 0, .int .i64 0, .int .i64 0] 158 (0, 0)) := by rw [← hw2]; exact set_blk (cs := [_, _, _, _, _, _, _]) HBK.out 2 _
    have hb2 : Below w1.heap.size w1 w2 := HBC.out.trans ((show Only (· = q) wc w2 by rw [← hw2]; exact only_set _ _ _ _).belowW HBC.out (Nat.le_refl _) fun k hk e => by omega)
    rw [hw2]
    have H0 := Lib.hid (show w2.heap[q]? = some (.cells #[.int .i64 n, .int .i64 dim, .int .i64 T, .int .i64 (statN (ts.take 0) : Nat), .int .i64 (statL (ts.take 0) : Nat), .int .i64 (statD (ts.take 0) : Nat), .int .i64 0] 158 (0, 0)) ∧ Below w1.heap.size w1 w2 from ⟨hblk2, hb2⟩)
    clear hw2 hblk2 hb2 c3 c5 k2 kf2 hself HBB HBK HBC
    go_loopg [37] T (fun kq v37 w' => kq ≤ T ∧ v37 = .int .i64 ((T - kq : Nat) : Int) ∧ w'.heap[q]? = some (.cells #[.int .i64 n, .int .i64 dim, .int .i64 T, .int .i64 (statN (ts.take (T - kq)) : Nat), .int .i64 (statL (ts.take (T - kq)) : Nat), .int .i64 (statD (ts.take (T - kq)) : Nat), .int .i64 0] 158 (0, 0)) ∧ Below w1.heap.size w1 w')
    case atStart => exact ⟨Nat.le_refl _, by simp, by rw [Nat.sub_self]; exact H0.out⟩
    case round =>
      obtain ⟨hk, rfl, hblk, hbw⟩ := hrel
      clear H0
      have hBw := AB.out.trans (hbw.mono AB.out.size)
      cases gk with
      | zero =>
        rw [Nat.sub_zero, show ts.take T = ts from by rw [← hTT]; exact List.take_length] at hblk
        simp only [Nat.sub_zero]
        have hbb := obj_below hBw HB.out hbl
        have k0 : wr.cell? ⟨b, 0, none⟩ = some (.int .i64 dim) := by simp [World.cell?, hbb, ixC]
        have q0 : wr.cell? ⟨q, 0, none⟩ = some (.int .i64 n) := by simp [World.cell?, hblk]
        have q2 : wr.cell? ⟨q, 2, none⟩ = some (.int .i64 T) := by simp [World.cell?, hblk]
        have q3 : wr.cell? ⟨q, 3, none⟩ = some (.int .i64 (statN ts : Nat)) := by simp [World.cell?, hblk]
        have q6 : wr.cell? ⟨q, 6, none⟩ = some (.int .i64 0) := by simp [World.cell?, hblk]
        have qf : wr.frozen? ⟨q, 6, none⟩ = false := by simp [World.frozen?, hblk]
        have hql := obj_lt hblk
        have hbbl2 := obj_lt hbb
        have HBK := Lib.hid hblk
        have HBW := Lib.hid hbw
        have hself4 : Below wr.heap.size wr wr := Below.refl _ _
        have KP := Lib.hid (fun W (z : Int) (hq5 : W.heap[q]? = some (.cells #[.int .i64 n, .int .i64 dim, .int .i64 T, .int .i64 (statN ts : Nat), .int .i64 (statL ts : Nat), .int .i64 (statD ts : Nat), .int .i64 z] 158 (0, 0))) (hBx : Below w1.heap.size w1 W) => (show W.cell? ⟨b, 0, none⟩ = some (.int .i64 dim) ∧ W.cell? ⟨q, 0, none⟩ = some (.int .i64 n) ∧ W.cell? ⟨q, 2, none⟩ = some (.int .i64 T) ∧ W.cell? ⟨q, 3, none⟩ = some (.int .i64 (statN ts : Nat)) ∧ Below w1.heap.size w1 W from ⟨by have h := obj_below (AB.out.trans (hBx.mono AB.out.size)) HB.out hbl; simp [World.cell?, h, ixC], by simp [World.cell?, hq5], by simp [World.cell?, hq5], by simp [World.cell?, hq5], hBx⟩))
        obtain ⟨sn, hsn⟩ : ∃ x, statN ts = x := ⟨_, rfl⟩
        obtain ⟨sl, hsl⟩ : ∃ x, statL ts = x := ⟨_, rfl⟩
        obtain ⟨sd, hsd⟩ : ∃ x, statD ts = x := ⟨_, rfl⟩
        have HSN := Lib.hid hsn
        have HSL := Lib.hid hsl
        have HSD := Lib.hid hsd
        rw [hsn] at q3 KP HBK
        rw [hsl, hsd] at HBK KP
        clear hbb hblk hbw hBw hsn hsl hsd
        go_wp2_with fail
        refine wp_region_held_drew (S := (fun w' => w'.cell? ⟨b, 0, none⟩ = some (.int .i64 dim) ∧ w'.cell? ⟨q, 0, none⟩ = some (.int .i64 n) ∧ w'.cell? ⟨q, 2, none⟩ = some (.int .i64 T) ∧ w'.cell? ⟨q, 3, none⟩ = some (.int .i64 sn) ∧ Below w1.heap.size w1 w')) (by kernel_rfl) ?_ (fun hHeld => ?_)
        · (try dsimp only)
          (first | assumption | exact KP.out _ _ HBK.out (below_drew1 HBW.out) | exact KP.out _ _ hst (below_drew1 hBs) | go_keep)
        (refine wpAnyH_take (i := 0) (oi := ?_) (v := ?_) ?_ (by kernel_rfl) (by kernel_rfl) (by kernel_rfl) ?_ ?_ (by assumption) ?_; rotate_left 2; (focus (simp only [List.getElem?_toArray, List.getElem?_cons_succ, List.getElem?_cons_zero] <;> with_reducible rfl)); (focus exact fun _ _ _ h => h); (focus (refine Or.inl ⟨by rfl, ?_⟩; intro wR hSw; (try dsimp only at hSw); go_simp <;> with_reducible rfl)))
        (try simp only [Act.put, List.setIfInBounds_toArray, List.set_cons_zero, List.set_cons_succ])
        (refine wpAnyH_take (i := 1) (oi := ?_) (v := ?_) ?_ (by kernel_rfl) (by kernel_rfl) (by kernel_rfl) ?_ ?_ (by assumption) ?_; rotate_left 2; (focus (simp only [List.getElem?_toArray, List.getElem?_cons_succ, List.getElem?_cons_zero] <;> with_reducible rfl)); (focus exact fun _ _ _ h => h); (focus (refine Or.inl ⟨by rfl, ?_⟩; intro wR hSw; (try dsimp only at hSw); go_simp <;> with_reducible rfl)))
        (try simp only [Act.put, List.setIfInBounds_toArray, List.set_cons_zero, List.set_cons_succ])
        (refine wpAnyH_take (i := 2) (oi := ?_) (v := ?_) ?_ (by kernel_rfl) (by kernel_rfl) (by kernel_rfl) ?_ ?_ (by assumption) ?_; rotate_left 2; (focus (simp only [List.getElem?_toArray, List.getElem?_cons_succ, List.getElem?_cons_zero] <;> with_reducible rfl)); (focus exact fun _ _ _ h => h); (focus (refine Or.inl ⟨by rfl, ?_⟩; intro wR hSw; (try dsimp only at hSw); go_simp <;> with_reducible rfl)))
        (try simp only [Act.put, List.setIfInBounds_toArray, List.set_cons_zero, List.set_cons_succ])
        (refine wpAnyH_take (i := 3) (oi := ?_) (v := ?_) ?_ (by kernel_rfl) (by kernel_rfl) (by kernel_rfl) ?_ ?_ (by assumption) ?_; rotate_left 2; (focus (simp only [List.getElem?_toArray, List.getElem?_cons_succ, List.getElem?_cons_zero] <;> with_reducible rfl)); (focus exact fun _ _ _ h => h); (focus (refine Or.inl ⟨by rfl, ?_⟩; intro wR hSw; (try dsimp only at hSw); go_simp <;> with_reducible rfl)))
        (try simp only [Act.put, List.setIfInBounds_toArray, List.set_cons_zero, List.set_cons_succ])
        (refine wpAnyH_take (i := 4) (oi := ?_) (v := ?_) ?_ (by kernel_rfl) (by kernel_rfl) (by kernel_rfl) ?_ ?_ (by assumption) ?_; rotate_left 2; (focus (simp only [List.getElem?_toArray, List.getElem?_cons_succ, List.getElem?_cons_zero] <;> with_reducible rfl)); (focus exact fun _ _ _ h => h); (focus (refine Or.inl ⟨by rfl, ?_⟩; intro wR hSw; (try dsimp only at hSw); go_simp <;> with_reducible rfl)))
        (try simp only [Act.put, List.setIfInBounds_toArray, List.set_cons_zero, List.set_cons_succ])
        (refine wpAnyH_take (i := 5) (oi := ?_) (v := ?_) ?_ (by kernel_rfl) (by kernel_rfl) (by kernel_rfl) ?_ ?_ (by assumption) ?_; rotate_left 2; (focus (simp only [List.getElem?_toArray, List.getElem?_cons_succ, List.getElem?_cons_zero] <;> with_reducible rfl)); (focus exact fun _ _ _ h => h); (focus (refine Or.inl ⟨by rfl, ?_⟩; intro wR hSw; (try dsimp only at hSw); go_simp <;> with_reducible rfl)))
        (try simp only [Act.put, List.setIfInBounds_toArray, List.set_cons_zero, List.set_cons_succ])
        (refine wpAnyH_take (i := 6) (oi := ?_) (v := ?_) ?_ (by kernel_rfl) (by kernel_rfl) (by kernel_rfl) ?_ ?_ (by assumption) ?_; rotate_left 2; (focus (simp only [List.getElem?_toArray, List.getElem?_cons_succ, List.getElem?_cons_zero] <;> with_reducible rfl)); (focus exact fun _ _ _ h => h); (focus (refine Or.inl ⟨by rfl, ?_⟩; intro wR hSw; (try dsimp only at hSw); go_simp <;> with_reducible rfl)))
        (try simp only [Act.put, List.setIfInBounds_toArray, List.set_cons_zero, List.set_cons_succ])
        (refine wpAnyH_take (i := 7) (oi := ?_) (v := ?_) ?_ (by kernel_rfl) (by kernel_rfl) (by kernel_rfl) ?_ ?_ (by assumption) ?_; rotate_left 2; (focus (simp only [List.getElem?_toArray, List.getElem?_cons_succ, List.getElem?_cons_zero] <;> with_reducible rfl)); (focus exact fun _ _ _ h => h); (focus (refine Or.inl ⟨by rfl, ?_⟩; intro wR hSw; (try dsimp only at hSw); go_simp <;> with_reducible rfl)))
        (try simp only [Act.put, List.setIfInBounds_toArray, List.set_cons_zero, List.set_cons_succ])
        (refine wpAnyH_take (i := 8) (oi := ?_) (v := ?_) ?_ (by kernel_rfl) (by kernel_rfl) (by kernel_rfl) ?_ ?_ (by assumption) ?_; rotate_left 2; (focus (simp only [List.getElem?_toArray, List.getElem?_cons_succ, List.getElem?_cons_zero] <;> with_reducible rfl)); (focus exact fun _ _ _ h => h); (focus (refine Or.inl ⟨by rfl, ?_⟩; intro wR hSw; (try dsimp only at hSw); go_simp <;> with_reducible rfl)))
        (try simp only [Act.put, List.setIfInBounds_toArray, List.set_cons_zero, List.set_cons_succ])
        (refine wpAnyH_take (i := 9) (oi := ?_) (v := ?_) ?_ (by kernel_rfl) (by kernel_rfl) (by kernel_rfl) ?_ ?_ (by assumption) ?_; rotate_left 2; (focus (simp only [List.getElem?_toArray, List.getElem?_cons_succ, List.getElem?_cons_zero] <;> with_reducible rfl)); (focus exact fun _ _ _ h => h); (focus (refine Or.inl ⟨by rfl, ?_⟩; intro wR hSw; (try dsimp only at hSw); go_simp <;> with_reducible rfl)))
        (try simp only [Act.put, List.setIfInBounds_toArray, List.set_cons_zero, List.set_cons_succ])
        refine wpAnyH_ready (rs := [10]) (by kernel_rfl) (by simp) ?_
        refine AllReadyH.cons (o := ?_) ?_ (fun K hK => ?_) AllReadyH.nil
        rotate_left 1
        focus (simp only [List.getElem?_toArray, List.getElem?_cons_succ, List.getElem?_cons_zero] <;> with_reducible rfl)
        go_simp
        go_split_ands
        with_reducible refine Calls.mono (LSize_calls _ _ _ _ _) ?_
        rintro e _ ⟨⟨zz, he⟩, rfl⟩
        subst he
        refine hK.out _ _ ?_ (fun hHeld => ?_)
        · (try dsimp only)
          (first | assumption | exact KP.out _ _ HBK.out (below_drew1 HBW.out) | exact KP.out _ _ hst (below_drew1 hBs) | go_keep)
        clear hK K
        (try simp only [Act.put, List.setIfInBounds_toArray, List.set_cons_zero, List.set_cons_succ])
        (refine wpAnyH_take (i := 11) (oi := ?_) (v := ?_) ?_ (by kernel_rfl) (by kernel_rfl) (by kernel_rfl) ?_ ?_ (by assumption) ?_; rotate_left 2; (focus (simp only [List.getElem?_toArray, List.getElem?_cons_succ, List.getElem?_cons_zero] <;> with_reducible rfl)); (focus exact fun _ _ _ h => h); (focus (refine Or.inl ⟨by rfl, ?_⟩; intro wR hSw; (try dsimp only at hSw); go_simp <;> with_reducible rfl)))
        (try simp only [Act.put, List.setIfInBounds_toArray, List.set_cons_zero, List.set_cons_succ])
        refine wpAnyH_ready (rs := [12]) (by kernel_rfl) (by simp) ?_
        refine AllReadyH.cons (o := ?_) ?_ (fun K hK => ?_) AllReadyH.nil
        rotate_left 1
        focus (simp only [List.getElem?_toArray, List.getElem?_cons_succ, List.getElem?_cons_zero] <;> with_reducible rfl)
        go_simp
        have hst : (wr.setCell ⟨q, 6, none⟩ (.int .i64 zz)).heap[q]? = some (.cells #[.int .i64 n, .int .i64 dim, .int .i64 T, .int .i64 sn, .int .i64 sl, .int .i64 sd, .int .i64 zz] 158 (0, 0)) := set_blk (cs := [_, _, _, _, _, _, _]) HBK.out 6 _
        have hBs : Below w1.heap.size w1 (wr.setCell ⟨q, 6, none⟩ (.int .i64 zz)) := HBW.out.trans ((only_set _ _ _ _).belowW HBW.out (Nat.le_refl _) fun k hk e => by omega)
        refine hK.out _ _ ?_ (fun hHeld => ?_)
        · (try dsimp only)
          (first | assumption | exact KP.out _ _ HBK.out (below_drew1 HBW.out) | exact KP.out _ _ hst (below_drew1 hBs) | go_keep)
        clear hK K
        (try simp only [Act.put, List.setIfInBounds_toArray, List.set_cons_zero, List.set_cons_succ])
        refine wpAnyH_done (by kernel_rfl) ?_ _
        obtain ⟨w5, hw5⟩ : ∃ X, (wr.setCell ⟨q, 6, none⟩ (.int .i64 zz)).drew = X := ⟨_, rfl⟩
        have hst5 : w5.heap[q]? = some (.cells #[.int .i64 n, .int .i64 dim, .int .i64 T, .int .i64 sn, .int .i64 sl, .int .i64 sd, .int .i64 zz] 158 (0, 0)) := by rw [← hw5]; exact hst
        have hB5 : Below w1.heap.size w1 w5 := by rw [← hw5]; exact below_drew1 hBs
        rw [hw5]
        have hr5 := obj_below hB5 AX.out (obj_lt AX.out)
        have HST5 := Lib.hid hst5
        have HR5 := Lib.hid hr5
        have HB5 := Lib.hid hB5
        have hne : ¬ q = w.heap.size := by have := obj_lt AX.out; omega
        have hne2 : ¬ w.heap.size = q := by omega
        obtain ⟨rr, hrr⟩ : ∃ x, w.heap.size = x := ⟨_, rfl⟩
        rw [hrr] at hr5 hne hne2 ⊢
        have g0 : w5.cell? ⟨q, 0, none⟩ = some (.int .i64 n) := by simp [World.cell?, hst5]
        have r0 : w5.cell? ⟨rr, 0, none⟩ = some (.int .i64 0) := by simp [World.cell?, hr5]
        have rf0 : w5.frozen? ⟨rr, 0, none⟩ = false := by simp [World.frozen?, hr5]
        have g1 : w5.cell? ⟨q, 1, none⟩ = some (.int .i64 dim) := by simp [World.cell?, hst5]
        have r1 : w5.cell? ⟨rr, 1, none⟩ = some (.int .i64 0) := by simp [World.cell?, hr5]
        have rf1 : w5.frozen? ⟨rr, 1, none⟩ = false := by simp [World.frozen?, hr5]
        have g2 : w5.cell? ⟨q, 2, none⟩ = some (.int .i64 T) := by simp [World.cell?, hst5]
        have r2 : w5.cell? ⟨rr, 2, none⟩ = some (.int .i64 0) := by simp [World.cell?, hr5]
        have rf2 : w5.frozen? ⟨rr, 2, none⟩ = false := by simp [World.frozen?, hr5]
        have g3 : w5.cell? ⟨q, 3, none⟩ = some (.int .i64 sn) := by simp [World.cell?, hst5]
        have r3 : w5.cell? ⟨rr, 3, none⟩ = some (.int .i64 0) := by simp [World.cell?, hr5]
        have rf3 : w5.frozen? ⟨rr, 3, none⟩ = false := by simp [World.frozen?, hr5]
        have g4 : w5.cell? ⟨q, 4, none⟩ = some (.int .i64 sl) := by simp [World.cell?, hst5]
        have r4 : w5.cell? ⟨rr, 4, none⟩ = some (.int .i64 0) := by simp [World.cell?, hr5]
        have rf4 : w5.frozen? ⟨rr, 4, none⟩ = false := by simp [World.frozen?, hr5]
        have g5 : w5.cell? ⟨q, 5, none⟩ = some (.int .i64 sd) := by simp [World.cell?, hst5]
        have r5 : w5.cell? ⟨rr, 5, none⟩ = some (.int .i64 0) := by simp [World.cell?, hr5]
        have rf5 : w5.frozen? ⟨rr, 5, none⟩ = false := by simp [World.frozen?, hr5]
        have g6 : w5.cell? ⟨q, 6, none⟩ = some (.int .i64 zz) := by simp [World.cell?, hst5]
        have r6 : w5.cell? ⟨rr, 6, none⟩ = some (.int .i64 0) := by simp [World.cell?, hr5]
        have rf6 : w5.frozen? ⟨rr, 6, none⟩ = false := by simp [World.frozen?, hr5]
        clear hw5 hst5 hB5 hr5 hst hBs k0 q0 q2 q3 q6 qf KP hself4
        go_wp2_with fail
        obtain ⟨w6, hw6⟩ : ∃ X, (((((((w5.setCell ⟨rr, 0, none⟩ (.int .i64 (n : Nat))).setCell ⟨rr, 1, none⟩ (.int .i64 (dim : Nat))).setCell ⟨rr, 2, none⟩ (.int .i64 (T : Nat))).setCell ⟨rr, 3, none⟩ (.int .i64 (sn : Nat))).setCell ⟨rr, 4, none⟩ (.int .i64 (sl : Nat))).setCell ⟨rr, 5, none⟩ (.int .i64 (sd : Nat))).setCell ⟨rr, 6, none⟩ (.int .i64 zz)) = X := ⟨_, rfl⟩
        have hon6 : Only (· = rr) w5 w6 := by rw [← hw6]; exact (((((((only_set _ _ _ _).trans (only_set _ _ _ _)).trans (only_set _ _ _ _)).trans (only_set _ _ _ _)).trans (only_set _ _ _ _)).trans (only_set _ _ _ _)).trans (only_set _ _ _ _))
        have hst6 : w6.heap[rr]? = some (.cells #[.int .i64 n, .int .i64 dim, .int .i64 T, .int .i64 sn, .int .i64 sl, .int .i64 sd, .int .i64 zz] 158 (0, 0)) := by rw [← hw6]; exact set_blk (cs := [_, _, _, _, _, _, _]) (set_blk (cs := [_, _, _, _, _, _, _]) (set_blk (cs := [_, _, _, _, _, _, _]) (set_blk (cs := [_, _, _, _, _, _, _]) (set_blk (cs := [_, _, _, _, _, _, _]) (set_blk (cs := [_, _, _, _, _, _, _]) (set_blk (cs := [_, _, _, _, _, _, _]) (hrr ▸ HR5.out) 0 _) 1 _) 2 _) 3 _) 4 _) 5 _) 6 _
        rw [hw6]
        have hB6 : Below w.heap.size w w6 := ((AB.out.trans (HB5.out.mono AB.out.size)).trans (hon6.belowW (AB.out.trans (HB5.out.mono AB.out.size)) (Nat.le_refl _) fun k hk e => by omega))
        have s0 : w6.cell? ⟨rr, 0, none⟩ = some (.int .i64 n) := by simp [World.cell?, hst6]
        have s1 : w6.cell? ⟨rr, 1, none⟩ = some (.int .i64 dim) := by simp [World.cell?, hst6]
        have s2 : w6.cell? ⟨rr, 2, none⟩ = some (.int .i64 T) := by simp [World.cell?, hst6]
        have s3 : w6.cell? ⟨rr, 3, none⟩ = some (.int .i64 sn) := by simp [World.cell?, hst6]
        have s4 : w6.cell? ⟨rr, 4, none⟩ = some (.int .i64 sl) := by simp [World.cell?, hst6]
        have s5 : w6.cell? ⟨rr, 5, none⟩ = some (.int .i64 sd) := by simp [World.cell?, hst6]
        have s6 : w6.cell? ⟨rr, 6, none⟩ = some (.int .i64 zz) := by simp [World.cell?, hst6]
        refine bodyPost_ret (v := .agg #[.int .i64 n, .int .i64 dim, .int .i64 T, .int .i64 sn, .int .i64 sl, .int .i64 sd, .int .i64 zz]) ?_ rfl ?_
        · rw [results_cell1 rfl]
          go_simp
        · exact ⟨zz, by rw [HTT.out, HSN.out, HSL.out, HSD.out], hB6⟩
      | succ k1 =>
        obtain ⟨i, hi⟩ : ∃ i, T - (k1 + 1) = i := ⟨_, rfl⟩
        have hi2 : T - k1 = i + 1 := by omega
        have hlt : i < T := by omega
        have hltI : (i : Int) < (T : Int) := by omega
        obtain ⟨t, ht⟩ : ∃ t, ts[i]? = some t := ⟨ts[i]'(by omega), List.getElem?_eq_getElem _⟩
        have e1 : statN (ts.take (i + 1)) = statN (ts.take i) + t.size := by simp [statN, List.take_add_one, ht]
        have e2 : statL (ts.take (i + 1)) = statL (ts.take i) + t.leaves.length := by simp [statL, List.take_add_one, ht]
        have e3 : statD (ts.take (i + 1)) = max (statD (ts.take i)) t.depth := by simp [statD, List.take_add_one, ht]
        rw [hi] at hblk ⊢
        have HI2 := Lib.hid hi2
        obtain ⟨ad, B, cB, rfl, hca0, hrn⟩ := HT.out i t ht
        have hca := cell_below hBw hca0 (World.block_lt_of_cell? _ _ hca0)
        obtain ⟨hgr, hdp⟩ := HG.out.g t (List.mem_of_getElem? ht)
        have hb1 := statN_le HG.out i
        have hlen := Tr.lay_length t 0
        have hsc := SCount_calls B cB (t.lay 0) (fun _ => False) wr (hrn.below hBw) (by have := hgr.size_le; omega) hgr.leafy
        rw [leavesN_lay, hlen] at hsc
        have hde := fun W (h : Below w.heap.size w W) => Depth_calls B cB t (fun _ => False) W (hrn.below h) (by have := hgr.size_le; omega) hgr.deep
        have hsz := hgr.size_le
        have hlv := hgr.leaves_le.1
        obtain ⟨sz, hsz0⟩ : ∃ x, t.size = x := ⟨_, rfl⟩
        obtain ⟨lv, hlv0⟩ : ∃ x, t.leaves.length = x := ⟨_, rfl⟩
        obtain ⟨dt, hdt0⟩ : ∃ x, t.depth = x := ⟨_, rfl⟩
        obtain ⟨a1, ha1⟩ : ∃ x, statN (ts.take i) = x := ⟨_, rfl⟩
        obtain ⟨a2, ha2⟩ : ∃ x, statL (ts.take i) = x := ⟨_, rfl⟩
        obtain ⟨a3, ha3⟩ : ∃ x, statD (ts.take i) = x := ⟨_, rfl⟩
        rw [hsz0] at hsz hca hsc e1 hde
        rw [hlv0] at hlv hsc e2
        rw [hdt0] at hde e3
        rw [ha1] at hblk hb1 e1
        rw [ha2] at hblk hb1 e2
        rw [ha3] at hblk e3
        have E1 := Lib.hid e1
        have E2 := Lib.hid e2
        have E3 := Lib.hid e3
        have HSC := Lib.hid hsc
        have HDE := Lib.hid hde
        have HBK := Lib.hid hblk
        have HBW := Lib.hid hbw
        have hn64 := HG.out.n2
        clear hi ht e1 e2 e3 hsc hde hrn hgr hdp hlen hsz0 hlv0 hdt0 ha1 ha2 ha3 hblk hbw hBw hi2 hca0
        go_wp2_with fail
        refine HSC.out.mono ?_
        rintro e w3 ⟨he, hb3⟩
        subst he
        have hblk3 := obj_below hb3 HBK.out (obj_lt HBK.out)
        have k3 : w3.cell? ⟨q, 3, none⟩ = some (.int .i64 a1) := by simp [World.cell?, hblk3]
        have k4 : w3.cell? ⟨q, 4, none⟩ = some (.int .i64 a2) := by simp [World.cell?, hblk3]
        have kf3 : w3.frozen? ⟨q, 3, none⟩ = false := by simp [World.frozen?, hblk3]
        have kf4 : w3.frozen? ⟨q, 4, none⟩ = false := by simp [World.frozen?, hblk3]
        have wp1 : IntKind.i64.wrap ((a1 : Int) + (sz : Int)) = ((a1 + sz : Nat) : Int) := by rw [i64_w]; exact wrap64_id _ (by omega)
        have wp2 : IntKind.i64.wrap ((a2 : Int) + (lv : Int)) = ((a2 + lv : Nat) : Int) := by rw [i64_w]; exact wrap64_id _ (by omega)
        have HB3 := Lib.hid (HBW.out.trans (hb3.mono HBW.out.size))
        have HBK3 := Lib.hid hblk3
        clear hblk3 hb3 hca
        go_wp2_with fail
        obtain ⟨w4, hw4⟩ : ∃ X, (w3.setCell ⟨q, 3, none⟩ (.int .i64 ((a1 + sz : Nat) : Int))).setCell ⟨q, 4, none⟩ (.int .i64 ((a2 + lv : Nat) : Int)) = X := ⟨_, rfl⟩
        have hblk4 : w4.heap[q]? = some (.cells #[.int .i64 n, .int .i64 dim, .int .i64 T, .int .i64 ((a1 + sz : Nat) : Int), .int .i64 ((a2 + lv : Nat) : Int), .int .i64 a3, .int .i64 0] 158 (0, 0)) := by rw [← hw4]; exact set_blk (cs := [_, _, _, _, _, _, _]) (set_blk (cs := [_, _, _, _, _, _, _]) HBK3.out 3 _) 4 _
        have hb4 : Below w1.heap.size w1 w4 := HB3.out.trans ((show Only (· = q) w3 w4 by rw [← hw4]; exact (only_set _ _ _ _).trans (only_set _ _ _ _)).belowW HB3.out (Nat.le_refl _) fun k hk e => by omega)
        first
          | rw [hw4]
          | (simp only [Int.natCast_add] at hw4; rw [hw4])
        have k5 : w4.cell? ⟨q, 5, none⟩ = some (.int .i64 a3) := by simp [World.cell?, hblk4]
        have kf5 : w4.frozen? ⟨q, 5, none⟩ = false := by simp [World.frozen?, hblk4]
        have hql := obj_lt hblk4
        have HBK4 := Lib.hid hblk4
        have B4 := Lib.hid (AB.out.trans (hb4.mono AB.out.size))
        have HB4 := Lib.hid hb4
        have hself4 : Below w4.heap.size w4 w4 := Below.refl _ _
        have KP := Lib.hid (fun W (hBx : Below w4.heap.size w4 W) => (show W.cell? ⟨q, 5, none⟩ = some (.int .i64 a3) ∧ W.frozen? ⟨q, 5, none⟩ = false ∧ Below w4.heap.size w4 W from ⟨cell_below hBx k5 hql, by have h := obj_below hBx HBK4.out hql; simp [World.frozen?, h], hBx⟩))
        have hmx : (if (a3 : Int) < (dt : Int) then (dt : Int) else (a3 : Int)) = ((max a3 dt : Nat) : Int) := by split <;> omega
        have HMX := Lib.hid hmx
        clear hw4 hblk4 hb4 k3 k4 kf3 kf4 wp1 wp2 HSC HBK HBK3 HB3
        go_region_with (go_at_call 125; go_split_ands; (with_reducible refine Calls.mono (HDE.out _ (B4.out.trans (Below.mono (B := w4.heap.size) (by first | ((repeat (first | assumption | exact Below.refl _ _ | apply below_drew1 | apply below_alloc1)); done)) B4.out.size))) ?_); rintro e wa ⟨he, hbq⟩; subst he; have hBa : Below w4.heap.size w4 wa := Below.after (by first | ((repeat (first | assumption | exact Below.refl _ _ | apply below_drew1 | apply below_alloc1)); done)) hbq; have k5a := cell_below hBa k5 hql; have kf5a : wa.frozen? ⟨q, 5, none⟩ = false := (by have h := obj_below hBa HBK4.out hql; simp [World.frozen?, h]))
        all_goals
          have hcl := hmx
          have hwi : wrap64 ((i : Int) + 1) = ((i + 1 : Nat) : Int) := wrap64_id _ (by have := HG.out.t2; omega)
          have HWI := Lib.hid hwi
          clear hwi
          go_wp2_with fail
          all_goals
           go_roundg k1
           case measure => omega
           case rel =>
             refine ⟨by omega, by rw [HI2.out, ← HWI.out], ?_, HB4.out.trans (((Only.of_below hBa).trans (only_set _ _ _ _)).belowW HB4.out (Nat.le_refl _) fun k hk e => by omega)⟩
             rw [HI2.out, E1.out, E2.out, E3.out]
             first
               | (have hm2 : ((max a3 dt : Nat) : Int) = (dt : Int) := (by omega)
                  rw [hm2]
                  exact set_blk (cs := [_, _, _, _, _, _, _]) (obj_below hBa HBK4.out hql) 5 _)
               | (have hm2 : ((max a3 dt : Nat) : Int) = (a3 : Int) := (by omega)
                  rw [hm2]
                  exact set_blk (cs := [_, _, _, _, _, _, _]) (obj_below hBa HBK4.out hql) 5 _)
end Go.Proofs.YticdmglondpgaaaGreat
