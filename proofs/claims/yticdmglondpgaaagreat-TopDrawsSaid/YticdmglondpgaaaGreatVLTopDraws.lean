/-
  The statement TopDraws: the walk. Conditions: the numbers lie in their kinds' ranges.
-/
import Derived.Deep.RegionHeld3
import Derived.Deep.RegionLaw
import Derived.Test.YticdmglondpgaaaGreatQ06
import Derived.Test.YticdmglondpgaaaGreatQ16
import Derived.Test.YticdmglondpgaaaGreatQ21
import Derived.Test.YticdmglondpgaaaGreatVDrawL
import Derived.Test.YticdmglondpgaaaGreatVDraws

namespace Go.Proofs.YticdmglondpgaaaGreat
open Go.RowKit
set_option linter.unusedVariables false
set_option maxRecDepth 100000
set_option linter.unusedSimpArgs false

attribute [local go_sem] Oper.semAt_some min2_run max2_run

theorem step_mk {P : Program} {w : World} {ops : Array Oper} {o : Oper} {a : Act} {K : Act → World → Prop} {Q : Exit → Act → World → Prop} {E: Prop} (hgd : o.guard = none) (l c : Operand) (t e : TypeId) (hop : o.op = Op.makeSlice t l c)
    (z : Value) (bytes : Nat) (ht : P.underlying t = some (.slice e)) (hinfo : (P.info? e).map (fun i => (i.zero, i.size, i.bytes)) = some (some z, 1, bytes)) (hzc : z.cells = #[z])
    (kl kc : IntKind) (n : Nat) (hl : a.eval l = .int kl n) (hc : a.eval c = .int kc n) (hb : bytes * n ≤ 281474976710656) (h63 : n ≤ 9223372036854775807)
    (h : ∀ w', w'.heap[w.heap.size]? = some (.cells (List.replicate n z).toArray e (0, 0)) → Below w.heap.size w w' → K (a.put o.dst (.slice (some ⟨w.heap.size, 0, none⟩) n n)) w') :
    if Region.wanted o (yielded ops a.tmps) = true then Oper.wp P o a w K Q else E := by
  have hw : Region.wanted o (yielded ops a.tmps) = true := by simp [Region.wanted, hgd]
  rw [if_pos hw]
  obtain ⟨i0, hi, hzz⟩ := Option.map_eq_some_iff.1 hinfo
  simp only [Prod.mk.injEq] at hzz
  obtain ⟨hz0, hz1, hz2⟩ := hzz
  have hb' : (i0.bytes : Int) * (n : Int) ≤ 281474976710656 := by
    rw [hz2]
    have h : ((bytes * n : Nat) : Int) ≤ 281474976710656 := by omega
    rwa [Int.natCast_mul] at h
  have hrun := run_make (P := P) w t e i0 z ht hi hz0 kl kc n n (by omega) (Int.le_refl _) hb' (by omega)
  rw [Int.toNat_natCast, hz1, Nat.mul_one, hzc, madeCells_one] at hrun
  unfold Oper.wp
  simp [execOp, hop, hl, hc, hrun, Result.andThen]
  exact h _ (heap_alloc_new w _) ((Below.refl _ _).alloc (Nat.le_refl _) _)
theorem rd_zero {w : World} {b n : Nat} {e : TypeId} (h : w.heap[b]? = some (.cells (List.replicate n (.int .i32 0)).toArray e (0, 0))) (hn : n ≤ 1024) : Rd w .i32 (some ⟨b, 0, none⟩) (List.replicate n 0) := by
  refine ⟨by simp; omega, fun j hj => ⟨_, rfl, ?_⟩⟩
  have hj' : j < n := by simpa using hj
  rw [add_plain]
  simp [World.cell?, h, hj']
/-- Between two rounds of the range over draws: pre has come; b13: the box of what is gathered. -/
def DrI (b13 lo hi : Nat) (w0 : World) (pre : List Int) (W : World) : Prop :=
  Only (fun k => k = b13 ∨ w0.heap.size ≤ k ∨ Within lo hi k) w0 W ∧ ∃ v, W.heap[b13]? = some (.cells #[v] 24 (0, 0)) ∧ Own W (w0.heap.size + 2) 23 .u64 v pre
set_option maxHeartbeats 6400000 in
set_option maxRecDepth 100000 in
theorem TopDraws_law (dim : Int) (LA : Option Addr) (lc : Nat) (ls : List (List Int)) (t l d : Int) (sc : Bool) (sd : Int) (DA : Option Addr) (dc : Nat) (ds : List Int) (tree : Int) (w : World) (wdim : (Lit.int .i64 dim).wf = true) (hlc : ls.length ≤ lc) (hls : Rows w .i32 LA ls) (hlw : ∀ xs ∈ ls, ∀ n ∈ xs, (Lit.int .i32 n).wf = true)
    (wt : (Lit.int .i64 t).wf = true) (wl : (Lit.int .i64 l).wf = true) (wd : (Lit.int .i64 d).wf = true) (wsd : (Lit.int .u64 sd).wf = true) (hdc : ds.length ≤ dc) (hdr : Rd w .u64 DA ds) (hdu : ∀ n ∈ ds, (Lit.int .u64 n).wf = true) (wtree : (Lit.int .i64 tree).wf = true) :
    Calls Tryz.prog 4 #[.int .i64 dim, .slice LA ls.length lc, .agg #[.int .i64 t, .int .i64 l, .int .i64 d, .bool sc, .int .u64 sd, .slice DA ds.length dc], .int .i64 tree] w fun e w' => e = .returned (.bool true) ∧ Below w.heap.size w w' := by
  have HLS := Lib.hid hls
  have HR32 := Lib.hid (show ∀ r ∈ ls, R32 r from fun r hr => r32_of_wf (hlw r hr))
  have HDR := Lib.hid hdr
  have HU := Lib.hid (u64_of_wf hdu)
  have wt' := i64_of_wf wt
  have wtr' := i64_of_wf wtree
  have wdim' := i64_of_wf wdim
  obtain ⟨m, hm⟩ : ∃ m, ds.length = m := ⟨_, rfl⟩
  have HM := Lib.hid hm
  obtain ⟨n, hn⟩ : ∃ n, ls.length = n := ⟨_, rfl⟩
  have HN := Lib.hid hn
  have HRT := Lib.hid (fun VA vc ys W (h : Below w.heap.size w W) hV hvc => hn ▸ right_calls dim LA lc ls t l d sc sd DA m dc VA vc ys W (hls.below h) hV hvc)
  obtain ⟨kz, hkz⟩ : ∃ kz : Nat, max (min dim 1024) 0 = (kz : Int) := ⟨(max (min dim 1024) 0).toNat, by omega⟩
  have hK1 : kz ≤ 1024 := by omega
  have hKK : (1 ≤ dim ∧ dim ≤ 1024) → dim = kz := by omega
  have HKK := Lib.hid hKK
  rw [hm, hn]
  rw [hn] at hlc
  rw [hm] at hdc
  clear hls hlw hdr hdu wt wl wd wsd wtree wdim hm hn hKK
  refine (callsIn_wide (n := 5)).1 ?_
  refine callsIn_of_wp_marks Tryz.func4 rfl trivial ?_ rfl
  refine wpIn_wide.2 ?_
  simp only [Tryz.ntmps4, List.size_toArray, List.length_cons, List.length_nil, Nat.reduceAdd, Nat.reduceSub, Array.replicate_succ, Array.replicate_zero, List.push_toArray, List.append_toArray, List.nil_append, List.cons_append]
  go_wp2_with fail
  obtain ⟨w1, AW⟩ : ∃ W, w.alloc (.cells #[.int .i64 t, .int .i64 l, .int .i64 d, .bool sc, .int .u64 sd, .slice DA m dc] 28) = W := ⟨_, rfl⟩
  have Ab : Below w.heap.size w w1 := by rw [← AW]; exact below_alloc1 (Below.refl _ _) _
  have Ax : w1.heap[w.heap.size]? = some (.cells #[.int .i64 t, .int .i64 l, .int .i64 d, .bool sc, .int .u64 sd, .slice DA m dc] 28 (0, 0)) := by rw [← AW]; exact heap_alloc_new _ _
  rw [AW]
  clear AW
  refine (lives_calls w1).mono ?_
  rintro e w2 ⟨he, hb2⟩
  subst he
  have B2 := Lib.hid (Ab.trans (hb2.mono Ab.size))
  have hx2 := obj_below hb2 Ax (obj_lt Ax)
  have X2 := Lib.hid hx2
  have p0 : w2.cell? ⟨w.heap.size, 0, none⟩ = some (.int .i64 t) := by simp [World.cell?, hx2]
  have p1 : w2.cell? ⟨w.heap.size, 1, none⟩ = some (.int .i64 l) := by simp [World.cell?, hx2]
  have p2 : w2.cell? ⟨w.heap.size, 2, none⟩ = some (.int .i64 d) := by simp [World.cell?, hx2]
  have p3 : w2.cell? ⟨w.heap.size, 3, none⟩ = some (.bool sc) := by simp [World.cell?, hx2]
  have p4 : w2.cell? ⟨w.heap.size, 4, none⟩ = some (.int .u64 sd) := by simp [World.cell?, hx2]
  have p5 : w2.cell? ⟨w.heap.size, 5, none⟩ = some (.slice DA m dc) := by simp [World.cell?, hx2]
  have lb := obj_lt hx2
  clear Ab Ax hb2 hx2
  have KP := fun W (hBx : Below w2.heap.size w2 W) => (show W.cell? ⟨w.heap.size, 0, none⟩ = some (.int .i64 t) ∧ W.cell? ⟨w.heap.size, 1, none⟩ = some (.int .i64 l) ∧ W.cell? ⟨w.heap.size, 2, none⟩ = some (.int .i64 d) ∧ W.cell? ⟨w.heap.size, 3, none⟩ = some (.bool sc) ∧ W.cell? ⟨w.heap.size, 4, none⟩ = some (.int .u64 sd) ∧ W.cell? ⟨w.heap.size, 5, none⟩ = some (.slice DA m dc) ∧ Below w2.heap.size w2 W from ⟨cell_below hBx p0 lb, cell_below hBx p1 lb, cell_below hBx p2 lb, cell_below hBx p3 lb, cell_below hBx p4 lb, cell_below hBx p5 lb, hBx⟩)
  have hself : Below w2.heap.size w2 w2 := Below.refl _ _
  have HKP := Lib.hid KP
  have case0 : (tree < 0) ∨ (0 ≤ tree ∧ t ≤ tree) ∨ (0 ≤ tree ∧ tree < t) := by omega
  rcases case0 with hc | hc | hc
  · have h1' : decide (tree < 0) = true := decide_eq_true hc
    go_wp2_with fail
    refine wp_region_noPanic ?_
    refine wp_region_held_drew (S := (fun w' => w'.cell? ⟨w.heap.size, 0, none⟩ = some (.int .i64 t) ∧ w'.cell? ⟨w.heap.size, 1, none⟩ = some (.int .i64 l) ∧ w'.cell? ⟨w.heap.size, 2, none⟩ = some (.int .i64 d) ∧ w'.cell? ⟨w.heap.size, 3, none⟩ = some (.bool sc) ∧ w'.cell? ⟨w.heap.size, 4, none⟩ = some (.int .u64 sd) ∧ w'.cell? ⟨w.heap.size, 5, none⟩ = some (.slice DA m dc) ∧ Below w2.heap.size w2 w')) (by kernel_rfl) ?_ (fun hHeld => ?_)
    · (try dsimp only)
      (first | exact HKP.out _ (by first | ((repeat (first | assumption | exact Below.refl _ _ | apply below_drew1 | apply below_alloc1)); done)) | go_keep)
    (refine wpAnyH_take (i := 0) (oi := ?_) (v := ?_) ?_ (by kernel_rfl) (by kernel_rfl) (by kernel_rfl) ?_ ?_ (by assumption) ?_; rotate_left 2; (focus (simp only [List.getElem?_toArray, List.getElem?_cons_succ, List.getElem?_cons_zero] <;> with_reducible rfl)); (focus exact fun _ _ _ h => h); (focus (refine Or.inl ⟨by rfl, ?_⟩; intro wR hSw; (try dsimp only at hSw); go_simp <;> with_reducible rfl)))
    (try simp only [Act.put, List.setIfInBounds_toArray, List.set_cons_zero, List.set_cons_succ])
    (refine wpAnyH_take (i := 1) (oi := ?_) (v := ?_) ?_ (by kernel_rfl) (by kernel_rfl) (by kernel_rfl) ?_ ?_ (by assumption) ?_; rotate_left 2; (focus (simp only [List.getElem?_toArray, List.getElem?_cons_succ, List.getElem?_cons_zero] <;> with_reducible rfl)); (focus exact fun _ _ _ h => h); (focus (refine Or.inl ⟨by rfl, ?_⟩; intro wR hSw; (try dsimp only at hSw); go_simp <;> with_reducible rfl)))
    (try simp only [Act.put, List.setIfInBounds_toArray, List.set_cons_zero, List.set_cons_succ])
    (refine wpAnyH_take (i := 2) (oi := ?_) (v := ?_) ?_ (by kernel_rfl) (by kernel_rfl) (by kernel_rfl) ?_ ?_ (by assumption) ?_; rotate_left 2; (focus (simp only [List.getElem?_toArray, List.getElem?_cons_succ, List.getElem?_cons_zero] <;> with_reducible rfl)); (focus exact fun _ _ _ h => h); (focus (refine Or.inl ⟨by rfl, ?_⟩; intro wR hSw; (try dsimp only at hSw); go_simp <;> with_reducible rfl)))
    (try simp only [Act.put, List.setIfInBounds_toArray, List.set_cons_zero, List.set_cons_succ])
    (refine wpAnyH_take (i := 3) (oi := ?_) (v := ?_) ?_ (by kernel_rfl) (by kernel_rfl) (by kernel_rfl) ?_ ?_ (by assumption) ?_; rotate_left 2; (focus (simp only [List.getElem?_toArray, List.getElem?_cons_succ, List.getElem?_cons_zero] <;> with_reducible rfl)); (focus exact fun _ _ _ h => h); (focus (refine Or.inl ⟨by rfl, ?_⟩; intro wR hSw; (try dsimp only at hSw); go_simp <;> with_reducible rfl)))
    (try simp only [Act.put, List.setIfInBounds_toArray, List.set_cons_zero, List.set_cons_succ])
    (refine wpAnyH_take (i := 4) (oi := ?_) (v := ?_) ?_ (by kernel_rfl) (by kernel_rfl) (by kernel_rfl) ?_ ?_ (by assumption) ?_; rotate_left 2; (focus (simp only [List.getElem?_toArray, List.getElem?_cons_succ, List.getElem?_cons_zero] <;> with_reducible rfl)); (focus exact fun _ _ _ h => h); (focus (refine Or.inl ⟨by rfl, ?_⟩; intro wR hSw; (try dsimp only at hSw); go_simp <;> with_reducible rfl)))
    (try simp only [Act.put, List.setIfInBounds_toArray, List.set_cons_zero, List.set_cons_succ])
    (refine wpAnyH_take (i := 5) (oi := ?_) (v := ?_) ?_ (by kernel_rfl) (by kernel_rfl) (by kernel_rfl) ?_ ?_ (by assumption) ?_; rotate_left 2; (focus (simp only [List.getElem?_toArray, List.getElem?_cons_succ, List.getElem?_cons_zero] <;> with_reducible rfl)); (focus exact fun _ _ _ h => h); (focus (refine Or.inl ⟨by rfl, ?_⟩; intro wR hSw; (try dsimp only at hSw); go_simp <;> with_reducible rfl)))
    (try simp only [Act.put, List.setIfInBounds_toArray, List.set_cons_zero, List.set_cons_succ])
    refine wpAnyH_ready (rs := [6]) (by kernel_rfl) (by simp) ?_
    refine AllReadyH.cons (o := ?_) ?_ (fun K hK => ?_) AllReadyH.nil
    rotate_left 1
    focus (simp only [List.getElem?_toArray, List.getElem?_cons_succ, List.getElem?_cons_zero] <;> with_reducible rfl)
    (refine step_mk (by rfl) (.tmp 24) (.tmp 24) 29 21 (by rfl) (.int .i32 0) 4 Tryz.underlying29 info_i32 rfl .i64 .i64 kz (by rfl) (by rfl) (by omega) (by omega) ?_)
    intro wm hblk hbm
    have hBm : Below w2.heap.size w2 wm := Below.after (by first | ((repeat (first | assumption | exact Below.refl _ _ | apply below_drew1 | apply below_alloc1)); done)) hbm
    have HZ := Lib.hid (rd_zero hblk hK1)
    clear hblk hbm
    refine hK.out _ _ ?_ (fun hHeld => ?_)
    · (try dsimp only)
      (first | exact HKP.out _ (by first | ((repeat (first | assumption | exact Below.refl _ _ | apply below_drew1 | apply below_alloc1)); done)) | go_keep)
    clear hK K
    (try simp only [Act.put, List.setIfInBounds_toArray, List.set_cons_zero, List.set_cons_succ])
    refine wpAnyH_ready (rs := [7]) (by kernel_rfl) (by simp) ?_
    refine AllReadyH.cons (o := ?_) ?_ (fun K hK => ?_) AllReadyH.nil
    rotate_left 1
    focus (simp only [List.getElem?_toArray, List.getElem?_cons_succ, List.getElem?_cons_zero] <;> with_reducible rfl)
    go_simp
    go_split_ands
    have hrt := HRT.out _ kz (List.replicate kz 0) _ (B2.out.trans (hBm.mono B2.out.size)) HZ.out (by simp)
    rw [List.length_replicate] at hrt
    refine Calls.mono hrt ?_
    rintro e w3 ⟨bb, he, hb3, hok⟩
    subst he
    have hB3 : Below w2.heap.size w2 w3 := Below.after hBm hb3
    have HOK := Lib.hid hok
    clear hb3 hok hrt
    refine hK.out _ _ ?_ (fun hHeld => ?_)
    · (try dsimp only)
      (first | exact HKP.out _ (by first | ((repeat (first | assumption | exact Below.refl _ _ | apply below_drew1 | apply below_alloc1)); done)) | go_keep)
    clear hK K
    (try simp only [Act.put, List.setIfInBounds_toArray, List.set_cons_zero, List.set_cons_succ])
    cases bb with
    | false =>
      (refine wpAnyH_take (i := 8) (oi := ?_) (v := ?_) ?_ (by kernel_rfl) (by kernel_rfl) (by kernel_rfl) ?_ ?_ (by assumption) ?_; rotate_left 2; (focus (simp only [List.getElem?_toArray, List.getElem?_cons_succ, List.getElem?_cons_zero] <;> with_reducible rfl)); (focus exact fun _ _ _ h => h); (focus (refine Or.inl ⟨by rfl, ?_⟩; intro wR hSw; (try dsimp only at hSw); go_simp <;> with_reducible rfl)))
      (try simp only [Act.put, List.setIfInBounds_toArray, List.set_cons_zero, List.set_cons_succ])
      (refine wpAnyH_take (i := 9) (oi := ?_) (v := ?_) ?_ (by kernel_rfl) (by kernel_rfl) (by kernel_rfl) ?_ ?_ (by assumption) ?_; rotate_left 2; (focus (simp only [List.getElem?_toArray, List.getElem?_cons_succ, List.getElem?_cons_zero] <;> with_reducible rfl)); (focus exact fun _ _ _ h => h); (focus (refine Or.inl ⟨by rfl, ?_⟩; intro wR hSw; (try dsimp only at hSw); go_simp <;> with_reducible rfl)))
      (try simp only [Act.put, List.setIfInBounds_toArray, List.set_cons_zero, List.set_cons_succ])
      (refine wpAnyH_take (i := 10) (oi := ?_) (v := undef) ?_ (by kernel_rfl) (by kernel_rfl) (by kernel_rfl) ?_ ?_ (by assumption) ?_; rotate_left 1; (focus (simp only [List.getElem?_toArray, List.getElem?_cons_succ, List.getElem?_cons_zero] <;> with_reducible rfl)); (focus exact fun _ _ _ h => h); (focus exact Or.inr ⟨by rfl, rfl⟩))
      (try simp only [Act.put, List.setIfInBounds_toArray, List.set_cons_zero, List.set_cons_succ])
      (refine wpAnyH_take (i := 11) (oi := ?_) (v := undef) ?_ (by kernel_rfl) (by kernel_rfl) (by kernel_rfl) ?_ ?_ (by assumption) ?_; rotate_left 1; (focus (simp only [List.getElem?_toArray, List.getElem?_cons_succ, List.getElem?_cons_zero] <;> with_reducible rfl)); (focus exact fun _ _ _ h => h); (focus exact Or.inr ⟨by rfl, rfl⟩))
      (try simp only [Act.put, List.setIfInBounds_toArray, List.set_cons_zero, List.set_cons_succ])
      (refine wpAnyH_take (i := 12) (oi := ?_) (v := ?_) ?_ (by kernel_rfl) (by kernel_rfl) (by kernel_rfl) ?_ ?_ (by assumption) ?_; rotate_left 2; (focus (simp only [List.getElem?_toArray, List.getElem?_cons_succ, List.getElem?_cons_zero] <;> with_reducible rfl)); (focus exact fun _ _ _ h => h); (focus (refine Or.inl ⟨by rfl, ?_⟩; intro wR hSw; (try dsimp only at hSw); go_simp <;> with_reducible rfl)))
      (try simp only [Act.put, List.setIfInBounds_toArray, List.set_cons_zero, List.set_cons_succ])
      (refine wpAnyH_take (i := 13) (oi := ?_) (v := ?_) ?_ (by kernel_rfl) (by kernel_rfl) (by kernel_rfl) ?_ ?_ (by assumption) ?_; rotate_left 2; (focus (simp only [List.getElem?_toArray, List.getElem?_cons_succ, List.getElem?_cons_zero] <;> with_reducible rfl)); (focus exact fun _ _ _ h => h); (focus (refine Or.inl ⟨by rfl, ?_⟩; intro wR hSw; (try dsimp only at hSw); go_simp <;> with_reducible rfl)))
      (try simp only [Act.put, List.setIfInBounds_toArray, List.set_cons_zero, List.set_cons_succ])
      (refine wpAnyH_take (i := 14) (oi := ?_) (v := undef) ?_ (by kernel_rfl) (by kernel_rfl) (by kernel_rfl) ?_ ?_ (by assumption) ?_; rotate_left 1; (focus (simp only [List.getElem?_toArray, List.getElem?_cons_succ, List.getElem?_cons_zero] <;> with_reducible rfl)); (focus exact fun _ _ _ h => h); (focus exact Or.inr ⟨by rfl, rfl⟩))
      (try simp only [Act.put, List.setIfInBounds_toArray, List.set_cons_zero, List.set_cons_succ])
      (refine wpAnyH_take (i := 15) (oi := ?_) (v := undef) ?_ (by kernel_rfl) (by kernel_rfl) (by kernel_rfl) ?_ ?_ (by assumption) ?_; rotate_left 1; (focus (simp only [List.getElem?_toArray, List.getElem?_cons_succ, List.getElem?_cons_zero] <;> with_reducible rfl)); (focus exact fun _ _ _ h => h); (focus exact Or.inr ⟨by rfl, rfl⟩))
      (try simp only [Act.put, List.setIfInBounds_toArray, List.set_cons_zero, List.set_cons_succ])
      (refine wpAnyH_take (i := 16) (oi := ?_) (v := undef) ?_ (by kernel_rfl) (by kernel_rfl) (by kernel_rfl) ?_ ?_ (by assumption) ?_; rotate_left 1; (focus (simp only [List.getElem?_toArray, List.getElem?_cons_succ, List.getElem?_cons_zero] <;> with_reducible rfl)); (focus exact fun _ _ _ h => h); (focus exact Or.inr ⟨by rfl, rfl⟩))
      (try simp only [Act.put, List.setIfInBounds_toArray, List.set_cons_zero, List.set_cons_succ])
      (refine wpAnyH_take (i := 17) (oi := ?_) (v := undef) ?_ (by kernel_rfl) (by kernel_rfl) (by kernel_rfl) ?_ ?_ (by assumption) ?_; rotate_left 1; (focus (simp only [List.getElem?_toArray, List.getElem?_cons_succ, List.getElem?_cons_zero] <;> with_reducible rfl)); (focus exact fun _ _ _ h => h); (focus exact Or.inr ⟨by rfl, rfl⟩))
      (try simp only [Act.put, List.setIfInBounds_toArray, List.set_cons_zero, List.set_cons_succ])
      (refine wpAnyH_take (i := 18) (oi := ?_) (v := ?_) ?_ (by kernel_rfl) (by kernel_rfl) (by kernel_rfl) ?_ ?_ (by assumption) ?_; rotate_left 2; (focus (simp only [List.getElem?_toArray, List.getElem?_cons_succ, List.getElem?_cons_zero] <;> with_reducible rfl)); (focus exact fun _ _ _ h => h); (focus (refine Or.inl ⟨by rfl, ?_⟩; intro wR hSw; (try dsimp only at hSw); go_simp <;> with_reducible rfl)))
      (try simp only [Act.put, List.setIfInBounds_toArray, List.set_cons_zero, List.set_cons_succ])
      refine wpAnyH_done (by kernel_rfl) ?_ _
      refine NoPanic.normal ?_
      go_wp2_with fail
      exact ⟨_, results_tmp rfl _ _ _, rfl, B2.out.trans (hB3.mono B2.out.size)⟩
    | true =>
      (refine wpAnyH_take (i := 8) (oi := ?_) (v := ?_) ?_ (by kernel_rfl) (by kernel_rfl) (by kernel_rfl) ?_ ?_ (by assumption) ?_; rotate_left 2; (focus (simp only [List.getElem?_toArray, List.getElem?_cons_succ, List.getElem?_cons_zero] <;> with_reducible rfl)); (focus exact fun _ _ _ h => h); (focus (refine Or.inl ⟨by rfl, ?_⟩; intro wR hSw; (try dsimp only at hSw); go_simp <;> with_reducible rfl)))
      (try simp only [Act.put, List.setIfInBounds_toArray, List.set_cons_zero, List.set_cons_succ])
      (refine wpAnyH_take (i := 9) (oi := ?_) (v := ?_) ?_ (by kernel_rfl) (by kernel_rfl) (by kernel_rfl) ?_ ?_ (by assumption) ?_; rotate_left 2; (focus (simp only [List.getElem?_toArray, List.getElem?_cons_succ, List.getElem?_cons_zero] <;> with_reducible rfl)); (focus exact fun _ _ _ h => h); (focus (refine Or.inl ⟨by rfl, ?_⟩; intro wR hSw; (try dsimp only at hSw); go_simp <;> with_reducible rfl)))
      (try simp only [Act.put, List.setIfInBounds_toArray, List.set_cons_zero, List.set_cons_succ])
      (refine wpAnyH_take (i := 10) (oi := ?_) (v := ?_) ?_ (by kernel_rfl) (by kernel_rfl) (by kernel_rfl) ?_ ?_ (by assumption) ?_; rotate_left 2; (focus (simp only [List.getElem?_toArray, List.getElem?_cons_succ, List.getElem?_cons_zero] <;> with_reducible rfl)); (focus exact fun _ _ _ h => h); (focus (refine Or.inl ⟨by rfl, ?_⟩; intro wR hSw; (try dsimp only at hSw); go_simp <;> with_reducible rfl)))
      (try simp only [Act.put, List.setIfInBounds_toArray, List.set_cons_zero, List.set_cons_succ])
      (refine wpAnyH_take (i := 11) (oi := ?_) (v := ?_) ?_ (by kernel_rfl) (by kernel_rfl) (by kernel_rfl) ?_ ?_ (by assumption) ?_; rotate_left 2; (focus (simp only [List.getElem?_toArray, List.getElem?_cons_succ, List.getElem?_cons_zero] <;> with_reducible rfl)); (focus exact fun _ _ _ h => h); (focus (refine Or.inl ⟨by rfl, ?_⟩; intro wR hSw; (try dsimp only at hSw); go_simp <;> with_reducible rfl)))
      (try simp only [Act.put, List.setIfInBounds_toArray, List.set_cons_zero, List.set_cons_succ])
      (refine wpAnyH_take (i := 12) (oi := ?_) (v := ?_) ?_ (by kernel_rfl) (by kernel_rfl) (by kernel_rfl) ?_ ?_ (by assumption) ?_; rotate_left 2; (focus (simp only [List.getElem?_toArray, List.getElem?_cons_succ, List.getElem?_cons_zero] <;> with_reducible rfl)); (focus exact fun _ _ _ h => h); (focus (refine Or.inl ⟨by rfl, ?_⟩; intro wR hSw; (try dsimp only at hSw); go_simp <;> with_reducible rfl)))
      (try simp only [Act.put, List.setIfInBounds_toArray, List.set_cons_zero, List.set_cons_succ])
      (refine wpAnyH_take (i := 13) (oi := ?_) (v := ?_) ?_ (by kernel_rfl) (by kernel_rfl) (by kernel_rfl) ?_ ?_ (by assumption) ?_; rotate_left 2; (focus (simp only [List.getElem?_toArray, List.getElem?_cons_succ, List.getElem?_cons_zero] <;> with_reducible rfl)); (focus exact fun _ _ _ h => h); (focus (refine Or.inl ⟨by rfl, ?_⟩; intro wR hSw; (try dsimp only at hSw); go_simp <;> with_reducible rfl)))
      (try simp only [Act.put, List.setIfInBounds_toArray, List.set_cons_zero, List.set_cons_succ])
      (refine wpAnyH_take (i := 14) (oi := ?_) (v := undef) ?_ (by kernel_rfl) (by kernel_rfl) (by kernel_rfl) ?_ ?_ (by assumption) ?_; rotate_left 1; (focus (simp only [List.getElem?_toArray, List.getElem?_cons_succ, List.getElem?_cons_zero] <;> with_reducible rfl)); (focus exact fun _ _ _ h => h); (focus exact Or.inr ⟨by rfl, rfl⟩))
      (try simp only [Act.put, List.setIfInBounds_toArray, List.set_cons_zero, List.set_cons_succ])
      (refine wpAnyH_take (i := 15) (oi := ?_) (v := undef) ?_ (by kernel_rfl) (by kernel_rfl) (by kernel_rfl) ?_ ?_ (by assumption) ?_; rotate_left 1; (focus (simp only [List.getElem?_toArray, List.getElem?_cons_succ, List.getElem?_cons_zero] <;> with_reducible rfl)); (focus exact fun _ _ _ h => h); (focus exact Or.inr ⟨by rfl, rfl⟩))
      (try simp only [Act.put, List.setIfInBounds_toArray, List.set_cons_zero, List.set_cons_succ])
      (refine wpAnyH_take (i := 16) (oi := ?_) (v := undef) ?_ (by kernel_rfl) (by kernel_rfl) (by kernel_rfl) ?_ ?_ (by assumption) ?_; rotate_left 1; (focus (simp only [List.getElem?_toArray, List.getElem?_cons_succ, List.getElem?_cons_zero] <;> with_reducible rfl)); (focus exact fun _ _ _ h => h); (focus exact Or.inr ⟨by rfl, rfl⟩))
      (try simp only [Act.put, List.setIfInBounds_toArray, List.set_cons_zero, List.set_cons_succ])
      (refine wpAnyH_take (i := 17) (oi := ?_) (v := undef) ?_ (by kernel_rfl) (by kernel_rfl) (by kernel_rfl) ?_ ?_ (by assumption) ?_; rotate_left 1; (focus (simp only [List.getElem?_toArray, List.getElem?_cons_succ, List.getElem?_cons_zero] <;> with_reducible rfl)); (focus exact fun _ _ _ h => h); (focus exact Or.inr ⟨by rfl, rfl⟩))
      (try simp only [Act.put, List.setIfInBounds_toArray, List.set_cons_zero, List.set_cons_succ])
      (refine wpAnyH_take (i := 18) (oi := ?_) (v := ?_) ?_ (by kernel_rfl) (by kernel_rfl) (by kernel_rfl) ?_ ?_ (by assumption) ?_; rotate_left 2; (focus (simp only [List.getElem?_toArray, List.getElem?_cons_succ, List.getElem?_cons_zero] <;> with_reducible rfl)); (focus exact fun _ _ _ h => h); (focus (refine Or.inl ⟨by rfl, ?_⟩; intro wR hSw; (try dsimp only at hSw); go_simp <;> with_reducible rfl)))
      (try simp only [Act.put, List.setIfInBounds_toArray, List.set_cons_zero, List.set_cons_succ])
      refine wpAnyH_done (by kernel_rfl) ?_ _
      refine NoPanic.normal ?_
      go_wp2_with fail
      exact ⟨_, results_tmp rfl _ _ _, rfl, B2.out.trans (hB3.mono B2.out.size)⟩
  · have h1' : decide (tree < 0) = false := decide_eq_false (by omega)
    have h2' : decide (t ≤ tree) = true := decide_eq_true hc.2
    go_wp2_with fail
    refine wp_region_noPanic ?_
    refine wp_region_held_drew (S := (fun w' => w'.cell? ⟨w.heap.size, 0, none⟩ = some (.int .i64 t) ∧ w'.cell? ⟨w.heap.size, 1, none⟩ = some (.int .i64 l) ∧ w'.cell? ⟨w.heap.size, 2, none⟩ = some (.int .i64 d) ∧ w'.cell? ⟨w.heap.size, 3, none⟩ = some (.bool sc) ∧ w'.cell? ⟨w.heap.size, 4, none⟩ = some (.int .u64 sd) ∧ w'.cell? ⟨w.heap.size, 5, none⟩ = some (.slice DA m dc) ∧ Below w2.heap.size w2 w')) (by kernel_rfl) ?_ (fun hHeld => ?_)
    · (try dsimp only)
      (first | exact HKP.out _ (by first | ((repeat (first | assumption | exact Below.refl _ _ | apply below_drew1 | apply below_alloc1)); done)) | go_keep)
    (refine wpAnyH_take (i := 0) (oi := ?_) (v := ?_) ?_ (by kernel_rfl) (by kernel_rfl) (by kernel_rfl) ?_ ?_ (by assumption) ?_; rotate_left 2; (focus (simp only [List.getElem?_toArray, List.getElem?_cons_succ, List.getElem?_cons_zero] <;> with_reducible rfl)); (focus exact fun _ _ _ h => h); (focus (refine Or.inl ⟨by rfl, ?_⟩; intro wR hSw; (try dsimp only at hSw); go_simp <;> with_reducible rfl)))
    (try simp only [Act.put, List.setIfInBounds_toArray, List.set_cons_zero, List.set_cons_succ])
    (refine wpAnyH_take (i := 1) (oi := ?_) (v := ?_) ?_ (by kernel_rfl) (by kernel_rfl) (by kernel_rfl) ?_ ?_ (by assumption) ?_; rotate_left 2; (focus (simp only [List.getElem?_toArray, List.getElem?_cons_succ, List.getElem?_cons_zero] <;> with_reducible rfl)); (focus exact fun _ _ _ h => h); (focus (refine Or.inl ⟨by rfl, ?_⟩; intro wR hSw; (try dsimp only at hSw); go_simp <;> with_reducible rfl)))
    (try simp only [Act.put, List.setIfInBounds_toArray, List.set_cons_zero, List.set_cons_succ])
    (refine wpAnyH_take (i := 2) (oi := ?_) (v := ?_) ?_ (by kernel_rfl) (by kernel_rfl) (by kernel_rfl) ?_ ?_ (by assumption) ?_; rotate_left 2; (focus (simp only [List.getElem?_toArray, List.getElem?_cons_succ, List.getElem?_cons_zero] <;> with_reducible rfl)); (focus exact fun _ _ _ h => h); (focus (refine Or.inl ⟨by rfl, ?_⟩; intro wR hSw; (try dsimp only at hSw); go_simp <;> with_reducible rfl)))
    (try simp only [Act.put, List.setIfInBounds_toArray, List.set_cons_zero, List.set_cons_succ])
    (refine wpAnyH_take (i := 3) (oi := ?_) (v := ?_) ?_ (by kernel_rfl) (by kernel_rfl) (by kernel_rfl) ?_ ?_ (by assumption) ?_; rotate_left 2; (focus (simp only [List.getElem?_toArray, List.getElem?_cons_succ, List.getElem?_cons_zero] <;> with_reducible rfl)); (focus exact fun _ _ _ h => h); (focus (refine Or.inl ⟨by rfl, ?_⟩; intro wR hSw; (try dsimp only at hSw); go_simp <;> with_reducible rfl)))
    (try simp only [Act.put, List.setIfInBounds_toArray, List.set_cons_zero, List.set_cons_succ])
    (refine wpAnyH_take (i := 4) (oi := ?_) (v := ?_) ?_ (by kernel_rfl) (by kernel_rfl) (by kernel_rfl) ?_ ?_ (by assumption) ?_; rotate_left 2; (focus (simp only [List.getElem?_toArray, List.getElem?_cons_succ, List.getElem?_cons_zero] <;> with_reducible rfl)); (focus exact fun _ _ _ h => h); (focus (refine Or.inl ⟨by rfl, ?_⟩; intro wR hSw; (try dsimp only at hSw); go_simp <;> with_reducible rfl)))
    (try simp only [Act.put, List.setIfInBounds_toArray, List.set_cons_zero, List.set_cons_succ])
    (refine wpAnyH_take (i := 5) (oi := ?_) (v := ?_) ?_ (by kernel_rfl) (by kernel_rfl) (by kernel_rfl) ?_ ?_ (by assumption) ?_; rotate_left 2; (focus (simp only [List.getElem?_toArray, List.getElem?_cons_succ, List.getElem?_cons_zero] <;> with_reducible rfl)); (focus exact fun _ _ _ h => h); (focus (refine Or.inl ⟨by rfl, ?_⟩; intro wR hSw; (try dsimp only at hSw); go_simp <;> with_reducible rfl)))
    (try simp only [Act.put, List.setIfInBounds_toArray, List.set_cons_zero, List.set_cons_succ])
    refine wpAnyH_ready (rs := [6]) (by kernel_rfl) (by simp) ?_
    refine AllReadyH.cons (o := ?_) ?_ (fun K hK => ?_) AllReadyH.nil
    rotate_left 1
    focus (simp only [List.getElem?_toArray, List.getElem?_cons_succ, List.getElem?_cons_zero] <;> with_reducible rfl)
    (refine step_mk (by rfl) (.tmp 24) (.tmp 24) 29 21 (by rfl) (.int .i32 0) 4 Tryz.underlying29 info_i32 rfl .i64 .i64 kz (by rfl) (by rfl) (by omega) (by omega) ?_)
    intro wm hblk hbm
    have hBm : Below w2.heap.size w2 wm := Below.after (by first | ((repeat (first | assumption | exact Below.refl _ _ | apply below_drew1 | apply below_alloc1)); done)) hbm
    have HZ := Lib.hid (rd_zero hblk hK1)
    clear hblk hbm
    refine hK.out _ _ ?_ (fun hHeld => ?_)
    · (try dsimp only)
      (first | exact HKP.out _ (by first | ((repeat (first | assumption | exact Below.refl _ _ | apply below_drew1 | apply below_alloc1)); done)) | go_keep)
    clear hK K
    (try simp only [Act.put, List.setIfInBounds_toArray, List.set_cons_zero, List.set_cons_succ])
    refine wpAnyH_ready (rs := [7]) (by kernel_rfl) (by simp) ?_
    refine AllReadyH.cons (o := ?_) ?_ (fun K hK => ?_) AllReadyH.nil
    rotate_left 1
    focus (simp only [List.getElem?_toArray, List.getElem?_cons_succ, List.getElem?_cons_zero] <;> with_reducible rfl)
    go_simp
    go_split_ands
    have hrt := HRT.out _ kz (List.replicate kz 0) _ (B2.out.trans (hBm.mono B2.out.size)) HZ.out (by simp)
    rw [List.length_replicate] at hrt
    refine Calls.mono hrt ?_
    rintro e w3 ⟨bb, he, hb3, hok⟩
    subst he
    have hB3 : Below w2.heap.size w2 w3 := Below.after hBm hb3
    have HOK := Lib.hid hok
    clear hb3 hok hrt
    refine hK.out _ _ ?_ (fun hHeld => ?_)
    · (try dsimp only)
      (first | exact HKP.out _ (by first | ((repeat (first | assumption | exact Below.refl _ _ | apply below_drew1 | apply below_alloc1)); done)) | go_keep)
    clear hK K
    (try simp only [Act.put, List.setIfInBounds_toArray, List.set_cons_zero, List.set_cons_succ])
    cases bb with
    | false =>
      (refine wpAnyH_take (i := 8) (oi := ?_) (v := ?_) ?_ (by kernel_rfl) (by kernel_rfl) (by kernel_rfl) ?_ ?_ (by assumption) ?_; rotate_left 2; (focus (simp only [List.getElem?_toArray, List.getElem?_cons_succ, List.getElem?_cons_zero] <;> with_reducible rfl)); (focus exact fun _ _ _ h => h); (focus (refine Or.inl ⟨by rfl, ?_⟩; intro wR hSw; (try dsimp only at hSw); go_simp <;> with_reducible rfl)))
      (try simp only [Act.put, List.setIfInBounds_toArray, List.set_cons_zero, List.set_cons_succ])
      (refine wpAnyH_take (i := 9) (oi := ?_) (v := ?_) ?_ (by kernel_rfl) (by kernel_rfl) (by kernel_rfl) ?_ ?_ (by assumption) ?_; rotate_left 2; (focus (simp only [List.getElem?_toArray, List.getElem?_cons_succ, List.getElem?_cons_zero] <;> with_reducible rfl)); (focus exact fun _ _ _ h => h); (focus (refine Or.inl ⟨by rfl, ?_⟩; intro wR hSw; (try dsimp only at hSw); go_simp <;> with_reducible rfl)))
      (try simp only [Act.put, List.setIfInBounds_toArray, List.set_cons_zero, List.set_cons_succ])
      (refine wpAnyH_take (i := 10) (oi := ?_) (v := undef) ?_ (by kernel_rfl) (by kernel_rfl) (by kernel_rfl) ?_ ?_ (by assumption) ?_; rotate_left 1; (focus (simp only [List.getElem?_toArray, List.getElem?_cons_succ, List.getElem?_cons_zero] <;> with_reducible rfl)); (focus exact fun _ _ _ h => h); (focus exact Or.inr ⟨by rfl, rfl⟩))
      (try simp only [Act.put, List.setIfInBounds_toArray, List.set_cons_zero, List.set_cons_succ])
      (refine wpAnyH_take (i := 11) (oi := ?_) (v := undef) ?_ (by kernel_rfl) (by kernel_rfl) (by kernel_rfl) ?_ ?_ (by assumption) ?_; rotate_left 1; (focus (simp only [List.getElem?_toArray, List.getElem?_cons_succ, List.getElem?_cons_zero] <;> with_reducible rfl)); (focus exact fun _ _ _ h => h); (focus exact Or.inr ⟨by rfl, rfl⟩))
      (try simp only [Act.put, List.setIfInBounds_toArray, List.set_cons_zero, List.set_cons_succ])
      (refine wpAnyH_take (i := 12) (oi := ?_) (v := ?_) ?_ (by kernel_rfl) (by kernel_rfl) (by kernel_rfl) ?_ ?_ (by assumption) ?_; rotate_left 2; (focus (simp only [List.getElem?_toArray, List.getElem?_cons_succ, List.getElem?_cons_zero] <;> with_reducible rfl)); (focus exact fun _ _ _ h => h); (focus (refine Or.inl ⟨by rfl, ?_⟩; intro wR hSw; (try dsimp only at hSw); go_simp <;> with_reducible rfl)))
      (try simp only [Act.put, List.setIfInBounds_toArray, List.set_cons_zero, List.set_cons_succ])
      (refine wpAnyH_take (i := 13) (oi := ?_) (v := ?_) ?_ (by kernel_rfl) (by kernel_rfl) (by kernel_rfl) ?_ ?_ (by assumption) ?_; rotate_left 2; (focus (simp only [List.getElem?_toArray, List.getElem?_cons_succ, List.getElem?_cons_zero] <;> with_reducible rfl)); (focus exact fun _ _ _ h => h); (focus (refine Or.inl ⟨by rfl, ?_⟩; intro wR hSw; (try dsimp only at hSw); go_simp <;> with_reducible rfl)))
      (try simp only [Act.put, List.setIfInBounds_toArray, List.set_cons_zero, List.set_cons_succ])
      (refine wpAnyH_take (i := 14) (oi := ?_) (v := undef) ?_ (by kernel_rfl) (by kernel_rfl) (by kernel_rfl) ?_ ?_ (by assumption) ?_; rotate_left 1; (focus (simp only [List.getElem?_toArray, List.getElem?_cons_succ, List.getElem?_cons_zero] <;> with_reducible rfl)); (focus exact fun _ _ _ h => h); (focus exact Or.inr ⟨by rfl, rfl⟩))
      (try simp only [Act.put, List.setIfInBounds_toArray, List.set_cons_zero, List.set_cons_succ])
      (refine wpAnyH_take (i := 15) (oi := ?_) (v := undef) ?_ (by kernel_rfl) (by kernel_rfl) (by kernel_rfl) ?_ ?_ (by assumption) ?_; rotate_left 1; (focus (simp only [List.getElem?_toArray, List.getElem?_cons_succ, List.getElem?_cons_zero] <;> with_reducible rfl)); (focus exact fun _ _ _ h => h); (focus exact Or.inr ⟨by rfl, rfl⟩))
      (try simp only [Act.put, List.setIfInBounds_toArray, List.set_cons_zero, List.set_cons_succ])
      (refine wpAnyH_take (i := 16) (oi := ?_) (v := undef) ?_ (by kernel_rfl) (by kernel_rfl) (by kernel_rfl) ?_ ?_ (by assumption) ?_; rotate_left 1; (focus (simp only [List.getElem?_toArray, List.getElem?_cons_succ, List.getElem?_cons_zero] <;> with_reducible rfl)); (focus exact fun _ _ _ h => h); (focus exact Or.inr ⟨by rfl, rfl⟩))
      (try simp only [Act.put, List.setIfInBounds_toArray, List.set_cons_zero, List.set_cons_succ])
      (refine wpAnyH_take (i := 17) (oi := ?_) (v := undef) ?_ (by kernel_rfl) (by kernel_rfl) (by kernel_rfl) ?_ ?_ (by assumption) ?_; rotate_left 1; (focus (simp only [List.getElem?_toArray, List.getElem?_cons_succ, List.getElem?_cons_zero] <;> with_reducible rfl)); (focus exact fun _ _ _ h => h); (focus exact Or.inr ⟨by rfl, rfl⟩))
      (try simp only [Act.put, List.setIfInBounds_toArray, List.set_cons_zero, List.set_cons_succ])
      (refine wpAnyH_take (i := 18) (oi := ?_) (v := ?_) ?_ (by kernel_rfl) (by kernel_rfl) (by kernel_rfl) ?_ ?_ (by assumption) ?_; rotate_left 2; (focus (simp only [List.getElem?_toArray, List.getElem?_cons_succ, List.getElem?_cons_zero] <;> with_reducible rfl)); (focus exact fun _ _ _ h => h); (focus (refine Or.inl ⟨by rfl, ?_⟩; intro wR hSw; (try dsimp only at hSw); go_simp <;> with_reducible rfl)))
      (try simp only [Act.put, List.setIfInBounds_toArray, List.set_cons_zero, List.set_cons_succ])
      refine wpAnyH_done (by kernel_rfl) ?_ _
      refine NoPanic.normal ?_
      go_wp2_with fail
      exact ⟨_, results_tmp rfl _ _ _, rfl, B2.out.trans (hB3.mono B2.out.size)⟩
    | true =>
      (refine wpAnyH_take (i := 8) (oi := ?_) (v := ?_) ?_ (by kernel_rfl) (by kernel_rfl) (by kernel_rfl) ?_ ?_ (by assumption) ?_; rotate_left 2; (focus (simp only [List.getElem?_toArray, List.getElem?_cons_succ, List.getElem?_cons_zero] <;> with_reducible rfl)); (focus exact fun _ _ _ h => h); (focus (refine Or.inl ⟨by rfl, ?_⟩; intro wR hSw; (try dsimp only at hSw); go_simp <;> with_reducible rfl)))
      (try simp only [Act.put, List.setIfInBounds_toArray, List.set_cons_zero, List.set_cons_succ])
      (refine wpAnyH_take (i := 9) (oi := ?_) (v := ?_) ?_ (by kernel_rfl) (by kernel_rfl) (by kernel_rfl) ?_ ?_ (by assumption) ?_; rotate_left 2; (focus (simp only [List.getElem?_toArray, List.getElem?_cons_succ, List.getElem?_cons_zero] <;> with_reducible rfl)); (focus exact fun _ _ _ h => h); (focus (refine Or.inl ⟨by rfl, ?_⟩; intro wR hSw; (try dsimp only at hSw); go_simp <;> with_reducible rfl)))
      (try simp only [Act.put, List.setIfInBounds_toArray, List.set_cons_zero, List.set_cons_succ])
      (refine wpAnyH_take (i := 10) (oi := ?_) (v := ?_) ?_ (by kernel_rfl) (by kernel_rfl) (by kernel_rfl) ?_ ?_ (by assumption) ?_; rotate_left 2; (focus (simp only [List.getElem?_toArray, List.getElem?_cons_succ, List.getElem?_cons_zero] <;> with_reducible rfl)); (focus exact fun _ _ _ h => h); (focus (refine Or.inl ⟨by rfl, ?_⟩; intro wR hSw; (try dsimp only at hSw); go_simp <;> with_reducible rfl)))
      (try simp only [Act.put, List.setIfInBounds_toArray, List.set_cons_zero, List.set_cons_succ])
      (refine wpAnyH_take (i := 11) (oi := ?_) (v := ?_) ?_ (by kernel_rfl) (by kernel_rfl) (by kernel_rfl) ?_ ?_ (by assumption) ?_; rotate_left 2; (focus (simp only [List.getElem?_toArray, List.getElem?_cons_succ, List.getElem?_cons_zero] <;> with_reducible rfl)); (focus exact fun _ _ _ h => h); (focus (refine Or.inl ⟨by rfl, ?_⟩; intro wR hSw; (try dsimp only at hSw); go_simp <;> with_reducible rfl)))
      (try simp only [Act.put, List.setIfInBounds_toArray, List.set_cons_zero, List.set_cons_succ])
      (refine wpAnyH_take (i := 12) (oi := ?_) (v := ?_) ?_ (by kernel_rfl) (by kernel_rfl) (by kernel_rfl) ?_ ?_ (by assumption) ?_; rotate_left 2; (focus (simp only [List.getElem?_toArray, List.getElem?_cons_succ, List.getElem?_cons_zero] <;> with_reducible rfl)); (focus exact fun _ _ _ h => h); (focus (refine Or.inl ⟨by rfl, ?_⟩; intro wR hSw; (try dsimp only at hSw); go_simp <;> with_reducible rfl)))
      (try simp only [Act.put, List.setIfInBounds_toArray, List.set_cons_zero, List.set_cons_succ])
      (refine wpAnyH_take (i := 13) (oi := ?_) (v := ?_) ?_ (by kernel_rfl) (by kernel_rfl) (by kernel_rfl) ?_ ?_ (by assumption) ?_; rotate_left 2; (focus (simp only [List.getElem?_toArray, List.getElem?_cons_succ, List.getElem?_cons_zero] <;> with_reducible rfl)); (focus exact fun _ _ _ h => h); (focus (refine Or.inl ⟨by rfl, ?_⟩; intro wR hSw; (try dsimp only at hSw); go_simp <;> with_reducible rfl)))
      (try simp only [Act.put, List.setIfInBounds_toArray, List.set_cons_zero, List.set_cons_succ])
      (refine wpAnyH_take (i := 14) (oi := ?_) (v := ?_) ?_ (by kernel_rfl) (by kernel_rfl) (by kernel_rfl) ?_ ?_ (by assumption) ?_; rotate_left 2; (focus (simp only [List.getElem?_toArray, List.getElem?_cons_succ, List.getElem?_cons_zero] <;> with_reducible rfl)); (focus exact fun _ _ _ h => h); (focus (refine Or.inl ⟨by rfl, ?_⟩; intro wR hSw; (try dsimp only at hSw); go_simp <;> with_reducible rfl)))
      (try simp only [Act.put, List.setIfInBounds_toArray, List.set_cons_zero, List.set_cons_succ])
      (refine wpAnyH_take (i := 15) (oi := ?_) (v := ?_) ?_ (by kernel_rfl) (by kernel_rfl) (by kernel_rfl) ?_ ?_ (by assumption) ?_; rotate_left 2; (focus (simp only [List.getElem?_toArray, List.getElem?_cons_succ, List.getElem?_cons_zero] <;> with_reducible rfl)); (focus exact fun _ _ _ h => h); (focus (refine Or.inl ⟨by rfl, ?_⟩; intro wR hSw; (try dsimp only at hSw); go_simp <;> with_reducible rfl)))
      (try simp only [Act.put, List.setIfInBounds_toArray, List.set_cons_zero, List.set_cons_succ])
      (refine wpAnyH_take (i := 16) (oi := ?_) (v := ?_) ?_ (by kernel_rfl) (by kernel_rfl) (by kernel_rfl) ?_ ?_ (by assumption) ?_; rotate_left 2; (focus (simp only [List.getElem?_toArray, List.getElem?_cons_succ, List.getElem?_cons_zero] <;> with_reducible rfl)); (focus exact fun _ _ _ h => h); (focus (refine Or.inl ⟨by rfl, ?_⟩; intro wR hSw; (try dsimp only at hSw); go_simp <;> with_reducible rfl)))
      (try simp only [Act.put, List.setIfInBounds_toArray, List.set_cons_zero, List.set_cons_succ])
      (refine wpAnyH_take (i := 17) (oi := ?_) (v := ?_) ?_ (by kernel_rfl) (by kernel_rfl) (by kernel_rfl) ?_ ?_ (by assumption) ?_; rotate_left 2; (focus (simp only [List.getElem?_toArray, List.getElem?_cons_succ, List.getElem?_cons_zero] <;> with_reducible rfl)); (focus exact fun _ _ _ h => h); (focus (refine Or.inl ⟨by rfl, ?_⟩; intro wR hSw; (try dsimp only at hSw); go_simp <;> with_reducible rfl)))
      (try simp only [Act.put, List.setIfInBounds_toArray, List.set_cons_zero, List.set_cons_succ])
      (refine wpAnyH_take (i := 18) (oi := ?_) (v := ?_) ?_ (by kernel_rfl) (by kernel_rfl) (by kernel_rfl) ?_ ?_ (by assumption) ?_; rotate_left 2; (focus (simp only [List.getElem?_toArray, List.getElem?_cons_succ, List.getElem?_cons_zero] <;> with_reducible rfl)); (focus exact fun _ _ _ h => h); (focus (refine Or.inl ⟨by rfl, ?_⟩; intro wR hSw; (try dsimp only at hSw); go_simp <;> with_reducible rfl)))
      (try simp only [Act.put, List.setIfInBounds_toArray, List.set_cons_zero, List.set_cons_succ])
      refine wpAnyH_done (by kernel_rfl) ?_ _
      refine NoPanic.normal ?_
      go_wp2_with fail
      exact ⟨_, results_tmp rfl _ _ _, rfl, B2.out.trans (hB3.mono B2.out.size)⟩
  have h1' : decide (tree < 0) = false := decide_eq_false (by omega)
  have h2' : decide (t ≤ tree) = false := decide_eq_false (by omega)
  go_wp2_with fail
  refine wp_region_noPanic ?_
  refine wp_region_held_drew (S := (fun w' => w'.cell? ⟨w.heap.size, 0, none⟩ = some (.int .i64 t) ∧ w'.cell? ⟨w.heap.size, 1, none⟩ = some (.int .i64 l) ∧ w'.cell? ⟨w.heap.size, 2, none⟩ = some (.int .i64 d) ∧ w'.cell? ⟨w.heap.size, 3, none⟩ = some (.bool sc) ∧ w'.cell? ⟨w.heap.size, 4, none⟩ = some (.int .u64 sd) ∧ w'.cell? ⟨w.heap.size, 5, none⟩ = some (.slice DA m dc) ∧ Below w2.heap.size w2 w')) (by kernel_rfl) ?_ (fun hHeld => ?_)
  · (try dsimp only)
    (first | exact HKP.out _ (by first | ((repeat (first | assumption | exact Below.refl _ _ | apply below_drew1 | apply below_alloc1)); done)) | go_keep)
  (refine wpAnyH_take (i := 0) (oi := ?_) (v := ?_) ?_ (by kernel_rfl) (by kernel_rfl) (by kernel_rfl) ?_ ?_ (by assumption) ?_; rotate_left 2; (focus (simp only [List.getElem?_toArray, List.getElem?_cons_succ, List.getElem?_cons_zero] <;> with_reducible rfl)); (focus exact fun _ _ _ h => h); (focus (refine Or.inl ⟨by rfl, ?_⟩; intro wR hSw; (try dsimp only at hSw); go_simp <;> with_reducible rfl)))
  (try simp only [Act.put, List.setIfInBounds_toArray, List.set_cons_zero, List.set_cons_succ])
  (refine wpAnyH_take (i := 1) (oi := ?_) (v := ?_) ?_ (by kernel_rfl) (by kernel_rfl) (by kernel_rfl) ?_ ?_ (by assumption) ?_; rotate_left 2; (focus (simp only [List.getElem?_toArray, List.getElem?_cons_succ, List.getElem?_cons_zero] <;> with_reducible rfl)); (focus exact fun _ _ _ h => h); (focus (refine Or.inl ⟨by rfl, ?_⟩; intro wR hSw; (try dsimp only at hSw); go_simp <;> with_reducible rfl)))
  (try simp only [Act.put, List.setIfInBounds_toArray, List.set_cons_zero, List.set_cons_succ])
  (refine wpAnyH_take (i := 2) (oi := ?_) (v := ?_) ?_ (by kernel_rfl) (by kernel_rfl) (by kernel_rfl) ?_ ?_ (by assumption) ?_; rotate_left 2; (focus (simp only [List.getElem?_toArray, List.getElem?_cons_succ, List.getElem?_cons_zero] <;> with_reducible rfl)); (focus exact fun _ _ _ h => h); (focus (refine Or.inl ⟨by rfl, ?_⟩; intro wR hSw; (try dsimp only at hSw); go_simp <;> with_reducible rfl)))
  (try simp only [Act.put, List.setIfInBounds_toArray, List.set_cons_zero, List.set_cons_succ])
  (refine wpAnyH_take (i := 3) (oi := ?_) (v := ?_) ?_ (by kernel_rfl) (by kernel_rfl) (by kernel_rfl) ?_ ?_ (by assumption) ?_; rotate_left 2; (focus (simp only [List.getElem?_toArray, List.getElem?_cons_succ, List.getElem?_cons_zero] <;> with_reducible rfl)); (focus exact fun _ _ _ h => h); (focus (refine Or.inl ⟨by rfl, ?_⟩; intro wR hSw; (try dsimp only at hSw); go_simp <;> with_reducible rfl)))
  (try simp only [Act.put, List.setIfInBounds_toArray, List.set_cons_zero, List.set_cons_succ])
  (refine wpAnyH_take (i := 4) (oi := ?_) (v := ?_) ?_ (by kernel_rfl) (by kernel_rfl) (by kernel_rfl) ?_ ?_ (by assumption) ?_; rotate_left 2; (focus (simp only [List.getElem?_toArray, List.getElem?_cons_succ, List.getElem?_cons_zero] <;> with_reducible rfl)); (focus exact fun _ _ _ h => h); (focus (refine Or.inl ⟨by rfl, ?_⟩; intro wR hSw; (try dsimp only at hSw); go_simp <;> with_reducible rfl)))
  (try simp only [Act.put, List.setIfInBounds_toArray, List.set_cons_zero, List.set_cons_succ])
  (refine wpAnyH_take (i := 5) (oi := ?_) (v := ?_) ?_ (by kernel_rfl) (by kernel_rfl) (by kernel_rfl) ?_ ?_ (by assumption) ?_; rotate_left 2; (focus (simp only [List.getElem?_toArray, List.getElem?_cons_succ, List.getElem?_cons_zero] <;> with_reducible rfl)); (focus exact fun _ _ _ h => h); (focus (refine Or.inl ⟨by rfl, ?_⟩; intro wR hSw; (try dsimp only at hSw); go_simp <;> with_reducible rfl)))
  (try simp only [Act.put, List.setIfInBounds_toArray, List.set_cons_zero, List.set_cons_succ])
  refine wpAnyH_ready (rs := [6]) (by kernel_rfl) (by simp) ?_
  refine AllReadyH.cons (o := ?_) ?_ (fun K hK => ?_) AllReadyH.nil
  rotate_left 1
  focus (simp only [List.getElem?_toArray, List.getElem?_cons_succ, List.getElem?_cons_zero] <;> with_reducible rfl)
  (refine step_mk (by rfl) (.tmp 24) (.tmp 24) 29 21 (by rfl) (.int .i32 0) 4 Tryz.underlying29 info_i32 rfl .i64 .i64 kz (by rfl) (by rfl) (by omega) (by omega) ?_)
  intro wm hblk hbm
  have hBm : Below w2.heap.size w2 wm := Below.after (by first | ((repeat (first | assumption | exact Below.refl _ _ | apply below_drew1 | apply below_alloc1)); done)) hbm
  have HZ := Lib.hid (rd_zero hblk hK1)
  clear hblk hbm
  refine hK.out _ _ ?_ (fun hHeld => ?_)
  · (try dsimp only)
    (first | exact HKP.out _ (by first | ((repeat (first | assumption | exact Below.refl _ _ | apply below_drew1 | apply below_alloc1)); done)) | go_keep)
  clear hK K
  (try simp only [Act.put, List.setIfInBounds_toArray, List.set_cons_zero, List.set_cons_succ])
  refine wpAnyH_ready (rs := [7]) (by kernel_rfl) (by simp) ?_
  refine AllReadyH.cons (o := ?_) ?_ (fun K hK => ?_) AllReadyH.nil
  rotate_left 1
  focus (simp only [List.getElem?_toArray, List.getElem?_cons_succ, List.getElem?_cons_zero] <;> with_reducible rfl)
  go_simp
  go_split_ands
  have hrt := HRT.out _ kz (List.replicate kz 0) _ (B2.out.trans (hBm.mono B2.out.size)) HZ.out (by simp)
  rw [List.length_replicate] at hrt
  refine Calls.mono hrt ?_
  rintro e w3 ⟨bb, he, hb3, hok⟩
  subst he
  have hB3 : Below w2.heap.size w2 w3 := Below.after hBm hb3
  have HOK := Lib.hid hok
  clear hb3 hok hrt
  refine hK.out _ _ ?_ (fun hHeld => ?_)
  · (try dsimp only)
    (first | exact HKP.out _ (by first | ((repeat (first | assumption | exact Below.refl _ _ | apply below_drew1 | apply below_alloc1)); done)) | go_keep)
  clear hK K
  (try simp only [Act.put, List.setIfInBounds_toArray, List.set_cons_zero, List.set_cons_succ])
  cases bb with
  | false =>
    (refine wpAnyH_take (i := 8) (oi := ?_) (v := ?_) ?_ (by kernel_rfl) (by kernel_rfl) (by kernel_rfl) ?_ ?_ (by assumption) ?_; rotate_left 2; (focus (simp only [List.getElem?_toArray, List.getElem?_cons_succ, List.getElem?_cons_zero] <;> with_reducible rfl)); (focus exact fun _ _ _ h => h); (focus (refine Or.inl ⟨by rfl, ?_⟩; intro wR hSw; (try dsimp only at hSw); go_simp <;> with_reducible rfl)))
    (try simp only [Act.put, List.setIfInBounds_toArray, List.set_cons_zero, List.set_cons_succ])
    (refine wpAnyH_take (i := 9) (oi := ?_) (v := ?_) ?_ (by kernel_rfl) (by kernel_rfl) (by kernel_rfl) ?_ ?_ (by assumption) ?_; rotate_left 2; (focus (simp only [List.getElem?_toArray, List.getElem?_cons_succ, List.getElem?_cons_zero] <;> with_reducible rfl)); (focus exact fun _ _ _ h => h); (focus (refine Or.inl ⟨by rfl, ?_⟩; intro wR hSw; (try dsimp only at hSw); go_simp <;> with_reducible rfl)))
    (try simp only [Act.put, List.setIfInBounds_toArray, List.set_cons_zero, List.set_cons_succ])
    (refine wpAnyH_take (i := 10) (oi := ?_) (v := undef) ?_ (by kernel_rfl) (by kernel_rfl) (by kernel_rfl) ?_ ?_ (by assumption) ?_; rotate_left 1; (focus (simp only [List.getElem?_toArray, List.getElem?_cons_succ, List.getElem?_cons_zero] <;> with_reducible rfl)); (focus exact fun _ _ _ h => h); (focus exact Or.inr ⟨by rfl, rfl⟩))
    (try simp only [Act.put, List.setIfInBounds_toArray, List.set_cons_zero, List.set_cons_succ])
    (refine wpAnyH_take (i := 11) (oi := ?_) (v := undef) ?_ (by kernel_rfl) (by kernel_rfl) (by kernel_rfl) ?_ ?_ (by assumption) ?_; rotate_left 1; (focus (simp only [List.getElem?_toArray, List.getElem?_cons_succ, List.getElem?_cons_zero] <;> with_reducible rfl)); (focus exact fun _ _ _ h => h); (focus exact Or.inr ⟨by rfl, rfl⟩))
    (try simp only [Act.put, List.setIfInBounds_toArray, List.set_cons_zero, List.set_cons_succ])
    (refine wpAnyH_take (i := 12) (oi := ?_) (v := ?_) ?_ (by kernel_rfl) (by kernel_rfl) (by kernel_rfl) ?_ ?_ (by assumption) ?_; rotate_left 2; (focus (simp only [List.getElem?_toArray, List.getElem?_cons_succ, List.getElem?_cons_zero] <;> with_reducible rfl)); (focus exact fun _ _ _ h => h); (focus (refine Or.inl ⟨by rfl, ?_⟩; intro wR hSw; (try dsimp only at hSw); go_simp <;> with_reducible rfl)))
    (try simp only [Act.put, List.setIfInBounds_toArray, List.set_cons_zero, List.set_cons_succ])
    (refine wpAnyH_take (i := 13) (oi := ?_) (v := ?_) ?_ (by kernel_rfl) (by kernel_rfl) (by kernel_rfl) ?_ ?_ (by assumption) ?_; rotate_left 2; (focus (simp only [List.getElem?_toArray, List.getElem?_cons_succ, List.getElem?_cons_zero] <;> with_reducible rfl)); (focus exact fun _ _ _ h => h); (focus (refine Or.inl ⟨by rfl, ?_⟩; intro wR hSw; (try dsimp only at hSw); go_simp <;> with_reducible rfl)))
    (try simp only [Act.put, List.setIfInBounds_toArray, List.set_cons_zero, List.set_cons_succ])
    (refine wpAnyH_take (i := 14) (oi := ?_) (v := undef) ?_ (by kernel_rfl) (by kernel_rfl) (by kernel_rfl) ?_ ?_ (by assumption) ?_; rotate_left 1; (focus (simp only [List.getElem?_toArray, List.getElem?_cons_succ, List.getElem?_cons_zero] <;> with_reducible rfl)); (focus exact fun _ _ _ h => h); (focus exact Or.inr ⟨by rfl, rfl⟩))
    (try simp only [Act.put, List.setIfInBounds_toArray, List.set_cons_zero, List.set_cons_succ])
    (refine wpAnyH_take (i := 15) (oi := ?_) (v := undef) ?_ (by kernel_rfl) (by kernel_rfl) (by kernel_rfl) ?_ ?_ (by assumption) ?_; rotate_left 1; (focus (simp only [List.getElem?_toArray, List.getElem?_cons_succ, List.getElem?_cons_zero] <;> with_reducible rfl)); (focus exact fun _ _ _ h => h); (focus exact Or.inr ⟨by rfl, rfl⟩))
    (try simp only [Act.put, List.setIfInBounds_toArray, List.set_cons_zero, List.set_cons_succ])
    (refine wpAnyH_take (i := 16) (oi := ?_) (v := undef) ?_ (by kernel_rfl) (by kernel_rfl) (by kernel_rfl) ?_ ?_ (by assumption) ?_; rotate_left 1; (focus (simp only [List.getElem?_toArray, List.getElem?_cons_succ, List.getElem?_cons_zero] <;> with_reducible rfl)); (focus exact fun _ _ _ h => h); (focus exact Or.inr ⟨by rfl, rfl⟩))
    (try simp only [Act.put, List.setIfInBounds_toArray, List.set_cons_zero, List.set_cons_succ])
    (refine wpAnyH_take (i := 17) (oi := ?_) (v := undef) ?_ (by kernel_rfl) (by kernel_rfl) (by kernel_rfl) ?_ ?_ (by assumption) ?_; rotate_left 1; (focus (simp only [List.getElem?_toArray, List.getElem?_cons_succ, List.getElem?_cons_zero] <;> with_reducible rfl)); (focus exact fun _ _ _ h => h); (focus exact Or.inr ⟨by rfl, rfl⟩))
    (try simp only [Act.put, List.setIfInBounds_toArray, List.set_cons_zero, List.set_cons_succ])
    (refine wpAnyH_take (i := 18) (oi := ?_) (v := ?_) ?_ (by kernel_rfl) (by kernel_rfl) (by kernel_rfl) ?_ ?_ (by assumption) ?_; rotate_left 2; (focus (simp only [List.getElem?_toArray, List.getElem?_cons_succ, List.getElem?_cons_zero] <;> with_reducible rfl)); (focus exact fun _ _ _ h => h); (focus (refine Or.inl ⟨by rfl, ?_⟩; intro wR hSw; (try dsimp only at hSw); go_simp <;> with_reducible rfl)))
    (try simp only [Act.put, List.setIfInBounds_toArray, List.set_cons_zero, List.set_cons_succ])
    refine wpAnyH_done (by kernel_rfl) ?_ _
    refine NoPanic.normal ?_
    go_wp2_with fail
    exact ⟨_, results_tmp rfl _ _ _, rfl, B2.out.trans (hB3.mono B2.out.size)⟩
  | true =>
    (refine wpAnyH_take (i := 8) (oi := ?_) (v := ?_) ?_ (by kernel_rfl) (by kernel_rfl) (by kernel_rfl) ?_ ?_ (by assumption) ?_; rotate_left 2; (focus (simp only [List.getElem?_toArray, List.getElem?_cons_succ, List.getElem?_cons_zero] <;> with_reducible rfl)); (focus exact fun _ _ _ h => h); (focus (refine Or.inl ⟨by rfl, ?_⟩; intro wR hSw; (try dsimp only at hSw); go_simp <;> with_reducible rfl)))
    (try simp only [Act.put, List.setIfInBounds_toArray, List.set_cons_zero, List.set_cons_succ])
    (refine wpAnyH_take (i := 9) (oi := ?_) (v := ?_) ?_ (by kernel_rfl) (by kernel_rfl) (by kernel_rfl) ?_ ?_ (by assumption) ?_; rotate_left 2; (focus (simp only [List.getElem?_toArray, List.getElem?_cons_succ, List.getElem?_cons_zero] <;> with_reducible rfl)); (focus exact fun _ _ _ h => h); (focus (refine Or.inl ⟨by rfl, ?_⟩; intro wR hSw; (try dsimp only at hSw); go_simp <;> with_reducible rfl)))
    (try simp only [Act.put, List.setIfInBounds_toArray, List.set_cons_zero, List.set_cons_succ])
    (refine wpAnyH_take (i := 10) (oi := ?_) (v := ?_) ?_ (by kernel_rfl) (by kernel_rfl) (by kernel_rfl) ?_ ?_ (by assumption) ?_; rotate_left 2; (focus (simp only [List.getElem?_toArray, List.getElem?_cons_succ, List.getElem?_cons_zero] <;> with_reducible rfl)); (focus exact fun _ _ _ h => h); (focus (refine Or.inl ⟨by rfl, ?_⟩; intro wR hSw; (try dsimp only at hSw); go_simp <;> with_reducible rfl)))
    (try simp only [Act.put, List.setIfInBounds_toArray, List.set_cons_zero, List.set_cons_succ])
    (refine wpAnyH_take (i := 11) (oi := ?_) (v := ?_) ?_ (by kernel_rfl) (by kernel_rfl) (by kernel_rfl) ?_ ?_ (by assumption) ?_; rotate_left 2; (focus (simp only [List.getElem?_toArray, List.getElem?_cons_succ, List.getElem?_cons_zero] <;> with_reducible rfl)); (focus exact fun _ _ _ h => h); (focus (refine Or.inl ⟨by rfl, ?_⟩; intro wR hSw; (try dsimp only at hSw); go_simp <;> with_reducible rfl)))
    (try simp only [Act.put, List.setIfInBounds_toArray, List.set_cons_zero, List.set_cons_succ])
    (refine wpAnyH_take (i := 12) (oi := ?_) (v := ?_) ?_ (by kernel_rfl) (by kernel_rfl) (by kernel_rfl) ?_ ?_ (by assumption) ?_; rotate_left 2; (focus (simp only [List.getElem?_toArray, List.getElem?_cons_succ, List.getElem?_cons_zero] <;> with_reducible rfl)); (focus exact fun _ _ _ h => h); (focus (refine Or.inl ⟨by rfl, ?_⟩; intro wR hSw; (try dsimp only at hSw); go_simp <;> with_reducible rfl)))
    (try simp only [Act.put, List.setIfInBounds_toArray, List.set_cons_zero, List.set_cons_succ])
    (refine wpAnyH_take (i := 13) (oi := ?_) (v := ?_) ?_ (by kernel_rfl) (by kernel_rfl) (by kernel_rfl) ?_ ?_ (by assumption) ?_; rotate_left 2; (focus (simp only [List.getElem?_toArray, List.getElem?_cons_succ, List.getElem?_cons_zero] <;> with_reducible rfl)); (focus exact fun _ _ _ h => h); (focus (refine Or.inl ⟨by rfl, ?_⟩; intro wR hSw; (try dsimp only at hSw); go_simp <;> with_reducible rfl)))
    (try simp only [Act.put, List.setIfInBounds_toArray, List.set_cons_zero, List.set_cons_succ])
    (refine wpAnyH_take (i := 14) (oi := ?_) (v := ?_) ?_ (by kernel_rfl) (by kernel_rfl) (by kernel_rfl) ?_ ?_ (by assumption) ?_; rotate_left 2; (focus (simp only [List.getElem?_toArray, List.getElem?_cons_succ, List.getElem?_cons_zero] <;> with_reducible rfl)); (focus exact fun _ _ _ h => h); (focus (refine Or.inl ⟨by rfl, ?_⟩; intro wR hSw; (try dsimp only at hSw); go_simp <;> with_reducible rfl)))
    (try simp only [Act.put, List.setIfInBounds_toArray, List.set_cons_zero, List.set_cons_succ])
    (refine wpAnyH_take (i := 15) (oi := ?_) (v := ?_) ?_ (by kernel_rfl) (by kernel_rfl) (by kernel_rfl) ?_ ?_ (by assumption) ?_; rotate_left 2; (focus (simp only [List.getElem?_toArray, List.getElem?_cons_succ, List.getElem?_cons_zero] <;> with_reducible rfl)); (focus exact fun _ _ _ h => h); (focus (refine Or.inl ⟨by rfl, ?_⟩; intro wR hSw; (try dsimp only at hSw); go_simp <;> with_reducible rfl)))
    (try simp only [Act.put, List.setIfInBounds_toArray, List.set_cons_zero, List.set_cons_succ])
    (refine wpAnyH_take (i := 16) (oi := ?_) (v := ?_) ?_ (by kernel_rfl) (by kernel_rfl) (by kernel_rfl) ?_ ?_ (by assumption) ?_; rotate_left 2; (focus (simp only [List.getElem?_toArray, List.getElem?_cons_succ, List.getElem?_cons_zero] <;> with_reducible rfl)); (focus exact fun _ _ _ h => h); (focus (refine Or.inl ⟨by rfl, ?_⟩; intro wR hSw; (try dsimp only at hSw); go_simp <;> with_reducible rfl)))
    (try simp only [Act.put, List.setIfInBounds_toArray, List.set_cons_zero, List.set_cons_succ])
    (refine wpAnyH_take (i := 17) (oi := ?_) (v := ?_) ?_ (by kernel_rfl) (by kernel_rfl) (by kernel_rfl) ?_ ?_ (by assumption) ?_; rotate_left 2; (focus (simp only [List.getElem?_toArray, List.getElem?_cons_succ, List.getElem?_cons_zero] <;> with_reducible rfl)); (focus exact fun _ _ _ h => h); (focus (refine Or.inl ⟨by rfl, ?_⟩; intro wR hSw; (try dsimp only at hSw); go_simp <;> with_reducible rfl)))
    (try simp only [Act.put, List.setIfInBounds_toArray, List.set_cons_zero, List.set_cons_succ])
    (refine wpAnyH_take (i := 18) (oi := ?_) (v := ?_) ?_ (by kernel_rfl) (by kernel_rfl) (by kernel_rfl) ?_ ?_ (by assumption) ?_; rotate_left 2; (focus (simp only [List.getElem?_toArray, List.getElem?_cons_succ, List.getElem?_cons_zero] <;> with_reducible rfl)); (focus exact fun _ _ _ h => h); (focus (refine Or.inl ⟨by rfl, ?_⟩; intro wR hSw; (try dsimp only at hSw); go_simp <;> with_reducible rfl)))
    (try simp only [Act.put, List.setIfInBounds_toArray, List.set_cons_zero, List.set_cons_succ])
    refine wpAnyH_done (by kernel_rfl) ?_ _
    refine NoPanic.normal ?_
    go_wp2_with fail
    obtain ⟨hn40, ht6, hm3, hchk, herr, _⟩ := HOK.out (by first | rfl | trivial)
    have hpar := treeErr_zero herr
    have hn41 : n ≤ 40 := by have := HN.out; omega
    have B3 := Lib.hid (B2.out.trans (hB3.mono B2.out.size))
    have X3 := Lib.hid (obj_below hB3 X2.out lb)
    clear hBm hB3 HZ HKP KP p0 p1 p2 p3 p4 p5 hself HOK X2 B2 hkz
    have HER := Lib.hid herr
    clear herr
    refine (HN.out ▸ items_calls dim LA lc ls w3 (HLS.out.below B3.out) (by omega)).mono ?_
    rintro e w4 ⟨v, he, hb4, _, hgood⟩
    subst he
    obtain ⟨b, rfl, hwb, hit⟩ := hgood hchk
    have B4 := Lib.hid (B3.out.trans (hb4.mono B3.out.size))
    have X4 := Lib.hid (obj_below hb4 X3.out (obj_lt X3.out))
    obtain ⟨D, hD⟩ : ∃ D, dim.toNat = D := ⟨_, rfl⟩
    rw [hD] at hit
    obtain ⟨AI, cI, hitv⟩ := hit.v
    have HIT := Lib.hid hitv
    clear hgood hb4 hit hitv X3
    have hX := X4.out
    have p0 : w4.cell? ⟨w.heap.size, 0, none⟩ = some (.int .i64 t) := by simp [World.cell?, hX]
    have p1 : w4.cell? ⟨w.heap.size, 1, none⟩ = some (.int .i64 l) := by simp [World.cell?, hX]
    have p2 : w4.cell? ⟨w.heap.size, 2, none⟩ = some (.int .i64 d) := by simp [World.cell?, hX]
    have p3 : w4.cell? ⟨w.heap.size, 3, none⟩ = some (.bool sc) := by simp [World.cell?, hX]
    have p4 : w4.cell? ⟨w.heap.size, 4, none⟩ = some (.int .u64 sd) := by simp [World.cell?, hX]
    have p5 : w4.cell? ⟨w.heap.size, 5, none⟩ = some (.slice DA m dc) := by simp [World.cell?, hX]
    clear hX
    go_wp2_with fail
    refine (HM.out ▸ sOf_calls sc sd DA dc ds tree t w4 (HDR.out.below B4.out) HU.out (by rw [HM.out]; omega) (by omega)).mono ?_
    rintro e w5 ⟨v, he, hs, hb5, T5, p5', rfl⟩
    subst he
    obtain ⟨s, hs0⟩ : ∃ s, offT sc sd ds tree t = s := ⟨_, rfl⟩
    rw [hs0] at hs
    have HS0 := Lib.hid hs0
    have HS5 := Lib.hid hs
    have B45 := Lib.hid hb5
    have hz5 := hb5.size
    clear hs0 hs hb5
    go_wp2_with fail
    refine (Count_calls T5 p5' w4.heap.size w5.heap.size _ _ HS5.out (Nat.le_refl _) hz5).mono ?_
    rintro e w6 ⟨he, hctr, hb6⟩
    subst he
    have HC := Lib.hid (At.of_ctr hctr)
    have B46 := Lib.hid (B45.out.trans (hb6.mono B45.out.size))
    have B6 := Lib.hid (B4.out.trans (B46.out.mono B4.out.size))
    have X6 := Lib.hid (obj_below B46.out X4.out (obj_lt X4.out))
    have hz6 := hb6.size
    clear hctr hb6 HS5 B45 p0 p1 p2 p3 p4 p5
    have hX := X6.out
    have p0 : w6.cell? ⟨w.heap.size, 0, none⟩ = some (.int .i64 t) := by simp [World.cell?, hX]
    have p1 : w6.cell? ⟨w.heap.size, 1, none⟩ = some (.int .i64 l) := by simp [World.cell?, hX]
    have p2 : w6.cell? ⟨w.heap.size, 2, none⟩ = some (.int .i64 d) := by simp [World.cell?, hX]
    have p3 : w6.cell? ⟨w.heap.size, 3, none⟩ = some (.bool sc) := by simp [World.cell?, hX]
    have p4 : w6.cell? ⟨w.heap.size, 4, none⟩ = some (.int .u64 sd) := by simp [World.cell?, hX]
    have p5 : w6.cell? ⟨w.heap.size, 5, none⟩ = some (.slice DA m dc) := by simp [World.cell?, hX]
    clear hX
    go_wp2_with fail
    have hT6 := (Tree_calls b D ls AI cI t l d sc sd DA m dc w4.heap.size w6.heap.size (.iface 43 (.pointer (some ⟨w5.heap.size, 0, none⟩))) s 0 w6 (HIT.out.only (S := fun _ => False) (Only.of_below B46.out) fun _ _ h => h) HR32.out HC.out (by omega) (by omega) (fun q hq h => by have := (HIT.out.blk q hq).2; have := h.1; omega) (Nat.le_refl _))
    unfold TreePost at hT6
    rw [HER.out] at hT6
    refine hT6.mono ?_
    rintro e w7 ⟨vN, he, _, hgood⟩
    subst he
    obtain ⟨hown, hat, hon⟩ := hgood rfl
    obtain ⟨G, hG⟩ : ∃ G, growF ls D l.toNat s d.toNat (upTo ls.length) 0 0 = G := ⟨_, rfl⟩
    have hsz := growF_size ls D (leaf := l.toNat) s (by omega) d.toNat (upTo ls.length) 0 0 (by rw [upTo_length]; omega)
    rw [hG] at hown hat hsz
    rw [upTo_length, HN.out] at hsz
    have hz7 := hon.size
    have HG := Lib.hid hG
    have HAT := Lib.hid hat
    have B7 := Lib.hid (B6.out.trans (hon.below B6.out.size fun q hq h => by have := h.1; have := B4.out.size; omega))
    have B47 := Lib.hid (B46.out.trans (hon.below B46.out.size fun q hq h => by have := h.1; omega))
    have X7 := Lib.hid (obj_below B47.out X4.out (obj_lt X4.out))
    have HRD := Lib.hid ((RdN.of_own hown (P := fun _ => False) (fun _ h => h.elim)).weak (P' := fun b => w7.heap.size ≤ b) fun b hl h => by omega)
    obtain ⟨NA, nc, rfl, _⟩ := hown.shape
    obtain ⟨kk, hkk⟩ : ∃ x, G.2 = x := ⟨_, rfl⟩
    obtain ⟨nn, hnn⟩ : ∃ x, G.1.length = x := ⟨_, rfl⟩
    have EKK := Lib.hid hkk
    have ENN := Lib.hid hnn
    rw [hkk] at hsz
    rw [hnn] at hsz ⊢
    have hb4z := B4.out.size
    clear hT6 hgood hown hat hon hG p0 p1 p2 p3 p4 p5 hkk hnn HC
    have hX := X7.out
    have P0 : ∀ o, (w7.alloc o).cell? ⟨w.heap.size, 0, none⟩ = some (.int .i64 t) := fun o => (World.cell?_alloc_lt (o := o) w7 _ (obj_lt hX)).trans (by simp [World.cell?, hX])
    have P3 : ∀ o, (w7.alloc o).cell? ⟨w.heap.size, 3, none⟩ = some (.bool sc) := fun o => (World.cell?_alloc_lt (o := o) w7 _ (obj_lt hX)).trans (by simp [World.cell?, hX])
    have P4 : ∀ o, (w7.alloc o).cell? ⟨w.heap.size, 4, none⟩ = some (.int .u64 sd) := fun o => (World.cell?_alloc_lt (o := o) w7 _ (obj_lt hX)).trans (by simp [World.cell?, hX])
    have P5 : ∀ o, (w7.alloc o).cell? ⟨w.heap.size, 5, none⟩ = some (.slice DA m dc) := fun o => (World.cell?_alloc_lt (o := o) w7 _ (obj_lt hX)).trans (by simp [World.cell?, hX])
    clear hX
    go_wp2_with fail
    obtain ⟨w8, hw8⟩ : ∃ X, w7.alloc (.cells #[.slice none 0 0] 24) = X := ⟨_, rfl⟩
    have hb8 : Below w7.heap.size w7 w8 := by rw [← hw8]; exact below_alloc1 (Below.refl _ _) _
    have x8 : w8.heap[w7.heap.size]? = some (.cells #[.slice none 0 0] 24 (0, 0)) := by rw [← hw8]; exact heap_alloc_new _ _
    rw [hw8]
    have B8 := Lib.hid (B7.out.trans (hb8.mono B7.out.size))
    have B78 := Lib.hid hb8
    have X8 := Lib.hid x8
    have hz8 := obj_lt x8
    clear hw8 hb8 x8 P0 P3 P4 P5
    refine (HM.out ▸ sOf_calls sc sd DA dc ds tree t w8 (HDR.out.below B8.out) HU.out (by rw [HM.out]; omega) (by omega)).mono ?_
    rintro e w9 ⟨v, he, hs, hb9, T9, p9', rfl⟩
    subst he
    rw [HS0.out] at hs
    have HS9 := Lib.hid hs
    have B79 := Lib.hid (B78.out.trans (hb9.mono B78.out.size))
    have X9 := Lib.hid (obj_below hb9 X8.out (obj_lt X8.out))
    have hz9 := hb9.size
    clear hs hb9 B78
    go_wp2_with fail
    refine (Bound_calls n w9 (by omega)).mono ?_
    rintro e w9' ⟨he, hw⟩
    subst he hw
    go_wp2_with fail
    refine (Draws_calls T9 p9' ((8 * (n - 1) : Nat) : Int) w9).mono ?_
    rintro e w10 ⟨he, hw⟩
    subst he
    have hb10 : Below w9.heap.size w9 w10 := by rw [hw]; exact below_alloc1 (below_alloc1 (Below.refl _ _) _) _
    have hz10 : w10.heap.size ≤ w9.heap.size + 2 ∧ w9.heap.size + 2 ≤ w10.heap.size := by rw [hw]; simp
    have xs : w10.heap[w9.heap.size]? = some (.cells #[.iface T9 p9'] 46 (0, 0)) := by
      rw [hw]; exact obj_below ((Below.refl _ _).alloc (Nat.le_refl _) _) (heap_alloc_new w9 _) (by simp)
    have xn : w10.heap[w9.heap.size + 1]? = some (.cells #[.int .i64 ((8 * (n - 1) : Nat) : Int)] 3 (0, 0)) := by
      have h := heap_alloc_new (w9.alloc (.cells #[.iface T9 p9'] 46)) (.cells #[.int .i64 ((8 * (n - 1) : Nat) : Int)] 3)
      rw [World.size_alloc] at h
      rw [hw]; exact h
    have hat10 := At.of_src (HS9.out.only (S := fun _ => False) (Only.of_below hb10) fun _ _ _ h => h)
    obtain ⟨T9', a9, e9, hT9⟩ := hat10.shape
    injection e9 with e9a e9b
    subst e9a e9b
    have HA10 := Lib.hid hat10
    have XS := Lib.hid xs
    have XN := Lib.hid xn
    have B710 := Lib.hid (B79.out.trans (hb10.mono B79.out.size))
    have X10 := Lib.hid (obj_below hb10 X9.out (obj_lt X9.out))
    clear hw hb10 xs xn hat10 HS9 X8 X9 B79
    go_wp2_with fail
    obtain ⟨q, hq⟩ : ∃ q, 8 * (n - 1) = q := ⟨_, rfl⟩
    have hq1 : q ≤ 312 := by omega
    have HQ := Lib.hid hq
    have HI0 := Lib.hid (show DrI w7.heap.size w8.heap.size w9.heap.size w10 [] w10 from ⟨Only.refl _ _, .slice none 0 0, X10.out, World.ownsRow_nil _ _ _ _⟩)
    have XN' := Lib.hid (hq ▸ XN.out)
    refine (wpIn_wide (n := 5)).1 ?_
    refine wpIn_rangeD rfl (by omega) (gf := 58) (lb := #[.pointer (some ⟨w9.heap.size + 1, 0, none⟩), .pointer (some ⟨w9.heap.size, 0, none⟩)]) rfl trivial (enters_of Tryz.func58 (by kernel_rfl) rfl)
      (draws_iter _ w8.heap.size w9.heap.size (w9.heap.size + 1) w9.heap.size T9 a9 s (q : Int) q w10 rfl (by omega) HA10.out hT9 (by have h := XN'.out; simp [World.cell?, h]) (by have h := XS.out; simp [World.cell?, h]) (by omega))
      (fun k h => by have := h.2; omega) (fun h k => Only.trans h k) (fun W l o o' hl _ _ => KeepD.putObj (n := w10.heap.size) (fun k hk => by rcases hk with h | h | h; have := h.2; all_goals omega) _ _ _ hl) (fun _ _ _ _ _ _ h => h)
      (fun xs A B h hk => ⟨h.1, h.2.only hk fun b h1 h2 hne => hne (.inl ⟨h1, h2⟩)⟩) (fun xs A B h hk => by obtain ⟨k, h1, h2, h3, h4⟩ := h; exact ⟨k, h1, h2, h3, h4.only hk fun b h1 h2 hne => hne (.inl ⟨h1, h2⟩)⟩) (fun _ => rfl)
      (fun pre W => DrI w7.heap.size w8.heap.size w9.heap.size w10 pre W)
      (fun c pre W => False) ?hI (fun c pre A B h hs => h) HI0.out ?a1 ?assign ?body ?done ?stop
    case hI =>
      rintro pre A B ⟨i1, v, i2, i3⟩ hs
      have hs' : Only (fun k => Within w8.heap.size w9.heap.size k ∨ k = w10.heap.size + 1) A B := hs
      exact ⟨i1.trans (hs'.mono fun k _ h => h.elim (fun h => .inr (.inr h)) fun h => .inr (.inl (by omega))), v, hs'.obj i2 (fun h => h.elim (fun h => by have := h.1; omega) fun h => by omega), i3.only hs' fun k hk h => by
        have := own_base i3 k hk
        rcases h with h | h
        · have := h.2; omega
        · omega⟩
    case assign =>
      intro l x W K hK
      gi_wp2
      exact hK
    case body =>
      clear HI0
      rintro l2 pre x A0 W ⟨i1, v, i2, i3⟩ hlen hsz hIA hst hx
      obtain ⟨A1, c1, rfl, hlc1, hrd⟩ := i3.shape
      have I1 := Lib.hid i1
      have I2 := Lib.hid i2
      have I3 := Lib.hid i3
      have hbxl := obj_lt i2
      have hc13 : W.cell? ⟨w7.heap.size, 0, none⟩ = some (.slice A1 pre.length c1) := by simp [World.cell?, i2]
      have hne : ¬ OwnB (.slice A1 pre.length c1) w7.heap.size := fun h => by have := own_base i3 _ h; omega
      have HCX := Lib.hid (obj_below ((Below.refl W.heap.size W).alloc (Nat.le_refl _) (.cells #[.int .u64 x] 23)) i2 hbxl)
      have hW10 := i1.size
      clear i1 i2 i3 hrd hst hIA hx
      gi_wp2_with (gi_at_builtin; refine wpListIn_appI _ rfl (.tmp 69) (.tmp 71) 24 23 rfl .u64 8 Tryz.underlying24 info_u64M (by omega) (w10.heap.size + 2) (.slice A1 pre.length c1) pre rfl (some ⟨W.heap.size, 0, none⟩) 1 [x] rfl (I3.out.alloc1 _) (W.alloc (.cells #[.int .u64 x] 23)) (Below.refl _ _) (by simp; omega) (Rd.new W .u64 [x] 23 (by simp)) (by simp; omega) ?_; intro v1 W2 hown hob hbel hat hnil; obtain ⟨A2, c2, hv2, hlc2, _⟩ := hown.shape; subst hv2; have HOWN := Lib.hid hown; have HOB := Lib.hid hob; have HAT2 := Lib.hid hat; have hfz : W2.frozen? ⟨w7.heap.size, 0, none⟩ = false := free_blk (hob.obj HCX.out hne) 0; have hcw : W2.cell? ⟨w7.heap.size, 0, none⟩ = some (.slice A1 pre.length c1) := cell_blk (cs := [_]) (hob.obj HCX.out hne) 0; clear hown hob hbel hat hnil)
      have e1 : (pre ++ [x]).length = pre.length + 1 := by simp
      generalize hWE : W2.setCell ⟨w7.heap.size, 0, none⟩ _ = WE
      have hoB : Only (fun k => k = w7.heap.size ∨ OwnB (.slice A1 pre.length c1) k) W WE := by
        rw [← hWE]
        exact ((Only.of_below (below_alloc1 (Below.refl _ _) _)).trans (HOB.out.mono fun k _ h => .inr h)).trans ((only_set W2 w7.heap.size 0 _).mono fun k _ h => .inl h)
      have hown : ∀ k, OwnB (.slice A1 pre.length c1) k → w10.heap.size + 2 ≤ k := fun k hk => own_base I3.out k hk
      have hcell : ∀ j o, OwnB (.slice A1 pre.length c1) j → W.heap[j]? = some o → o.isCells = true := fun j o hj ho => by
        obtain ⟨cs, t, f, hcs⟩ := own_cells I3.out j hj
        rw [hcs] at ho; injection ho with ho; subst ho; rfl
      refine ⟨⟨hoB.size, fun k o hk hh hc => hoB.obj hh fun h => ?_⟩, hoB.mono fun k _ h he => ?_, I1.out.trans (hoB.mono fun k _ h => ?_), _, by rw [← hWE]; exact set_blk (cs := [_]) (HOB.out.obj HCX.out hne) 0 _, ?_⟩
      · rcases h with h | h
        · omega
        · rw [hcell k o h hh] at hc; cases hc
      · rcases h with h | h
        · rcases he with he | he | he
          · have := he.1; omega
          · omega
          · omega
        · have := hown k h
          rcases he with he | he | he
          · have := he.2; omega
          · omega
          · omega
      · rcases h with h | h
        · exact .inl h
        · exact .inr (.inl (by have := hown k h; omega))
      · rw [← hWE]
        have h9 := HOWN.out
        rw [e1] at h9
        exact h9.only (only_set W2 w7.heap.size 0 _) fun k hk e => by have := own_base h9 k hk; omega
    case done =>
      rintro _ xs WD rfl ⟨hxs, hatD⟩ ⟨i1, v, i2, i3⟩ hK
      subst hxs
      clear HI0
      obtain ⟨A1, c1, rfl, hlc1, hrd⟩ := i3.shape
      rw [told_length] at *
      have hon10 : Only (fun k => k = w7.heap.size ∨ w10.heap.size ≤ k ∨ Within w8.heap.size w9.heap.size k) w10 WD := i1
      have hlow : Below w7.heap.size w7 WD := B710.out.trans (hon10.below B710.out.size fun k hk h => by
        rcases h with h | h | h
        · omega
        · have := B710.out.size; omega
        · have := h.1; omega)
      have BD := Lib.hid (B7.out.trans (hlow.mono B7.out.size))
      have XD := Lib.hid (obj_below hlow X7.out (obj_lt X7.out))
      have ATD := Lib.hid (HAT.out.below hlow (by omega))
      have RDD := Lib.hid (HRD.out.below hlow)
      have HLOW := Lib.hid hlow
      have RS := Lib.hid hrd
      have X13 := Lib.hid i2
      have HK := Lib.hid hK
      have hbdz := obj_lt hK
      clear hatD i1 i2 i3 hK hrd hon10 hlow
      have hX := XD.out
      have p0 : WD.cell? ⟨w.heap.size, 0, none⟩ = some (.int .i64 t) := by simp [World.cell?, hX]
      have p1 : WD.cell? ⟨w.heap.size, 1, none⟩ = some (.int .i64 l) := by simp [World.cell?, hX]
      have p2 : WD.cell? ⟨w.heap.size, 2, none⟩ = some (.int .i64 d) := by simp [World.cell?, hX]
      have p3 : WD.cell? ⟨w.heap.size, 3, none⟩ = some (.bool sc) := by simp [World.cell?, hX]
      have p4 : WD.cell? ⟨w.heap.size, 4, none⟩ = some (.int .u64 sd) := by simp [World.cell?, hX]
      have p5 : WD.cell? ⟨w.heap.size, 5, none⟩ = some (.slice DA m dc) := by simp [World.cell?, hX]
      have h13 := X13.out
      have c13 : WD.cell? ⟨w7.heap.size, 0, none⟩ = some (.slice A1 q c1) := by simp [World.cell?, h13]
      have l13 := obj_lt h13
      have lbD := obj_lt hX
      obtain ⟨s3, hs3⟩ : ∃ s3 : Nat → Int, (fun i => (told s q).getD i 0) = s3 := ⟨_, rfl⟩
      have hs3e : ∀ i, i < q → s3 i = s i := fun i hi => by
        rw [← hs3]
        simp only [told, List.getD]
        rw [List.getElem?_map, List.getElem?_range hi]; rfl
      have hu64 : U64 (told s q) := fun x hx => by
        obtain ⟨i, _, rfl⟩ := List.mem_map.1 hx
        exact Drw.bd HA10.out i
      have HSC := Lib.hid (show ∀ W, Below WD.heap.size WD W → Calls Tryz.prog 22 #[.slice A1 q c1] W fun e w' => ∃ T p lo, e = .returned (.iface T p) ∧ WD.heap.size ≤ lo ∧ Src w' lo w'.heap.size (.iface T p) s3 ∧ Below W.heap.size W w' from fun W h => by
        have h1 := Script_calls A1 c1 (told s q) W (RS.out.below h) hu64 (by rw [told_length]; omega)
        rw [told_length, hs3] at h1
        refine h1.mono ?_
        rintro e w' ⟨v, he, hs, hb, T, p, rfl⟩
        exact ⟨T, p, _, he, h.size, hs, hb⟩)
      have hgc := growF_congr (rows := ls) (dim := D) (leaf := l.toNat) (s := s) (s' := s3) d.toNat (upTo ls.length) 0 0 (by rw [HG.out, EKK.out]; intro i hi; exact hs3e i (by have := HQ.out; omega))
      rw [HG.out] at hgc
      have HTR := Lib.hid (show ∀ W T p lo, Below WD.heap.size WD W → WD.heap.size ≤ lo → Src W lo W.heap.size (.iface T p) s3 → Calls Tryz.prog 19 #[.pointer (some ⟨b, 0, none⟩), .agg #[.int .i64 t, .int .i64 l, .int .i64 d, .bool sc, .int .u64 sd, .slice DA m dc], .iface T p] W fun e w' => ∃ NA2 nc2, e = .returned (.tuple #[.slice NA2 nn nc2, .int .i64 0]) ∧ RdN w' (fun _ => False) (.slice NA2 nn nc2) G.1 ∧ Below WD.heap.size WD w' from fun W T p lo hW hlo hs => by
        have hlow4 : Below w4.heap.size w4 W := B47.out.trans ((HLOW.out.mono B47.out.size).trans (hW.mono (by have := HLOW.out.size; have := B47.out.size; omega)))
        have h1 := Tree_calls b D ls AI cI t l d sc sd DA m dc lo W.heap.size (.iface T p) s3 0 W (HIT.out.only (S := fun _ => False) (Only.of_below hlow4) fun _ _ h => h) HR32.out (At.of_src hs) (by omega) (by omega) (fun q hq h => by have := (HIT.out.blk q hq).2; have := h.1; have := HLOW.out.size; have := B47.out.size; omega) (Nat.le_refl _)
        unfold TreePost at h1
        rw [HER.out, hgc] at h1
        refine h1.mono ?_
        rintro e w' ⟨vN, he, _, hgood⟩
        obtain ⟨hown, _, hon⟩ := hgood rfl
        obtain ⟨NA2, nc2, rfl, _⟩ := hown.shape
        rw [ENN.out] at he hown
        exact ⟨NA2, nc2, he, RdN.of_own hown (fun _ h => h.elim), hW.trans (hon.below hW.size fun q hq h => by have := h.1; omega)⟩)
      have hselfD : Below WD.heap.size WD WD := Below.refl _ _
      have KPD := Lib.hid (fun W (hBx : Below WD.heap.size WD W) => (show W.cell? ⟨w.heap.size, 0, none⟩ = some (.int .i64 t) ∧ W.cell? ⟨w.heap.size, 1, none⟩ = some (.int .i64 l) ∧ W.cell? ⟨w.heap.size, 2, none⟩ = some (.int .i64 d) ∧ W.cell? ⟨w.heap.size, 3, none⟩ = some (.bool sc) ∧ W.cell? ⟨w.heap.size, 4, none⟩ = some (.int .u64 sd) ∧ W.cell? ⟨w.heap.size, 5, none⟩ = some (.slice DA m dc) ∧ W.cell? ⟨w7.heap.size, 0, none⟩ = some (.slice A1 q c1) ∧ Below WD.heap.size WD W from ⟨cell_below hBx p0 lbD, cell_below hBx p1 lbD, cell_below hBx p2 lbD, cell_below hBx p3 lbD, cell_below hBx p4 lbD, cell_below hBx p5 lbD, cell_below hBx c13 l13, hBx⟩))
      clear hs3e hu64 hgc hX h13
      go_wp2_with fail
      go_region_held3 (fun W => W.cell? ⟨w.heap.size, 0, none⟩ = some (.int .i64 t) ∧ W.cell? ⟨w.heap.size, 1, none⟩ = some (.int .i64 l) ∧ W.cell? ⟨w.heap.size, 2, none⟩ = some (.int .i64 d) ∧ W.cell? ⟨w.heap.size, 3, none⟩ = some (.bool sc) ∧ W.cell? ⟨w.heap.size, 4, none⟩ = some (.int .u64 sd) ∧ W.cell? ⟨w.heap.size, 5, none⟩ = some (.slice DA m dc) ∧ W.cell? ⟨w7.heap.size, 0, none⟩ = some (.slice A1 q c1) ∧ Below WD.heap.size WD W)
        (first | exact KPD.out _ (by first | ((repeat (first | assumption | exact Below.refl _ _ | apply below_drew1 | apply below_alloc1)); done)) | go_keep)
        (first
          | (go_at_call 22; go_split_ands; (with_reducible refine Calls.mono (HSC.out _ ?_) ?_); (exact (by first | ((repeat (first | assumption | exact Below.refl _ _ | apply below_drew1 | apply below_alloc1)); done))); rintro e wa ⟨T3, pp3, lo3, he, hlo3, hsrc3, hba⟩; subst he; have hBa : Below WD.heap.size WD wa := Below.after (by first | ((repeat (first | assumption | exact Below.refl _ _ | apply below_drew1 | apply below_alloc1)); done)) hba; have HSR := Lib.hid hsrc3; clear hsrc3 hba)
          | (go_at_call 19; go_split_ands; (with_reducible refine Calls.mono (HTR.out _ T3 pp3 lo3 ?_ hlo3 HSR.out) ?_); (exact (by first | ((repeat (first | assumption | exact Below.refl _ _ | apply below_drew1 | apply below_alloc1)); done))); rintro e wb ⟨NA2, nc2, he, hrd2, hBb⟩; subst he; have HRD2 := Lib.hid hrd2; clear hrd2))
      all_goals
        clear p0 p1 p2 p3 p4 p5 c13
        obtain ⟨n1, hn1⟩ : ∃ n1, n - 1 = n1 := ⟨_, rfl⟩
        have hw1 : IntKind.i64.wrap ((n : Int) - 1) = (n1 : Int) := by rw [i64_w, wrap64_id _ (by omega)]; omega
        have hw2 : IntKind.i64.wrap (8 * (n1 : Int)) = (q : Int) := by rw [i64_w, wrap64_id _ (by have := HQ.out; omega)]; have := HQ.out; omega
        have hkq : decide ((kk : Int) ≤ (q : Int)) = true := decide_eq_true (by have := HQ.out; omega)
        have ATB := Lib.hid (show At wb w4.heap.size w6.heap.size (.iface 43 (.pointer (some ⟨w5.heap.size, 0, none⟩))) s kk from by have h := At.below ATD.out hBb (by omega); rw [EKK.out] at h; exact h)
        have BB := Lib.hid (BD.out.trans (hBb.mono BD.out.size))
        have HBN := Lib.hid (fun W => HQ.out ▸ Bound_calls n W (by omega))
        have KB := Lib.hid (obj_below hBb HK.out (obj_lt HK.out))
        clear hn1
        have HSM := Lib.hid (fun W (h : Below wb.heap.size wb W) => SameN_calls (.slice NA nn nc) (.slice NA2 nn nc2) G.1 _ _ W (ENN.out ▸ (RDD.out.below hBb).below h) (HRD2.out.below h) (by rw [ENN.out]; omega))
        go_wp2_with fail
        refine (ATB.out.drawn_calls).mono ?_
        rintro e wb2 ⟨he, hw⟩
        subst he hw
        go_wp2_with fail
        refine (HBN.out wb).mono ?_
        rintro e wb2 ⟨he, hw⟩
        subst he hw
        go_wp2_with fail
        refine (ATB.out.drawn_calls).mono ?_
        rintro e wb2 ⟨he, hw⟩
        subst he hw
        go_wp2_with fail
        refine (HSM.out wb (Below.refl _ _)).mono ?_
        rintro e we ⟨he, hbe⟩
        subst he
        have BE := Lib.hid (BB.out.trans (hbe.mono BB.out.size))
        have KE := Lib.hid (obj_below hbe KB.out (obj_lt KB.out))
        clear hbe
        go_wp2_with fail
        refine ⟨by simp, .inl ⟨_, _, rfl, run_takeDeferred KE.out, _, results_tmp rfl _ _ _, rfl, ?_⟩⟩
        exact BE.out.trans ⟨rfl, rfl, rfl, by simp, fun k hk => World.putObj_heap_other (by have := B710.out.size; have := B7.out.size; omega)⟩
    case stop =>
      rintro b cc pre W _ _ h
      exact h.elim
end Go.Proofs.YticdmglondpgaaaGreat
