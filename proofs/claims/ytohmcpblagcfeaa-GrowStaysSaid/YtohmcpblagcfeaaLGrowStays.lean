
/-
  The statement GrowStays: the walk. Conditions: the numbers lie in their kinds' ranges.
-/
import Derived.Test.YtohmcpblagcfeaaAwake13
import Derived.Test.YtohmcpblagcfeaaData3
import Derived.Shelf.Abstract
namespace Go.Proofs.Ytohmcpblagcfeaa
open Go.RowKit
set_option linter.unusedVariables false
set_option maxRecDepth 100000
set_option linter.unusedSimpArgs false
attribute [local go_sem] Oper.semAt_some

theorem chk_dimS {dim : Int} {ls : List (List Int)} (h : chkV dim ls = 0) : 1 ≤ dim ∧ dim ≤ 1024 := by
  unfold chkV at h
  split at h <;> omega
theorem rows_of1S {w : World} {A : Option Addr} {c : Nat} {xs : List Int} (t : TypeId) (hc : xs.length ≤ c) (ha : Rd w .i32 A xs) : Rows (w.alloc (.cells #[.slice A xs.length c] t)) .i32 (some ⟨w.heap.size, 0, none⟩) [xs] := by
  have hb' := heap_alloc_new w (.cells #[.slice A xs.length c] t)
  refine ⟨by simp, fun j hj => ?_⟩
  simp at hj
  subst hj
  exact ⟨_, A, c, rfl, by rw [add_plain]; exact cell_blk (cs := [_]) hb' 0, hc, ha.alloc _⟩
theorem below_putObjS {B b : Nat} {w W : World} (h : Below B w W) (hb : B ≤ b) (o : Obj) : Below B w (W.putObj b o) := h.trans ⟨rfl, rfl, rfl, by simp, fun k hk => World.putObj_heap_other (by omega)⟩
set_option maxHeartbeats 6400000 in
set_option maxRecDepth 100000 in
theorem GrowStays_law (dim : Int) (LA : Option Addr) (lc : Nat) (ls : List (List Int)) (t l d : Int) (sc : Bool) (sd : Int) (DA : Option Addr) (dn dc : Nat) (st : Int) (w : World) (hd : (Lit.int .i64 dim).wf = true) (hlc : ls.length ≤ lc) (hls : Rows w .i32 LA ls) (hlw : ∀ xs ∈ ls, ∀ n ∈ xs, (Lit.int .i32 n).wf = true)
    (wt : (Lit.int .i64 t).wf = true) (wl : (Lit.int .i64 l).wf = true) (wd : (Lit.int .i64 d).wf = true) (hst : (Lit.int .u64 st).wf = true) :
    Calls Try.prog 12 #[.int .i64 dim, .slice LA ls.length lc, .agg #[.int .i64 t, .int .i64 l, .int .i64 d, .bool sc, .int .u64 sd, .slice DA dn dc], .int .u64 st] w fun e w' => e = .returned (.bool true) ∧ Below w.heap.size w w' := by
  have HR := Lib.hid (show ∀ r ∈ ls, R32 r from fun r hr => r32_of_wf (hlw r hr))
  have KL := Lib.hid hls
  obtain ⟨n, hn⟩ : ∃ n, ls.length = n := ⟨_, rfl⟩
  have HN := Lib.hid hn
  rw [hn] at hlc ⊢
  clear hls hlw wt wl wd hd hst hn
  have k_w : Below w.heap.size w w := Below.refl _ _
  refine (callsIn_wide (n := 5)).1 ?_
  refine callsIn_of_wp_marks Try.func12 rfl trivial ?_ rfl
  refine wpIn_wide.2 ?_
  simp only [Try.ntmps12, List.size_toArray, List.length_cons, List.length_nil, Nat.reduceAdd, Nat.reduceSub, Array.replicate_succ, Array.replicate_zero, List.push_toArray, List.append_toArray, List.nil_append, List.cons_append]
  go_wp2_with fail
  obtain ⟨w1, hw⟩ : ∃ W, (((w.alloc (.cells #[.slice LA n lc] 22)).alloc (.cells #[.int .i64 t, .int .i64 l, .int .i64 d, .bool sc, .int .u64 sd, .slice DA dn dc] 67)).alloc (.cells #[.bool false] 4)) = W := ⟨_, rfl⟩
  rw [hw]
  have hbn : Below w.heap.size w w1 := by rw [← hw]; exact below_alloc1 (below_alloc1 (below_alloc1 (Below.refl _ _) _) _) _
  have b3l : w1.heap[w.heap.size]? = some (.cells #[.slice LA n lc] 22 (0, 0)) := by
    have hx := heap_alloc_new w (.cells #[.slice LA n lc] 22)
    rw [← hw]
    exact obj_below (B := w.heap.size + 1) (by first | exact (Below.refl _ _).alloc (by simp) _ | exact ((Below.refl _ _).alloc (by simp) _).alloc (by simp) _ | exact (((Below.refl _ _).alloc (by simp) _).alloc (by simp) _).alloc (by simp) _) hx (by omega)
  have b3p : w1.heap[w.heap.size + 1]? = some (.cells #[.int .i64 t, .int .i64 l, .int .i64 d, .bool sc, .int .u64 sd, .slice DA dn dc] 67 (0, 0)) := by
    have hx := heap_alloc_new (w.alloc (.cells #[.slice LA n lc] 22)) (.cells #[.int .i64 t, .int .i64 l, .int .i64 d, .bool sc, .int .u64 sd, .slice DA dn dc] 67)
    simp only [World.size_alloc] at hx
    rw [← hw]
    exact obj_below (B := w.heap.size + 2) (by first | exact (Below.refl _ _).alloc (by simp) _ | exact ((Below.refl _ _).alloc (by simp) _).alloc (by simp) _ | exact (((Below.refl _ _).alloc (by simp) _).alloc (by simp) _).alloc (by simp) _) hx (by omega)
  have b3r : w1.heap[w.heap.size + 2]? = some (.cells #[.bool false] 4 (0, 0)) := by
    have hx := heap_alloc_new ((w.alloc (.cells #[.slice LA n lc] 22)).alloc (.cells #[.int .i64 t, .int .i64 l, .int .i64 d, .bool sc, .int .u64 sd, .slice DA dn dc] 67)) (.cells #[.bool false] 4)
    simp only [World.size_alloc] at hx
    rw [← hw]
    exact hx
  clear hw
  have k_w_w1 : Below w.heap.size w w1 := k_w.trans (hbn.mono k_w.size)
  clear k_w
  clear hbn
  have b2 := b3l
  clear b3l
  have h_l0 : w1.cell? ⟨w.heap.size, 0, none⟩ = some (.slice LA n lc) := by simp [World.cell?, b2]
  have b_l := Lib.hid b2
  clear b2
  have b2 := b3p
  clear b3p
  have h_p0 : w1.cell? ⟨w.heap.size + 1, 0, none⟩ = some (.int .i64 t) := by simp [World.cell?, b2]
  have h_p1 : w1.cell? ⟨w.heap.size + 1, 1, none⟩ = some (.int .i64 l) := by simp [World.cell?, b2]
  have h_p2 : w1.cell? ⟨w.heap.size + 1, 2, none⟩ = some (.int .i64 d) := by simp [World.cell?, b2]
  have h_p3 : w1.cell? ⟨w.heap.size + 1, 3, none⟩ = some (.bool sc) := by simp [World.cell?, b2]
  have h_p4 : w1.cell? ⟨w.heap.size + 1, 4, none⟩ = some (.int .u64 sd) := by simp [World.cell?, b2]
  have h_p5 : w1.cell? ⟨w.heap.size + 1, 5, none⟩ = some (.slice DA dn dc) := by simp [World.cell?, b2]
  have b_p := Lib.hid b2
  clear b2
  have b2 := b3r
  clear b3r
  have h_r0 : w1.cell? ⟨w.heap.size + 2, 0, none⟩ = some (.bool false) := by simp [World.cell?, b2]
  have f_r0 : w1.frozen? ⟨w.heap.size + 2, 0, none⟩ = false := by simp [World.frozen?, b2]
  have b_r := Lib.hid b2
  clear b2
  go_wp2_with fail
  refine (awake13_calls _  ).mono ?_
  rintro e w2 ⟨he, hbn⟩
  subst he
  have k_w_w2 : Below w.heap.size w w2 := k_w_w1.trans (hbn.mono k_w_w1.size)
  clear k_w_w1
  have b2 := obj_below hbn b_l.out (obj_lt b_l.out)
  clear b_l h_l0
  have h_l0 : w2.cell? ⟨w.heap.size, 0, none⟩ = some (.slice LA n lc) := by simp [World.cell?, b2]
  have b_l := Lib.hid b2
  clear b2
  have b2 := obj_below hbn b_p.out (obj_lt b_p.out)
  clear b_p h_p0 h_p1 h_p2 h_p3 h_p4 h_p5
  have h_p0 : w2.cell? ⟨w.heap.size + 1, 0, none⟩ = some (.int .i64 t) := by simp [World.cell?, b2]
  have h_p1 : w2.cell? ⟨w.heap.size + 1, 1, none⟩ = some (.int .i64 l) := by simp [World.cell?, b2]
  have h_p2 : w2.cell? ⟨w.heap.size + 1, 2, none⟩ = some (.int .i64 d) := by simp [World.cell?, b2]
  have h_p3 : w2.cell? ⟨w.heap.size + 1, 3, none⟩ = some (.bool sc) := by simp [World.cell?, b2]
  have h_p4 : w2.cell? ⟨w.heap.size + 1, 4, none⟩ = some (.int .u64 sd) := by simp [World.cell?, b2]
  have h_p5 : w2.cell? ⟨w.heap.size + 1, 5, none⟩ = some (.slice DA dn dc) := by simp [World.cell?, b2]
  have b_p := Lib.hid b2
  clear b2
  have b2 := obj_below hbn b_r.out (obj_lt b_r.out)
  clear b_r h_r0 f_r0
  have h_r0 : w2.cell? ⟨w.heap.size + 2, 0, none⟩ = some (.bool false) := by simp [World.cell?, b2]
  have f_r0 : w2.frozen? ⟨w.heap.size + 2, 0, none⟩ = false := by simp [World.frozen?, b2]
  have b_r := Lib.hid b2
  clear b2
  clear hbn
  have BLw2 := Lib.hid b_l.out
  have BPw2 := Lib.hid b_p.out
  have BRw2 := Lib.hid b_r.out
  have HBw2 := Lib.hid k_w_w2
  have hl0 := h_l0
  clear h_l0 h_p0 h_p1 h_p2 h_p3 h_p4 h_p5 h_r0 f_r0 b_l b_p b_r
  have hll : w.heap.size < w2.heap.size := obj_lt BLw2.out
  have hrl : w.heap.size + 2 < w2.heap.size := by have h := obj_lt BRw2.out; omega
  have hbr : Below w2.heap.size w2 w2 := Below.refl _ _
  have HSM := Lib.hid (show ∀ W, Below w2.heap.size w2 W → Calls Try.prog 33 #[.int .i64 dim, .slice LA n lc] W (Some13Post W dim ls) from fun W hW => HN.out ▸ some13_calls dim LA lc ls W (KL.out.below (HBw2.out.trans (hW.mono HBw2.out.size))))
  clear k_w_w2
  go_wp2_with fail
  go_region_held3 (fun w' => w'.cell? ⟨w.heap.size, 0, none⟩ = some (.slice LA n lc) ∧ Below w2.heap.size w2 w')
    (first | exact ⟨cell_below (B := w2.heap.size) (w := w2) (by first | ((repeat (first | assumption | exact Below.refl _ _ | apply below_drew1 | apply below_alloc1)); done)) hl0 hll, (by first | ((repeat (first | assumption | exact Below.refl _ _ | apply below_drew1 | apply below_alloc1)); done))⟩ | go_keep)
    (first
      | (go_at_call 33; (fail_if_success (have hg := HV1)); go_split_ands; (with_reducible refine Calls.mono (HSM.out _ ?_) ?_); (exact (by first | ((repeat (first | assumption | exact Below.refl _ _ | apply below_drew1 | apply below_alloc1)); done))); rintro e wq ⟨v1, he, hbq, hv1⟩; subst he; have hB1 : Below w2.heap.size w2 wq := Below.after (by first | ((repeat (first | assumption | exact Below.refl _ _ | apply below_drew1 | apply below_alloc1)); done)) hbq; have HV1 := Lib.hid hv1; have HW1q := Lib.hid hB1; have hszq := hB1.size; clear hv1 hbq)
      | (go_at_call 33; go_split_ands; (with_reducible refine Calls.mono (HSM.out _ ?_) ?_); (exact (by first | ((repeat (first | assumption | exact Below.refl _ _ | apply below_drew1 | apply below_alloc1)); done))); rintro e w3 ⟨v2, he, hbq, hv2⟩; subst he; have hB2 : Below w2.heap.size w2 w3 := Below.after (by first | ((repeat (first | assumption | exact Below.refl _ _ | apply below_drew1 | apply below_alloc1)); done)) hbq; have hBq : Below wq.heap.size wq w3 := Below.after (by first | ((repeat (first | assumption | exact Below.refl _ _ | apply below_drew1 | apply below_alloc1)); done)) hbq; have HV2 := Lib.hid hv2; clear hv2 hbq))
  have hbz : Below w2.heap.size w2 w3 := by assumption
  have hbq3 : Below wq.heap.size wq w3 := by assumption
  have BPw3 := Lib.hid (obj_below hbz BPw2.out (obj_lt BPw2.out))
  have BLw3 := Lib.hid (obj_below hbz BLw2.out (obj_lt BLw2.out))
  have BRw3 := Lib.hid (obj_below hbz BRw2.out (obj_lt BRw2.out))
  have HW := Lib.hid (HBw2.out.trans (hbz.mono HBw2.out.size))
  have BR := Lib.hid BRw3.out
  have hr0 : w3.cell? ⟨w.heap.size + 2, 0, none⟩ = some (.bool false) := by have h := BR.out; simp [World.cell?, h]
  have hrf : w3.frozen? ⟨w.heap.size + 2, 0, none⟩ = false := by have h := BR.out; simp [World.frozen?, h]
  have hz3 := hbz.size
  have HQ3 := Lib.hid hbq3
  clear hbz hbq3 hl0 HSM
  rcases HV1.out with rfl | ⟨b1, rfl, hwb1, hit1, hchk1, hl31⟩
  · go_wp2_with fail
    exact ⟨_, results_boxed rfl rfl _ _ true rfl (by simp [World.cell?, set_blk (cs := [_]) BR.out 0 (.bool true)]), rfl, below_set HW.out (by omega) _ _⟩
  rcases HV2.out with rfl | ⟨b2, rfl, hwb2, hit2, hchk2, hl32⟩
  · go_wp2_with fail
    exact ⟨_, results_boxed rfl rfl _ _ true rfl (by simp [World.cell?, set_blk (cs := [_]) BR.out 0 (.bool true)]), rfl, below_set HW.out (by omega) _ _⟩
  clear HV1 HV2 hr0 hrf
  have hdim := chk_dimS hchk1
  obtain ⟨D, rfl⟩ : ∃ D : Nat, dim = (D : Int) := ⟨dim.toNat, by omega⟩
  rw [Int.toNat_natCast] at hit1 hit2
  obtain ⟨AI1, cI1, hitv1⟩ := hit1.v
  obtain ⟨AI2, cI2, hitv2⟩ := hit2.v
  have HI13 := Lib.hid (hitv1.only (S := fun _ => False) (Only.of_below HQ3.out) fun _ _ h => h)
  have HIb1 := Lib.hid (show ∀ W, Below w3.heap.size w3 W → ItV W b1 D ls AI1 cI1 from fun W hW => HI13.out.only (S := fun _ => False) (Only.of_below hW) fun _ _ h => h)
  have HIb2 := Lib.hid (show ∀ W, Below w3.heap.size w3 W → ItV W b2 D ls AI2 cI2 from fun W hW => hitv2.only (S := fun _ => False) (Only.of_below hW) fun _ _ h => h)
  rw [HN.out] at hl31
  obtain ⟨E, hE⟩ : ∃ E, treeErr n t l d = E := ⟨_, rfl⟩
  have HE := Lib.hid hE
  have htl : ∀ TT : List NodeV, TT = (if E = 0 then (growF ls D l.toNat (fun i => mixAt st (i + 1)) d.toNat (upTo n) 0 0).1 else []) → TT.length ≤ 1000000 := fun TT h => by
    rw [h]
    split
    · rename_i hE0
      rw [← hE] at hE0
      have hg : growErr t l d = 0 ∧ n ≠ 0 := by
        unfold treeErr at hE0
        split at hE0
        · omega
        · split at hE0
          · omega
          · exact ⟨by omega, by assumption⟩
      obtain ⟨g1, g2, _⟩ := growErr_zero hg.1
      have := growF_size ls D (fun i => mixAt st (i + 1)) (leaf := l.toNat) (by omega) d.toNat (upTo n) 0 0 (by rw [upTo_length]; omega)
      rw [upTo_length] at this
      omega
    · simp
  obtain ⟨TT, hTT⟩ : ∃ TT : List NodeV, TT = (if E = 0 then (growF ls D l.toNat (fun i => mixAt st (i + 1)) d.toNat (upTo n) 0 0).1 else []) := ⟨_, rfl⟩
  have hTl := htl TT hTT
  have HTT := Lib.hid hTT
  have HBw3 := Lib.hid (Below.refl w3.heap.size w3)
  clear hit1 hit2 hitv1 hitv2 hchk1 hchk2 htl hTT hE HI13 hl32
  have p0 : w3.cell? ⟨w.heap.size + 1, 0, none⟩ = some (.int .i64 t) := by have h := BPw3.out; simp [World.cell?, h]
  have p1 : w3.cell? ⟨w.heap.size + 1, 1, none⟩ = some (.int .i64 l) := by have h := BPw3.out; simp [World.cell?, h]
  have p2 : w3.cell? ⟨w.heap.size + 1, 2, none⟩ = some (.int .i64 d) := by have h := BPw3.out; simp [World.cell?, h]
  have p3 : w3.cell? ⟨w.heap.size + 1, 3, none⟩ = some (.bool sc) := by have h := BPw3.out; simp [World.cell?, h]
  have p4 : w3.cell? ⟨w.heap.size + 1, 4, none⟩ = some (.int .u64 sd) := by have h := BPw3.out; simp [World.cell?, h]
  have p5 : w3.cell? ⟨w.heap.size + 1, 5, none⟩ = some (.slice DA dn dc) := by have h := BPw3.out; simp [World.cell?, h]
  have hlp : w.heap.size + 1 < w3.heap.size := obj_lt BPw3.out
  have HMC := Lib.hid (show ∀ W, Below w3.heap.size w3 W → Calls Try.prog 26 #[.int .u64 st] W (fun e ws => ∃ lo T p, e = .returned (.iface T p) ∧ At ws lo ws.heap.size (.iface T p) (fun i => mixAt st (i + 1)) 0 ∧ w3.heap.size ≤ lo ∧ Below W.heap.size W ws) from fun W hW => by
    refine (Mix_calls st W).mono ?_
    rintro e ws ⟨v, he, hs, hb, T, p, rfl⟩
    exact ⟨W.heap.size, T, p, he, At.of_src hs, hW.size, hb⟩)
  have HTC := Lib.hid (show ∀ (W : World) (lo hi : Nat) (v : Value), At W lo hi v (fun i => mixAt st (i + 1)) 0 → Below w3.heap.size w3 W → w3.heap.size ≤ lo → hi ≤ W.heap.size → Calls Try.prog 31 #[.pointer (some ⟨b1, 0, none⟩), .agg #[.int .i64 t, .int .i64 l, .int .i64 d, .bool sc, .int .u64 sd, .slice DA dn dc], v] W (fun e w' => ∃ vN, e = .returned (.tuple #[vN, .int .i64 E]) ∧ RdN w' (fun _ => False) vN TT ∧ Below w3.heap.size w3 w') from fun W lo hi v h1 h2 h3 h4 => by
    have hit := (HIb1.out w3 HBw3.out).only (S := fun _ => False) (Only.of_below h2) fun _ _ h => h
    have hzW := h2.size
    refine (Tree_calls b1 D ls _ _ t l d sc sd DA dn dc lo hi v (fun i => mixAt st (i + 1)) 0 W hit HR.out h1 (by omega) (by rw [HN.out]; omega) (fun q hq h => by have := ((HIb1.out w3 HBw3.out).blk q hq).2; have := h.1; omega) h4).mono ?_
    rintro e w' ⟨vN, he, hbad, hgood⟩
    rw [HN.out, HE.out] at he hbad hgood
    refine ⟨vN, he, ?_⟩
    by_cases hE0 : E = 0
    · obtain ⟨hown, _, hon⟩ := hgood hE0
      refine ⟨?_, ⟨hon.os.trans h2.os, hon.tape.trans h2.tape, hon.output.trans h2.output, Nat.le_trans h2.size hon.size, fun q hq => (hon.block q (by omega) fun h => by have := h.1; omega).trans (h2.block q hq)⟩⟩
      rw [HTT.out, if_pos hE0]
      exact RdN.of_own hown (fun _ h => h.elim)
    · obtain ⟨rfl, hbw⟩ := hbad hE0
      refine ⟨?_, h2.trans (hbw.mono hzW)⟩
      rw [HTT.out, if_neg hE0]
      exact RdN.of_own (OwnN.nil w' 0 (fun _ => False)) (fun _ h => h.elim))
  have hbr : Below w3.heap.size w3 w3 := Below.refl _ _
  go_wp2_with fail
  go_region_held3 (fun w' => w'.cell? ⟨w.heap.size + 1, 0, none⟩ = some (.int .i64 t) ∧ w'.cell? ⟨w.heap.size + 1, 1, none⟩ = some (.int .i64 l) ∧ w'.cell? ⟨w.heap.size + 1, 2, none⟩ = some (.int .i64 d) ∧ w'.cell? ⟨w.heap.size + 1, 3, none⟩ = some (.bool sc) ∧ w'.cell? ⟨w.heap.size + 1, 4, none⟩ = some (.int .u64 sd) ∧ w'.cell? ⟨w.heap.size + 1, 5, none⟩ = some (.slice DA dn dc) ∧ Below w3.heap.size w3 w')
    (first | exact ⟨cell_below (B := w3.heap.size) (w := w3) (by first | ((repeat (first | assumption | exact Below.refl _ _ | apply below_drew1 | apply below_alloc1)); done)) p0 hlp, cell_below (B := w3.heap.size) (w := w3) (by first | ((repeat (first | assumption | exact Below.refl _ _ | apply below_drew1 | apply below_alloc1)); done)) p1 hlp, cell_below (B := w3.heap.size) (w := w3) (by first | ((repeat (first | assumption | exact Below.refl _ _ | apply below_drew1 | apply below_alloc1)); done)) p2 hlp, cell_below (B := w3.heap.size) (w := w3) (by first | ((repeat (first | assumption | exact Below.refl _ _ | apply below_drew1 | apply below_alloc1)); done)) p3 hlp, cell_below (B := w3.heap.size) (w := w3) (by first | ((repeat (first | assumption | exact Below.refl _ _ | apply below_drew1 | apply below_alloc1)); done)) p4 hlp, cell_below (B := w3.heap.size) (w := w3) (by first | ((repeat (first | assumption | exact Below.refl _ _ | apply below_drew1 | apply below_alloc1)); done)) p5 hlp, (by first | ((repeat (first | assumption | exact Below.refl _ _ | apply below_drew1 | apply below_alloc1)); done))⟩ | go_keep)
    (first
      | (go_at_call 26; go_split_ands; (with_reducible refine Calls.mono (HMC.out _ ?_) ?_); (exact (by first | ((repeat (first | assumption | exact Below.refl _ _ | apply below_drew1 | apply below_alloc1)); done))); rintro e ws ⟨lo, T', p', he, hat, hlo, hbs⟩; subst he; have hB1 : Below w3.heap.size w3 ws := Below.after (by first | ((repeat (first | assumption | exact Below.refl _ _ | apply below_drew1 | apply below_alloc1)); done)) hbs; have HAT := Lib.hid hat; clear hat hbs)
      | (go_at_call 31; go_split_ands; (with_reducible refine Calls.mono (HTC.out _ _ _ _ (HAT.out.below (by first | ((repeat (first | assumption | exact Below.refl _ _ | apply below_drew1 | apply below_alloc1)); done)) (Nat.le_refl _)) ?_ hlo (by first | exact Nat.le_refl _ | (simp; done))) ?_); (exact (by first | ((repeat (first | assumption | exact Below.refl _ _ | apply below_drew1 | apply below_alloc1)); done))); rintro e w4 ⟨vNa, he, hrd, hbq⟩; subst he; have HRDa := Lib.hid hrd; have hB2 : Below w3.heap.size w3 w4 := hbq; clear hrd hbq))
  have hbz : Below w3.heap.size w3 w4 := by assumption
  have BPw4 := Lib.hid (obj_below hbz BPw3.out (obj_lt BPw3.out))
  have BLw4 := Lib.hid (obj_below hbz BLw3.out (obj_lt BLw3.out))
  have BRw4 := Lib.hid (obj_below hbz BRw3.out (obj_lt BRw3.out))
  have HBw4 := Lib.hid (HBw3.out.trans (hbz.mono HBw3.out.size))
  have HBZw4 := Lib.hid hbz
  clear hbz p0 p1 p2 p3 p4 p5 HMC HTC hlp
  have p0 : w4.cell? ⟨w.heap.size + 1, 0, none⟩ = some (.int .i64 t) := by have h := BPw4.out; simp [World.cell?, h]
  have p1 : w4.cell? ⟨w.heap.size + 1, 1, none⟩ = some (.int .i64 l) := by have h := BPw4.out; simp [World.cell?, h]
  have p2 : w4.cell? ⟨w.heap.size + 1, 2, none⟩ = some (.int .i64 d) := by have h := BPw4.out; simp [World.cell?, h]
  have p3 : w4.cell? ⟨w.heap.size + 1, 3, none⟩ = some (.bool sc) := by have h := BPw4.out; simp [World.cell?, h]
  have p4 : w4.cell? ⟨w.heap.size + 1, 4, none⟩ = some (.int .u64 sd) := by have h := BPw4.out; simp [World.cell?, h]
  have p5 : w4.cell? ⟨w.heap.size + 1, 5, none⟩ = some (.slice DA dn dc) := by have h := BPw4.out; simp [World.cell?, h]
  have hlp : w.heap.size + 1 < w4.heap.size := obj_lt BPw4.out
  have HMC := Lib.hid (show ∀ W, Below w4.heap.size w4 W → Calls Try.prog 26 #[.int .u64 st] W (fun e ws => ∃ lo T p, e = .returned (.iface T p) ∧ At ws lo ws.heap.size (.iface T p) (fun i => mixAt st (i + 1)) 0 ∧ w4.heap.size ≤ lo ∧ Below W.heap.size W ws) from fun W hW => by
    refine (Mix_calls st W).mono ?_
    rintro e ws ⟨v, he, hs, hb, T, p, rfl⟩
    exact ⟨W.heap.size, T, p, he, At.of_src hs, hW.size, hb⟩)
  have HTC := Lib.hid (show ∀ (W : World) (lo hi : Nat) (v : Value), At W lo hi v (fun i => mixAt st (i + 1)) 0 → Below w4.heap.size w4 W → w4.heap.size ≤ lo → hi ≤ W.heap.size → Calls Try.prog 31 #[.pointer (some ⟨b1, 0, none⟩), .agg #[.int .i64 t, .int .i64 l, .int .i64 d, .bool sc, .int .u64 sd, .slice DA dn dc], v] W (fun e w' => ∃ vN, e = .returned (.tuple #[vN, .int .i64 E]) ∧ RdN w' (fun _ => False) vN TT ∧ Below w4.heap.size w4 w') from fun W lo hi v h1 h2 h3 h4 => by
    have hit := (HIb1.out w4 HBw4.out).only (S := fun _ => False) (Only.of_below h2) fun _ _ h => h
    have hzW := h2.size
    refine (Tree_calls b1 D ls _ _ t l d sc sd DA dn dc lo hi v (fun i => mixAt st (i + 1)) 0 W hit HR.out h1 (by omega) (by rw [HN.out]; omega) (fun q hq h => by have := ((HIb1.out w4 HBw4.out).blk q hq).2; have := h.1; omega) h4).mono ?_
    rintro e w' ⟨vN, he, hbad, hgood⟩
    rw [HN.out, HE.out] at he hbad hgood
    refine ⟨vN, he, ?_⟩
    by_cases hE0 : E = 0
    · obtain ⟨hown, _, hon⟩ := hgood hE0
      refine ⟨?_, ⟨hon.os.trans h2.os, hon.tape.trans h2.tape, hon.output.trans h2.output, Nat.le_trans h2.size hon.size, fun q hq => (hon.block q (by omega) fun h => by have := h.1; omega).trans (h2.block q hq)⟩⟩
      rw [HTT.out, if_pos hE0]
      exact RdN.of_own hown (fun _ h => h.elim)
    · obtain ⟨rfl, hbw⟩ := hbad hE0
      refine ⟨?_, h2.trans (hbw.mono hzW)⟩
      rw [HTT.out, if_neg hE0]
      exact RdN.of_own (OwnN.nil w' 0 (fun _ => False)) (fun _ h => h.elim))
  have hbr : Below w4.heap.size w4 w4 := Below.refl _ _
  go_wp2_with fail
  go_region_held3 (fun w' => w'.cell? ⟨w.heap.size + 1, 0, none⟩ = some (.int .i64 t) ∧ w'.cell? ⟨w.heap.size + 1, 1, none⟩ = some (.int .i64 l) ∧ w'.cell? ⟨w.heap.size + 1, 2, none⟩ = some (.int .i64 d) ∧ w'.cell? ⟨w.heap.size + 1, 3, none⟩ = some (.bool sc) ∧ w'.cell? ⟨w.heap.size + 1, 4, none⟩ = some (.int .u64 sd) ∧ w'.cell? ⟨w.heap.size + 1, 5, none⟩ = some (.slice DA dn dc) ∧ Below w4.heap.size w4 w')
    (first | exact ⟨cell_below (B := w4.heap.size) (w := w4) (by first | ((repeat (first | assumption | exact Below.refl _ _ | apply below_drew1 | apply below_alloc1)); done)) p0 hlp, cell_below (B := w4.heap.size) (w := w4) (by first | ((repeat (first | assumption | exact Below.refl _ _ | apply below_drew1 | apply below_alloc1)); done)) p1 hlp, cell_below (B := w4.heap.size) (w := w4) (by first | ((repeat (first | assumption | exact Below.refl _ _ | apply below_drew1 | apply below_alloc1)); done)) p2 hlp, cell_below (B := w4.heap.size) (w := w4) (by first | ((repeat (first | assumption | exact Below.refl _ _ | apply below_drew1 | apply below_alloc1)); done)) p3 hlp, cell_below (B := w4.heap.size) (w := w4) (by first | ((repeat (first | assumption | exact Below.refl _ _ | apply below_drew1 | apply below_alloc1)); done)) p4 hlp, cell_below (B := w4.heap.size) (w := w4) (by first | ((repeat (first | assumption | exact Below.refl _ _ | apply below_drew1 | apply below_alloc1)); done)) p5 hlp, (by first | ((repeat (first | assumption | exact Below.refl _ _ | apply below_drew1 | apply below_alloc1)); done))⟩ | go_keep)
    (first
      | (go_at_call 26; go_split_ands; (with_reducible refine Calls.mono (HMC.out _ ?_) ?_); (exact (by first | ((repeat (first | assumption | exact Below.refl _ _ | apply below_drew1 | apply below_alloc1)); done))); rintro e ws ⟨lo, T', p', he, hat, hlo, hbs⟩; subst he; have hB1 : Below w4.heap.size w4 ws := Below.after (by first | ((repeat (first | assumption | exact Below.refl _ _ | apply below_drew1 | apply below_alloc1)); done)) hbs; have HAT := Lib.hid hat; clear hat hbs)
      | (go_at_call 31; go_split_ands; (with_reducible refine Calls.mono (HTC.out _ _ _ _ (HAT.out.below (by first | ((repeat (first | assumption | exact Below.refl _ _ | apply below_drew1 | apply below_alloc1)); done)) (Nat.le_refl _)) ?_ hlo (by first | exact Nat.le_refl _ | (simp; done))) ?_); (exact (by first | ((repeat (first | assumption | exact Below.refl _ _ | apply below_drew1 | apply below_alloc1)); done))); rintro e w5 ⟨vNb, he, hrd, hbq⟩; subst he; have HRDb := Lib.hid hrd; have hB2 : Below w4.heap.size w4 w5 := hbq; clear hrd hbq))
  have hbz : Below w4.heap.size w4 w5 := by assumption
  have BPw5 := Lib.hid (obj_below hbz BPw4.out (obj_lt BPw4.out))
  have BLw5 := Lib.hid (obj_below hbz BLw4.out (obj_lt BLw4.out))
  have BRw5 := Lib.hid (obj_below hbz BRw4.out (obj_lt BRw4.out))
  have HBw5 := Lib.hid (HBw4.out.trans (hbz.mono HBw4.out.size))
  have HBZw5 := Lib.hid hbz
  clear hbz p0 p1 p2 p3 p4 p5 HMC HTC hlp
  have p0 : w5.cell? ⟨w.heap.size + 1, 0, none⟩ = some (.int .i64 t) := by have h := BPw5.out; simp [World.cell?, h]
  have p1 : w5.cell? ⟨w.heap.size + 1, 1, none⟩ = some (.int .i64 l) := by have h := BPw5.out; simp [World.cell?, h]
  have p2 : w5.cell? ⟨w.heap.size + 1, 2, none⟩ = some (.int .i64 d) := by have h := BPw5.out; simp [World.cell?, h]
  have p3 : w5.cell? ⟨w.heap.size + 1, 3, none⟩ = some (.bool sc) := by have h := BPw5.out; simp [World.cell?, h]
  have p4 : w5.cell? ⟨w.heap.size + 1, 4, none⟩ = some (.int .u64 sd) := by have h := BPw5.out; simp [World.cell?, h]
  have p5 : w5.cell? ⟨w.heap.size + 1, 5, none⟩ = some (.slice DA dn dc) := by have h := BPw5.out; simp [World.cell?, h]
  have hlp : w.heap.size + 1 < w5.heap.size := obj_lt BPw5.out
  have HMC := Lib.hid (show ∀ W, Below w5.heap.size w5 W → Calls Try.prog 26 #[.int .u64 st] W (fun e ws => ∃ lo T p, e = .returned (.iface T p) ∧ At ws lo ws.heap.size (.iface T p) (fun i => mixAt st (i + 1)) 0 ∧ w5.heap.size ≤ lo ∧ Below W.heap.size W ws) from fun W hW => by
    refine (Mix_calls st W).mono ?_
    rintro e ws ⟨v, he, hs, hb, T, p, rfl⟩
    exact ⟨W.heap.size, T, p, he, At.of_src hs, hW.size, hb⟩)
  have HTC := Lib.hid (show ∀ (W : World) (lo hi : Nat) (v : Value), At W lo hi v (fun i => mixAt st (i + 1)) 0 → Below w5.heap.size w5 W → w5.heap.size ≤ lo → hi ≤ W.heap.size → Calls Try.prog 31 #[.pointer (some ⟨b2, 0, none⟩), .agg #[.int .i64 t, .int .i64 l, .int .i64 d, .bool sc, .int .u64 sd, .slice DA dn dc], v] W (fun e w' => ∃ vN, e = .returned (.tuple #[vN, .int .i64 E]) ∧ RdN w' (fun _ => False) vN TT ∧ Below w5.heap.size w5 w') from fun W lo hi v h1 h2 h3 h4 => by
    have hit := (HIb2.out w5 HBw5.out).only (S := fun _ => False) (Only.of_below h2) fun _ _ h => h
    have hzW := h2.size
    refine (Tree_calls b2 D ls _ _ t l d sc sd DA dn dc lo hi v (fun i => mixAt st (i + 1)) 0 W hit HR.out h1 (by omega) (by rw [HN.out]; omega) (fun q hq h => by have := ((HIb2.out w5 HBw5.out).blk q hq).2; have := h.1; omega) h4).mono ?_
    rintro e w' ⟨vN, he, hbad, hgood⟩
    rw [HN.out, HE.out] at he hbad hgood
    refine ⟨vN, he, ?_⟩
    by_cases hE0 : E = 0
    · obtain ⟨hown, _, hon⟩ := hgood hE0
      refine ⟨?_, ⟨hon.os.trans h2.os, hon.tape.trans h2.tape, hon.output.trans h2.output, Nat.le_trans h2.size hon.size, fun q hq => (hon.block q (by omega) fun h => by have := h.1; omega).trans (h2.block q hq)⟩⟩
      rw [HTT.out, if_pos hE0]
      exact RdN.of_own hown (fun _ h => h.elim)
    · obtain ⟨rfl, hbw⟩ := hbad hE0
      refine ⟨?_, h2.trans (hbw.mono hzW)⟩
      rw [HTT.out, if_neg hE0]
      exact RdN.of_own (OwnN.nil w' 0 (fun _ => False)) (fun _ h => h.elim))
  have hbr : Below w5.heap.size w5 w5 := Below.refl _ _
  go_wp2_with fail
  go_region_held3 (fun w' => w'.cell? ⟨w.heap.size + 1, 0, none⟩ = some (.int .i64 t) ∧ w'.cell? ⟨w.heap.size + 1, 1, none⟩ = some (.int .i64 l) ∧ w'.cell? ⟨w.heap.size + 1, 2, none⟩ = some (.int .i64 d) ∧ w'.cell? ⟨w.heap.size + 1, 3, none⟩ = some (.bool sc) ∧ w'.cell? ⟨w.heap.size + 1, 4, none⟩ = some (.int .u64 sd) ∧ w'.cell? ⟨w.heap.size + 1, 5, none⟩ = some (.slice DA dn dc) ∧ Below w5.heap.size w5 w')
    (first | exact ⟨cell_below (B := w5.heap.size) (w := w5) (by first | ((repeat (first | assumption | exact Below.refl _ _ | apply below_drew1 | apply below_alloc1)); done)) p0 hlp, cell_below (B := w5.heap.size) (w := w5) (by first | ((repeat (first | assumption | exact Below.refl _ _ | apply below_drew1 | apply below_alloc1)); done)) p1 hlp, cell_below (B := w5.heap.size) (w := w5) (by first | ((repeat (first | assumption | exact Below.refl _ _ | apply below_drew1 | apply below_alloc1)); done)) p2 hlp, cell_below (B := w5.heap.size) (w := w5) (by first | ((repeat (first | assumption | exact Below.refl _ _ | apply below_drew1 | apply below_alloc1)); done)) p3 hlp, cell_below (B := w5.heap.size) (w := w5) (by first | ((repeat (first | assumption | exact Below.refl _ _ | apply below_drew1 | apply below_alloc1)); done)) p4 hlp, cell_below (B := w5.heap.size) (w := w5) (by first | ((repeat (first | assumption | exact Below.refl _ _ | apply below_drew1 | apply below_alloc1)); done)) p5 hlp, (by first | ((repeat (first | assumption | exact Below.refl _ _ | apply below_drew1 | apply below_alloc1)); done))⟩ | go_keep)
    (first
      | (go_at_call 26; go_split_ands; (with_reducible refine Calls.mono (HMC.out _ ?_) ?_); (exact (by first | ((repeat (first | assumption | exact Below.refl _ _ | apply below_drew1 | apply below_alloc1)); done))); rintro e ws ⟨lo, T', p', he, hat, hlo, hbs⟩; subst he; have hB1 : Below w5.heap.size w5 ws := Below.after (by first | ((repeat (first | assumption | exact Below.refl _ _ | apply below_drew1 | apply below_alloc1)); done)) hbs; have HAT := Lib.hid hat; clear hat hbs)
      | (go_at_call 31; go_split_ands; (with_reducible refine Calls.mono (HTC.out _ _ _ _ (HAT.out.below (by first | ((repeat (first | assumption | exact Below.refl _ _ | apply below_drew1 | apply below_alloc1)); done)) (Nat.le_refl _)) ?_ hlo (by first | exact Nat.le_refl _ | (simp; done))) ?_); (exact (by first | ((repeat (first | assumption | exact Below.refl _ _ | apply below_drew1 | apply below_alloc1)); done))); rintro e w6 ⟨vNc, he, hrd, hbq⟩; subst he; have HRDc := Lib.hid hrd; have hB2 : Below w5.heap.size w5 w6 := hbq; clear hrd hbq))
  have hbz : Below w5.heap.size w5 w6 := by assumption
  have BPw6 := Lib.hid (obj_below hbz BPw5.out (obj_lt BPw5.out))
  have BLw6 := Lib.hid (obj_below hbz BLw5.out (obj_lt BLw5.out))
  have BRw6 := Lib.hid (obj_below hbz BRw5.out (obj_lt BRw5.out))
  have HBw6 := Lib.hid (HBw5.out.trans (hbz.mono HBw5.out.size))
  have HBZw6 := Lib.hid hbz
  clear hbz p0 p1 p2 p3 p4 p5 HMC HTC hlp
  have HRa := Lib.hid (HRDa.out.below (HBZw5.out.trans (HBZw6.out.mono HBZw5.out.size)))
  have HRb := Lib.hid (HRDb.out.below HBZw6.out)
  have hl0 : w6.cell? ⟨w.heap.size, 0, none⟩ = some (.slice LA n lc) := by have h := BLw6.out; simp [World.cell?, h]
  have hll : w.heap.size < w6.heap.size := obj_lt BLw6.out
  have hbr : Below w6.heap.size w6 w6 := Below.refl _ _
  have HLN := Lib.hid (show ∀ W, Below w6.heap.size w6 W → Calls Try.prog 39 #[.pointer (some ⟨b1, 0, none⟩)] W (fun e w' => e = .returned (.int .i64 (n : Int)) ∧ Below W.heap.size W w') from fun W hW => by
    have h := HN.out ▸ Len_calls b1 D ls W (HIb1.out W (HBw6.out.trans (hW.mono HBw6.out.size))).it
    refine h.mono fun e w' ⟨he, q, hq⟩ => ⟨he, ?_⟩
    rw [hq]; exact below_drewN_self _ _)
  clear HRDa HRDb
  go_wp2_with fail
  go_region_held3 (fun w' => w'.cell? ⟨w.heap.size, 0, none⟩ = some (.slice LA n lc) ∧ Below w6.heap.size w6 w')
    (first | exact ⟨cell_below (B := w6.heap.size) (w := w6) (by first | ((repeat (first | assumption | exact Below.refl _ _ | apply below_drew1 | apply below_alloc1)); done)) hl0 hll, (by first | ((repeat (first | assumption | exact Below.refl _ _ | apply below_drew1 | apply below_alloc1)); done))⟩ | go_keep)
    (first
      | (go_at_call 32; go_split_ands; (with_reducible refine Calls.mono (SameN_calls _ _ TT (fun _ => False) (fun _ => False) _ ?_ ?_ hTl) ?_); (exact HRa.out.below (by first | ((repeat (first | assumption | exact Below.refl _ _ | apply below_drew1 | apply below_alloc1)); done))); (first | exact HRb.out.below (by first | ((repeat (first | assumption | exact Below.refl _ _ | apply below_drew1 | apply below_alloc1)); done)) | exact HRDc.out.below (by first | ((repeat (first | assumption | exact Below.refl _ _ | apply below_drew1 | apply below_alloc1)); done))); rintro e wq ⟨he, hbq⟩; subst he; have hB2 : Below w6.heap.size w6 wq := Below.after (by first | ((repeat (first | assumption | exact Below.refl _ _ | apply below_drew1 | apply below_alloc1)); done)) hbq)
      | (go_at_call 39; go_split_ands; (with_reducible refine Calls.mono (HLN.out _ ?_) ?_); (exact (by first | ((repeat (first | assumption | exact Below.refl _ _ | apply below_drew1 | apply below_alloc1)); done))); rintro e w7 ⟨he, hbq⟩; subst he; have hB3 : Below w6.heap.size w6 w7 := Below.after (by first | ((repeat (first | assumption | exact Below.refl _ _ | apply below_drew1 | apply below_alloc1)); done)) hbq))
  have hbz : Below w6.heap.size w6 w7 := by assumption
  have HIT7 := Lib.hid (HIb1.out w7 (HBw6.out.trans (hbz.mono HBw6.out.size)))
  have BL7 := Lib.hid (obj_below hbz BLw6.out (obj_lt BLw6.out))
  have BR7 := Lib.hid (obj_below hbz BRw6.out (obj_lt BRw6.out))
  have HW7 := Lib.hid (HW.out.trans ((HBw6.out.trans (hbz.mono HBw6.out.size)).mono HW.out.size))
  have hz7 := HW7.out.size
  clear hbz hl0 hll HLN HRa HRb HRDc
  go_wp2_with fail
  refine (DAll_calls b1 w7).mono ?_
  rintro e w8 ⟨he, hw8⟩
  subst he
  have hbn8 : Below w7.heap.size w7 w8 := by rw [hw8]; exact below_alloc1 (Below.refl _ _) _
  have bB8 : w8.heap[w7.heap.size]? = some (.cells #[.pointer (some ⟨b1, 0, none⟩)] 28 (0, 0)) := by rw [hw8]; exact heap_alloc_new _ _
  have z78 : w8.heap.size ≤ w7.heap.size + 1 ∧ w7.heap.size + 1 ≤ w8.heap.size := by rw [hw8]; simp
  have H78 := Lib.hid hbn8
  have HBB := Lib.hid bB8
  have hrl7 : w.heap.size + 2 < w7.heap.size := obj_lt BR7.out
  clear hw8 hbn8 bB8
  go_wp2_with fail
  refine (wpIn_wide (n := 5)).1 ?_
  refine wpIn_rangeD rfl (by omega) (gf := 60) (lb := #[.pointer (some ⟨w7.heap.size, 0, none⟩)]) rfl trivial (enters_of Try.func60 (by kernel_rfl) rfl)
    (ditems_iter _ w7.heap.size b1 D ls w7 w8 H78.out HIT7.out.it HBB.out)
    (fun k h => h.elim) (fun h k => Only.trans h k) (fun W l o o' hl _ _ => KpD.putObj (by omega) (by omega)) XD.putObj
    (fun xs A B h _ => h) (fun xs A B h _ => h) (fun _ => rfl)
    (fun pre W => Below w7.heap.size w7 W)
    (fun c pre W => False)
    (fun pre A B h hs => by
      have hs' : Only (fun k => k = w8.heap.size + 1) A B := Only.mono hs fun k _ h => h.elim (fun h => h.elim) fun h => h
      exact h.trans (hs'.below h.size fun k hk h => by omega)) (fun c pre A B h hs => h) H78.out ?a1 ?assign ?body ?done ?stop
  case assign =>
    intro l x W K hK
    gi_wp2
    exact hK
  case body =>
    clear HBB
    rintro l2 pre ⟨x1, B1, n1, c1⟩ A0 W hIW hlen hsz hIA hst' ⟨hx1, hx2, hx3, hx4⟩
    simp only at hx1 hx2 hx3 hx4
    subst hx1 hx2
    have hwW := HW7.out.trans (hIW.mono hz7)
    obtain ⟨LAd, RB, rc, rfl, hrow, hrc, hrr⟩ := (KL.out.below hwW).2 pre.length hlen
    have hca : W.cell? ⟨w.heap.size, 0, none⟩ = some (.slice (some LAd) n lc) := by have h := obj_below hIW BL7.out (obj_lt BL7.out); simp [World.cell?, h]
    rw [HN.out] at hlen
    have hlI : (pre.length : Int) < (n : Int) := by omega
    obtain ⟨r, hr⟩ : ∃ r, ls.getD pre.length [] = r := ⟨_, rfl⟩
    rw [hr] at hrow hrc hrr hx3 hx4 ⊢
    have HRR := Lib.hid hrr
    have HX4 := Lib.hid hx4.rd.2
    have gca := fun o => (World.cell?_alloc_lt (o := o) W _ (World.block_lt_of_cell? _ _ hca)).trans hca
    have grw := fun o => (World.cell?_alloc_lt (o := o) W _ (World.block_lt_of_cell? _ _ hrow)).trans hrow
    obtain ⟨rl, hrl⟩ : ∃ x, r.length = x := ⟨_, rfl⟩
    have HRL := Lib.hid hrl
    rw [hrl] at hrow hrc hx3 grw ⊢
    have HIW := Lib.hid hIW
    have hzW := hIW.size
    clear hr hrr hx4 hrl hst' hIA hIW hwW
    have hs1 := rows_of1S (w := W) (A := B1) (c := c1) (xs := r) 24 (by rw [HRL.out]; exact hx3) HX4.out
    have hs2 := rows_of1S (w := W.alloc (.cells #[.slice B1 r.length c1] 24)) (A := RB) (c := rc) (xs := r) 24 (by rw [HRL.out]; exact hrc) (HRR.out.alloc _)
    have hsm := Same10_calls (some ⟨W.heap.size, 0, none⟩) 1 (some ⟨(W.alloc (.cells #[.slice B1 r.length c1] 24)).heap.size, 0, none⟩) 1 [r] _ (hs1.below (below_alloc1 (Below.refl _ _) (.cells #[.slice RB r.length rc] 24))) hs2
    rw [HRL.out, World.size_alloc] at hsm
    have HSMC := Lib.hid hsm
    clear hs1 hs2 hsm
    gi_wp2
    refine ⟨trivial, (CallsIn.inRound l2 (callsIn_wide.2 HSMC.out)).mono ?_⟩
    rintro e _ ⟨he, q, rfl⟩
    subst he
    gi_wp2
    have hall : Below W.heap.size W (((W.alloc (.cells #[.slice B1 rl c1] 24)).alloc (.cells #[.slice RB rl rc] 24)).drewN q) := below_drewN (below_alloc1 (below_alloc1 (Below.refl _ _) _) _) q
    have hallO : Only (fun _ => False) W (((W.alloc (.cells #[.slice B1 rl c1] 24)).alloc (.cells #[.slice RB rl rc] 24)).drewN q) := Only.of_below hall
    have hkf : KeepsFrom w8.heap.size W (((W.alloc (.cells #[.slice B1 rl c1] 24)).alloc (.cells #[.slice RB rl rc] 24)).drewN q) := ⟨hallO.size, fun k o hk hh hc => hallO.obj hh fun h => h⟩
    exact ⟨hkf, hallO.mono fun k _ h he => h, HIW.out.trans (hall.mono hzW)⟩
  case done =>
    rintro _ ps W rfl hps hIW hK
    clear HBB
    have z7W := hIW.size
    have hRW := obj_below hIW BR7.out (obj_lt BR7.out)
    have HRW := Lib.hid hRW
    have HBW := Lib.hid (HW7.out.trans (hIW.mono hz7))
    have HK := Lib.hid hK
    have hcr : W.cell? ⟨w.heap.size + 2, 0, none⟩ = some (.bool false) := by simp [World.cell?, hRW]
    have hfr : W.frozen? ⟨w.heap.size + 2, 0, none⟩ = false := by simp [World.frozen?, hRW]
    have hF := set_other hK 0 (.bool true) (by omega : w8.heap.size ≠ w.heap.size + 2)
    have hR := set_blk (cs := [_]) hRW 0 (.bool true)
    have hRB : Below w.heap.size w (W.setCell ⟨w.heap.size + 2, 0, none⟩ (.bool true)) := below_set HBW.out (by omega) _ _
    have hF1 := Lib.hid hF
    have hR1 := Lib.hid hR
    clear hF hR hRW hK hIW
    go_wp2_with fail
    exact ⟨by simp, .inl ⟨_, _, rfl, run_takeDeferred hF1.out, _, results_boxed rfl rfl _ _ true rfl (by
      have h := (World.putObj_heap_other (o := .deferred none) (by omega : w.heap.size + 2 ≠ w8.heap.size)).trans hR1.out
      simp only [World.cell?, h]
      rfl), rfl, below_putObjS hRB (by omega) _⟩⟩
  case stop =>
    rintro b cc pre W _ _ h
    exact h.elim
end Go.Proofs.Ytohmcpblagcfeaa
