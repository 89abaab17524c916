
/-
  The statement GrowTree: the walk. Conditions: the numbers lie in their kinds' ranges.
-/
import Derived.Test.YtohmcpblagcfeaaAwake13
import Derived.Deep.RegionWith
namespace Go.Proofs.Ytohmcpblagcfeaa
open Go.RowKit
set_option linter.unusedVariables false
set_option maxRecDepth 100000
set_option linter.unusedSimpArgs false

theorem chk_dimG {dim : Int} {ls : List (List Int)} (h : chkV dim ls = 0) : 1 ≤ dim ∧ dim ≤ 1024 := by
  unfold chkV at h
  split at h <;> omega
theorem only_drew1 {S : Nat → Prop} {w W : World} (h : Only S w W) : Only S w W.drew := h.trans (Only.of_below (below_drew1 (Below.refl _ _)))
theorem only_alloc1 {S : Nat → Prop} {w W : World} (h : Only S w W) (o : Obj) : Only S w (W.alloc o) := h.trans (Only.of_below (below_alloc1 (Below.refl _ _) o))

set_option maxHeartbeats 6400000 in
set_option maxRecDepth 100000 in
theorem GrowTree_law (dim : Int) (LA : Option Addr) (lc : Nat) (ls : List (List Int)) (t l d : Int) (sc : Bool) (sd : Int) (DA : Option Addr) (dn dc : Nat) (B : Option Addr) (c : Nat) (ds : List Int) (w : World) (hd : (Lit.int .i64 dim).wf = true) (hlc : ls.length ≤ lc) (hls : Rows w .i32 LA ls) (hlw : ∀ xs ∈ ls, ∀ n ∈ xs, (Lit.int .i32 n).wf = true)
    (wt : (Lit.int .i64 t).wf = true) (wl : (Lit.int .i64 l).wf = true) (wd : (Lit.int .i64 d).wf = true) (hdc : ds.length ≤ c) (hdr : Rd w .u64 B ds) (hdu : ∀ n ∈ ds, (Lit.int .u64 n).wf = true) (nd : B = none → ds = [] ∧ c = 0) (ld : ds.length * 8 ≤ 140737488351232) :
    Calls Try.prog 9 #[.int .i64 dim, .slice LA ls.length lc, .agg #[.int .i64 t, .int .i64 l, .int .i64 d, .bool sc, .int .u64 sd, .slice DA dn dc], .slice B ds.length c] w fun e w' => e = .returned (.bool true) ∧ Below w.heap.size w w' := by
  have HR := Lib.hid (show ∀ r ∈ ls, R32 r from fun r hr => r32_of_wf (hlw r hr))
  have KL := Lib.hid hls
  clear hls hlw wt wl wd hd
  have KD := Lib.hid hdr
  have HU := Lib.hid (u64_of_wf hdu)
  obtain ⟨m, hm⟩ : ∃ m, ds.length = m := ⟨_, rfl⟩
  have HM := Lib.hid hm
  rw [hm] at hdc ld ⊢
  clear hdr hdu nd hm
  go_enter Try.func9, Try.ntmps9
  go_wp2_with fail
  obtain ⟨w1, hw1⟩ : ∃ W, w.alloc (.cells #[.int .i64 t, .int .i64 l, .int .i64 d, .bool sc, .int .u64 sd, .slice DA dn dc] 67) = W := ⟨_, rfl⟩
  rw [hw1]
  have hb1 : Below w.heap.size w w1 := by rw [← hw1]; exact below_alloc1 (Below.refl _ _) _
  have bp1 : w1.heap[w.heap.size]? = some (.cells #[.int .i64 t, .int .i64 l, .int .i64 d, .bool sc, .int .u64 sd, .slice DA dn dc] 67 (0, 0)) := by rw [← hw1]; exact heap_alloc_new _ _
  have hz1 := obj_lt bp1
  have HB1 := Lib.hid hb1
  have BP1 := Lib.hid bp1
  clear hw1 hb1 bp1
  refine (awake13_calls w1).mono ?_
  rintro e w2 ⟨he, hb2⟩
  subst he
  have hz2 := hb2.size
  have HB12 := Lib.hid hb2
  have HW2 := Lib.hid (HB1.out.trans (hb2.mono (by omega)))
  clear hb2
  go_wp2_with fail
  refine (some13_calls dim LA lc ls w2 (KL.out.below HW2.out)).mono ?_
  rintro e w3 ⟨v, he, hb3, hv⟩
  subst he
  have hz3 := hb3.size
  have HW3 := Lib.hid (HW2.out.trans (hb3.mono HW2.out.size))
  have HB13 := Lib.hid (HB12.out.trans (hb3.mono hz2))
  have HV := Lib.hid hv
  clear hv hb3
  rcases HV.out with rfl | ⟨b, rfl, hwb, hit, hchk, hl3⟩
  · go_wp2_with fail
    go_ret
    exact ⟨rfl, HW3.out⟩
  clear HV
  have hdim := chk_dimG hchk
  obtain ⟨D, rfl⟩ : ∃ D : Nat, dim = (D : Int) := ⟨dim.toNat, by omega⟩
  rw [Int.toNat_natCast] at hit
  obtain ⟨AI, cI, hitv⟩ := hit.v
  have HIT := Lib.hid hitv
  have hd2 : D ≤ 1024 := by omega
  obtain ⟨n, hn⟩ : ∃ n, ls.length = n := ⟨_, rfl⟩
  have HN := Lib.hid hn
  rw [hn] at hl3 hlc ⊢
  clear hit hitv hchk hn
  by_cases h5 : 500 < m
  · have h5' : decide (500 < m) = true := decide_eq_true h5
    have h5'' : decide ((500 : Int) < (m : Int)) = true := decide_eq_true (by omega)
    go_wp2_with fail
    go_ret
    exact ⟨rfl, HW3.out⟩
  have h5' : decide (500 < m) = false := decide_eq_false h5
  have h5'' : decide ((500 : Int) < (m : Int)) = false := decide_eq_false (by omega)
  go_wp2_with fail
  refine (HM.out ▸ Script_calls B c ds w3 (KD.out.below HW3.out) HU.out (by rw [HM.out]; omega)).mono ?_
  rintro e w4 ⟨v, he, hs4, hb4, T4, p4', rfl⟩
  subst he
  have hz4 := hb4.size
  have HS4 := Lib.hid hs4
  have HB34 := Lib.hid hb4
  clear hs4 hb4 h5' h5''
  go_wp2_with fail
  refine (Count_calls T4 p4' w3.heap.size w4.heap.size _ _ HS4.out (Nat.le_refl _) hz4).mono ?_
  rintro e w5 ⟨he, hs, hb5⟩
  subst he
  have hz5 := hb5.size
  have HC5 := Lib.hid (At.of_ctr hs)
  have HB35 := Lib.hid (HB34.out.trans (hb5.mono hz4))
  have HB15 := Lib.hid (HB13.out.trans (HB35.out.mono (by have := HB13.out.size; omega)))
  have HW5 := Lib.hid (HW3.out.trans (HB35.out.mono HW3.out.size))
  have IT5 := Lib.hid (HIT.out.only (S := fun _ => False) (Only.of_below HB35.out) fun _ _ h => h)
  clear hs hb5 HS4 HB34
  have hz35 := HB35.out.size
  have hz13 := HB13.out.size
  have hz05 := HW5.out.size
  have BP5 := Lib.hid (obj_below HB15.out BP1.out hz1)
  have p0 : w5.cell? ⟨w.heap.size, 0, none⟩ = some (.int .i64 t) := by have h := BP5.out; simp [World.cell?, h]
  have p1 : w5.cell? ⟨w.heap.size, 1, none⟩ = some (.int .i64 l) := by have h := BP5.out; simp [World.cell?, h]
  have p2 : w5.cell? ⟨w.heap.size, 2, none⟩ = some (.int .i64 d) := by have h := BP5.out; simp [World.cell?, h]
  have p3 : w5.cell? ⟨w.heap.size, 3, none⟩ = some (.bool sc) := by have h := BP5.out; simp [World.cell?, h]
  have p4 : w5.cell? ⟨w.heap.size, 4, none⟩ = some (.int .u64 sd) := by have h := BP5.out; simp [World.cell?, h]
  have p5 : w5.cell? ⟨w.heap.size, 5, none⟩ = some (.slice DA dn dc) := by have h := BP5.out; simp [World.cell?, h]
  have g0 := fun o => (World.cell?_alloc_lt (o := o) w5 _ (World.block_lt_of_cell? _ _ p0)).trans p0
  have g1 := fun o => (World.cell?_alloc_lt (o := o) w5 _ (World.block_lt_of_cell? _ _ p1)).trans p1
  have g2 := fun o => (World.cell?_alloc_lt (o := o) w5 _ (World.block_lt_of_cell? _ _ p2)).trans p2
  have g3 := fun o => (World.cell?_alloc_lt (o := o) w5 _ (World.block_lt_of_cell? _ _ p3)).trans p3
  have g4 := fun o => (World.cell?_alloc_lt (o := o) w5 _ (World.block_lt_of_cell? _ _ p4)).trans p4
  have g5 := fun o => (World.cell?_alloc_lt (o := o) w5 _ (World.block_lt_of_cell? _ _ p5)).trans p5
  go_wp2_with fail
  obtain ⟨w6, hw6⟩ : ∃ W, w5.alloc (.cells #[.bool false, .int .u64 0, .slice B m c, .int .i64 0] 59) = W := ⟨_, rfl⟩
  rw [hw6]
  have hb6 : Below w5.heap.size w5 w6 := by rw [← hw6]; exact below_alloc1 (Below.refl _ _) _
  have bs6 : w6.heap[w5.heap.size]? = some (.cells #[.bool false, .int .u64 0, .slice B m c, .int .i64 0] 59 (0, 0)) := by rw [← hw6]; exact heap_alloc_new _ _
  have hz56 : w5.heap.size < w6.heap.size := obj_lt bs6
  clear hw6 p0 p1 p2 p3 p4 p5 g0 g1 g2 g3 g4 g5
  have HC := Lib.hid (HC5.out.below hb6 (Nat.le_refl _))
  have IT6 := Lib.hid (IT5.out.only (S := fun _ => False) (Only.of_below hb6) fun _ _ h => h)
  have BP6 := Lib.hid (obj_below hb6 BP5.out (by omega))
  have HW6 := Lib.hid (HW5.out.trans (hb6.mono hz05))
  have HB56 := Lib.hid hb6
  have HRS6 := Lib.hid (show RefS w6 w5.heap.size false 0 B c ds 0 from RefS.mk (by rw [HM.out]; exact bs6) (KD.out.below HW6.out) fun ad h1 e => by have := Rd.blk_lt KD.out ad h1 e; omega)
  clear hb6 bs6 HC5
  refine (Tree_calls b D ls AI cI t l d sc sd DA dn dc w3.heap.size w5.heap.size _ _ 0 w6 IT6.out HR.out HC.out (by omega) (by rw [HN.out]; omega) (fun q hq h => by have := (HIT.out.blk q hq).2; have := h.1; omega) (by omega)).mono ?_
  rintro e w7 ⟨vN, he, hbad, hgood⟩
  rw [HN.out] at he hbad hgood
  have HBAD := Lib.hid hbad
  have HGOOD := Lib.hid hgood
  obtain ⟨E, hE⟩ : ∃ E, growErr t l d = E := ⟨_, rfl⟩
  have HG := Lib.hid hE
  have htr : treeErr n t l d = if E ≠ 0 then E else if n = 0 then 15 else 0 := by unfold treeErr; rw [hE]
  have HTR := Lib.hid htr
  clear hbad hgood hE htr
  by_cases h0 : E = 0
  case neg =>
    have h0' : decide (E = 0) = false := decide_eq_false h0
    have h00 : (E == 0) = false := by rw [beq_eq_false_iff_ne]; exact h0
    have e1 : treeErr n t l d = E := by rw [HTR.out, if_pos h0]
    rw [e1] at he
    subst he
    obtain ⟨rfl, hb7⟩ := HBAD.out (by rw [e1]; exact h0)
    have HCw7 := Lib.hid (HC.out.below hb7 (by omega))
    have HWw7 := Lib.hid (HW6.out.trans (hb7.mono HW6.out.size))
    have BPw7 := Lib.hid (obj_below hb7 BP6.out (by omega))
    have hzw7 := hb7.size
    clear hb7 e1
    have p0 : w7.cell? ⟨w.heap.size, 0, none⟩ = some (.int .i64 t) := by have h := BPw7.out; simp [World.cell?, h]
    have p1 : w7.cell? ⟨w.heap.size, 1, none⟩ = some (.int .i64 l) := by have h := BPw7.out; simp [World.cell?, h]
    have p2 : w7.cell? ⟨w.heap.size, 2, none⟩ = some (.int .i64 d) := by have h := BPw7.out; simp [World.cell?, h]
    have p3 : w7.cell? ⟨w.heap.size, 3, none⟩ = some (.bool sc) := by have h := BPw7.out; simp [World.cell?, h]
    have p4 : w7.cell? ⟨w.heap.size, 4, none⟩ = some (.int .u64 sd) := by have h := BPw7.out; simp [World.cell?, h]
    have p5 : w7.cell? ⟨w.heap.size, 5, none⟩ = some (.slice DA dn dc) := by have h := BPw7.out; simp [World.cell?, h]
    go_wp2_with fail
    refine (RCheck_calls t l d sc sd DA dn dc w7).mono ?_
    rintro e w8 ⟨he, hbw8⟩
    rw [HG.out] at he
    subst he
    have BPw8 := Lib.hid (obj_below hbw8 BPw7.out (by omega))
    have HCw8 := Lib.hid (HCw7.out.below hbw8 (by omega))
    have HWw8 := Lib.hid (HWw7.out.trans (hbw8.mono HWw7.out.size))
    have hzw8 := hbw8.size
    have HBw8 := Lib.hid hbw8
    clear hbw8 p0 p1 p2 p3 p4 p5
    have p0 : w8.cell? ⟨w.heap.size, 0, none⟩ = some (.int .i64 t) := by have h := BPw8.out; simp [World.cell?, h]
    have p1 : w8.cell? ⟨w.heap.size, 1, none⟩ = some (.int .i64 l) := by have h := BPw8.out; simp [World.cell?, h]
    have p2 : w8.cell? ⟨w.heap.size, 2, none⟩ = some (.int .i64 d) := by have h := BPw8.out; simp [World.cell?, h]
    have p3 : w8.cell? ⟨w.heap.size, 3, none⟩ = some (.bool sc) := by have h := BPw8.out; simp [World.cell?, h]
    have p4 : w8.cell? ⟨w.heap.size, 4, none⟩ = some (.int .u64 sd) := by have h := BPw8.out; simp [World.cell?, h]
    have p5 : w8.cell? ⟨w.heap.size, 5, none⟩ = some (.slice DA dn dc) := by have h := BPw8.out; simp [World.cell?, h]
    go_wp2_with fail
    refine (GCheck_calls t l d sc sd DA dn dc w8).mono ?_
    rintro e w9 ⟨he, hbw9⟩
    rw [HG.out] at he
    subst he
    have BPw9 := Lib.hid (obj_below hbw9 BPw8.out (by omega))
    have HCw9 := Lib.hid (HCw8.out.below hbw9 (by omega))
    have HWw9 := Lib.hid (HWw8.out.trans (hbw9.mono HWw8.out.size))
    have hzw9 := hbw9.size
    have HBw9 := Lib.hid hbw9
    clear hbw9 p0 p1 p2 p3 p4 p5
    go_wp2_with fail
    refine (HCw9.out.drawn_calls).mono ?_
    rintro e _ ⟨he, rfl⟩
    subst he
    go_wp2_with fail
    go_ret
    exact ⟨by simp, HWw9.out⟩
  subst h0
  by_cases hn0 : n = 0
  case pos =>
    subst hn0
    have e1 : treeErr 0 t l d = 15 := by rw [HTR.out]; rfl
    rw [e1] at he
    subst he
    obtain ⟨rfl, hb7⟩ := HBAD.out (by rw [e1]; decide)
    have HCw7 := Lib.hid (HC.out.below hb7 (by omega))
    have HWw7 := Lib.hid (HW6.out.trans (hb7.mono HW6.out.size))
    have BPw7 := Lib.hid (obj_below hb7 BP6.out (by omega))
    have hzw7 := hb7.size
    clear hb7 e1
    have p0 : w7.cell? ⟨w.heap.size, 0, none⟩ = some (.int .i64 t) := by have h := BPw7.out; simp [World.cell?, h]
    have p1 : w7.cell? ⟨w.heap.size, 1, none⟩ = some (.int .i64 l) := by have h := BPw7.out; simp [World.cell?, h]
    have p2 : w7.cell? ⟨w.heap.size, 2, none⟩ = some (.int .i64 d) := by have h := BPw7.out; simp [World.cell?, h]
    have p3 : w7.cell? ⟨w.heap.size, 3, none⟩ = some (.bool sc) := by have h := BPw7.out; simp [World.cell?, h]
    have p4 : w7.cell? ⟨w.heap.size, 4, none⟩ = some (.int .u64 sd) := by have h := BPw7.out; simp [World.cell?, h]
    have p5 : w7.cell? ⟨w.heap.size, 5, none⟩ = some (.slice DA dn dc) := by have h := BPw7.out; simp [World.cell?, h]
    go_wp2_with fail
    refine (RCheck_calls t l d sc sd DA dn dc w7).mono ?_
    rintro e w8 ⟨he, hbw8⟩
    rw [HG.out] at he
    subst he
    have BPw8 := Lib.hid (obj_below hbw8 BPw7.out (by omega))
    have HCw8 := Lib.hid (HCw7.out.below hbw8 (by omega))
    have HWw8 := Lib.hid (HWw7.out.trans (hbw8.mono HWw7.out.size))
    have hzw8 := hbw8.size
    have HBw8 := Lib.hid hbw8
    clear hbw8 p0 p1 p2 p3 p4 p5
    have p0 : w8.cell? ⟨w.heap.size, 0, none⟩ = some (.int .i64 t) := by have h := BPw8.out; simp [World.cell?, h]
    have p1 : w8.cell? ⟨w.heap.size, 1, none⟩ = some (.int .i64 l) := by have h := BPw8.out; simp [World.cell?, h]
    have p2 : w8.cell? ⟨w.heap.size, 2, none⟩ = some (.int .i64 d) := by have h := BPw8.out; simp [World.cell?, h]
    have p3 : w8.cell? ⟨w.heap.size, 3, none⟩ = some (.bool sc) := by have h := BPw8.out; simp [World.cell?, h]
    have p4 : w8.cell? ⟨w.heap.size, 4, none⟩ = some (.int .u64 sd) := by have h := BPw8.out; simp [World.cell?, h]
    have p5 : w8.cell? ⟨w.heap.size, 5, none⟩ = some (.slice DA dn dc) := by have h := BPw8.out; simp [World.cell?, h]
    go_wp2_with fail
    refine (GCheck_calls t l d sc sd DA dn dc w8).mono ?_
    rintro e w9 ⟨he, hbw9⟩
    rw [HG.out] at he
    subst he
    have BPw9 := Lib.hid (obj_below hbw9 BPw8.out (by omega))
    have HCw9 := Lib.hid (HCw8.out.below hbw9 (by omega))
    have HWw9 := Lib.hid (HWw8.out.trans (hbw9.mono HWw8.out.size))
    have hzw9 := hbw9.size
    have HBw9 := Lib.hid hbw9
    clear hbw9 p0 p1 p2 p3 p4 p5
    go_wp2_with fail
    refine (HCw9.out.drawn_calls).mono ?_
    rintro e _ ⟨he, rfl⟩
    subst he
    go_wp2_with fail
    go_ret
    exact ⟨by simp, HWw9.out⟩
  have e1 : treeErr n t l d = 0 := by rw [HTR.out, if_neg (by simp), if_neg hn0]
  rw [e1] at he
  subst he
  have hn0' : ((n : Int) == 0) = false := by rw [beq_eq_false_iff_ne]; omega
  have hn0'' : decide (n = 0) = false := decide_eq_false hn0
  obtain ⟨hl1, hl2, hd1, hd3, ht1, ht2⟩ := growErr_zero HG.out
  obtain ⟨leaf, rfl⟩ : ∃ leaf : Nat, l = leaf := ⟨l.toNat, by omega⟩
  obtain ⟨dm, rfl⟩ : ∃ dm : Nat, d = dm := ⟨d.toNat, by omega⟩
  obtain ⟨hown, hat, hon⟩ := HGOOD.out e1
  rw [show ((leaf : Int)).toNat = leaf from rfl, show ((dm : Int)).toNat = dm from rfl] at hown hat
  have hfs : (refS false 0 ds) = fun i => ds.getD i 0 := rfl
  obtain ⟨T, hT⟩ : ∃ T, growF ls D leaf (fun i => ds.getD i 0) dm (upTo n) 0 0 = T := ⟨_, rfl⟩
  rw [hT] at hown hat
  have hTs := growF_size ls D (fun i => ds.getD i 0) (leaf := leaf) (by omega) dm (upTo n) 0 0 (by rw [upTo_length]; omega)
  rw [hT, upTo_length] at hTs
  have HTe := Lib.hid hT
  have HT7 := Lib.hid (RdN.of_own hown (P := (· = w5.heap.size)) (fun q hq => by have h' : q = w5.heap.size := hq; omega))
  have hzw7 := hon.size
  have HCw7 := Lib.hid hat
  have HWw7 := Lib.hid (show Below w.heap.size w w7 from HW6.out.trans (hon.below HW6.out.size fun q hq h => by have := h.1; omega))
  have BPw7 := Lib.hid (hon.obj BP6.out (fun h => by have := h.1; omega))
  have HRS7 := Lib.hid (HRS6.out.only hon (fun h => by have := h.2; omega) fun ad h1 e h => by have := Rd.blk_lt KD.out ad h1 e; have := h.1; omega)
  have HB57 := Lib.hid (show Only (Within w3.heap.size w5.heap.size) w5 w7 from (Only.of_below HB56.out).trans hon)
  clear hown hat hon hT e1 HBAD HGOOD HTR
  have p0 : w7.cell? ⟨w.heap.size, 0, none⟩ = some (.int .i64 t) := by have h := BPw7.out; simp [World.cell?, h]
  have p1 : w7.cell? ⟨w.heap.size, 1, none⟩ = some (.int .i64 (leaf : Int)) := by have h := BPw7.out; simp [World.cell?, h]
  have p2 : w7.cell? ⟨w.heap.size, 2, none⟩ = some (.int .i64 (dm : Int)) := by have h := BPw7.out; simp [World.cell?, h]
  have p3 : w7.cell? ⟨w.heap.size, 3, none⟩ = some (.bool sc) := by have h := BPw7.out; simp [World.cell?, h]
  have p4 : w7.cell? ⟨w.heap.size, 4, none⟩ = some (.int .u64 sd) := by have h := BPw7.out; simp [World.cell?, h]
  have p5 : w7.cell? ⟨w.heap.size, 5, none⟩ = some (.slice DA dn dc) := by have h := BPw7.out; simp [World.cell?, h]
  go_wp2_with fail
  refine (RCheck_calls t (leaf : Int) (dm : Int) sc sd DA dn dc w7).mono ?_
  rintro e w8 ⟨he, hbw8⟩
  rw [HG.out] at he
  subst he
  have BPw8 := Lib.hid (obj_below hbw8 BPw7.out (by omega))
  have HCw8 := Lib.hid (HCw7.out.below hbw8 (by omega))
  have HWw8 := Lib.hid (HWw7.out.trans (hbw8.mono HWw7.out.size))
  have hzw8 := hbw8.size
  have HBw8 := Lib.hid hbw8
  clear hbw8 p0 p1 p2 p3 p4 p5
  have p0 : w8.cell? ⟨w.heap.size, 0, none⟩ = some (.int .i64 t) := by have h := BPw8.out; simp [World.cell?, h]
  have p1 : w8.cell? ⟨w.heap.size, 1, none⟩ = some (.int .i64 (leaf : Int)) := by have h := BPw8.out; simp [World.cell?, h]
  have p2 : w8.cell? ⟨w.heap.size, 2, none⟩ = some (.int .i64 (dm : Int)) := by have h := BPw8.out; simp [World.cell?, h]
  have p3 : w8.cell? ⟨w.heap.size, 3, none⟩ = some (.bool sc) := by have h := BPw8.out; simp [World.cell?, h]
  have p4 : w8.cell? ⟨w.heap.size, 4, none⟩ = some (.int .u64 sd) := by have h := BPw8.out; simp [World.cell?, h]
  have p5 : w8.cell? ⟨w.heap.size, 5, none⟩ = some (.slice DA dn dc) := by have h := BPw8.out; simp [World.cell?, h]
  go_wp2_with fail
  refine (GCheck_calls t (leaf : Int) (dm : Int) sc sd DA dn dc w8).mono ?_
  rintro e w9 ⟨he, hbw9⟩
  rw [HG.out] at he
  subst he
  have BPw9 := Lib.hid (obj_below hbw9 BPw8.out (by omega))
  have HCw9 := Lib.hid (HCw8.out.below hbw9 (by omega))
  have HWw9 := Lib.hid (HWw8.out.trans (hbw9.mono HWw8.out.size))
  have hzw9 := hbw9.size
  have HBw9 := Lib.hid hbw9
  clear hbw9 p0 p1 p2 p3 p4 p5
  have p0 : w9.cell? ⟨w.heap.size, 0, none⟩ = some (.int .i64 t) := by have h := BPw9.out; simp [World.cell?, h]
  have p1 : w9.cell? ⟨w.heap.size, 1, none⟩ = some (.int .i64 (leaf : Int)) := by have h := BPw9.out; simp [World.cell?, h]
  have p2 : w9.cell? ⟨w.heap.size, 2, none⟩ = some (.int .i64 (dm : Int)) := by have h := BPw9.out; simp [World.cell?, h]
  have p3 : w9.cell? ⟨w.heap.size, 3, none⟩ = some (.bool sc) := by have h := BPw9.out; simp [World.cell?, h]
  have p4 : w9.cell? ⟨w.heap.size, 4, none⟩ = some (.int .u64 sd) := by have h := BPw9.out; simp [World.cell?, h]
  have p5 : w9.cell? ⟨w.heap.size, 5, none⟩ = some (.slice DA dn dc) := by have h := BPw9.out; simp [World.cell?, h]
  have HB79 := Lib.hid (HBw8.out.trans (HBw9.out.mono hzw8))
  have HRS9 := Lib.hid (HRS7.out.only (S := fun _ => False) (Only.of_below HB79.out) (fun h => h) fun _ _ _ h => h)
  have HT9 := Lib.hid (HT7.out.below HB79.out)
  have hnp : ¬ w.heap.size = w5.heap.size := by omega
  have hzw79 := HB79.out.size
  have HTC := Lib.hid (show ∀ W, Below w9.heap.size w9 W → Calls Try.prog 36 #[.slice LA n lc, .int .i64 (D : Int), .agg #[.int .i64 t, .int .i64 (leaf : Int), .int .i64 (dm : Int), .bool sc, .int .u64 sd, .slice DA dn dc], .pointer (some ⟨w5.heap.size, 0, none⟩)] W (RGPost W w5.heap.size false 0 B c ds T) from fun W hW => by
    have hBw : Below w.heap.size w W := HWw9.out.trans (hW.mono HWw9.out.size)
    have h := RTree_calls w5.heap.size D leaf dm t sc sd DA dn dc false 0 B c ds LA lc ls w W hz05 hBw KL.out HR.out HIT.out.2.2.1 hd2 (by omega) HU.out (by omega) (by rw [HN.out]; omega) (by rw [HN.out]; omega) (HRS9.out.only (S := fun _ => False) (Only.of_below hW) (fun h => h) fun _ _ _ h => h)
    rw [HN.out, hfs, HTe.out] at h
    exact h)
  have HDC := Lib.hid (show ∀ W, Only (· = w5.heap.size) w9 W → Calls Try.prog 29 #[.pointer (some ⟨w4.heap.size, 0, none⟩)] W fun e w' => e = .returned (.int .i64 ((T.2 : Nat) : Int)) ∧ W = w' from fun W hW =>
    (HCw9.out.only hW (fun q h1 h2 h => by have h' : q = w5.heap.size := h; omega)).drawn_calls)
  obtain ⟨kk, hkk⟩ : ∃ x, T.2 = x := ⟨_, rfl⟩
  have HKK := Lib.hid hkk
  rw [hkk] at HDC
  have hTl : T.1.length ≤ 1000000 := by omega
  clear hkk hfs
  go_wp2_with fail
  go_region_with
    (first
      | (go_at_call 36; go_split_ands; (with_reducible refine Calls.mono (HTC.out _ ?_) ?_); (exact (by first | ((repeat (first | assumption | exact Below.refl _ _ | apply below_drew1 | apply below_alloc1)); done))); rintro e wq ⟨vR, he, hrd, hrs, hoq⟩; subst he; have hO2 : Only (· = w5.heap.size) w9 wq := (Only.of_below (S := (· = w5.heap.size)) (by first | ((repeat (first | assumption | exact Below.refl _ _ | apply below_drew1 | apply below_alloc1)); done))).trans hoq; have HRD := Lib.hid hrd; have m3 : wq.cell? ⟨w5.heap.size, 3, none⟩ = some (.int .i64 (kk : Int)) := (by have h := hrs.1; rw [HKK.out] at h; simp [World.cell?, h]); have hbS := obj_lt hrs.1; clear hrd hrs hoq)
      | (go_at_call 32; go_split_ands; (with_reducible refine Calls.mono (SameN_calls _ _ T.1 (· = w5.heap.size) (· = w5.heap.size) _ ?_ ?_ hTl) ?_); (exact HT9.out.only (S := (· = w5.heap.size)) (by first | ((repeat (first | assumption | exact Only.refl _ _ | apply only_drew1 | apply only_alloc1)); done)) (fun _ h => h)); (exact HRD.out.below (by first | ((repeat (first | assumption | exact Below.refl _ _ | apply below_drew1 | apply below_alloc1)); done))); rintro e wz ⟨he, hbz⟩; subst he; have hbqz : Below wq.heap.size wq wz := Below.after (by first | ((repeat (first | assumption | exact Below.refl _ _ | apply below_drew1 | apply below_alloc1)); done)) hbz; have hO3 : Only (· = w5.heap.size) w9 wz := hO2.trans (Only.of_below hbqz); have m3z := cell_below hbqz m3 hbS)
      | (go_at_call 29; go_split_ands; (with_reducible refine Calls.mono (HDC.out _ ?_) ?_); (exact (by first | ((repeat (first | assumption | exact Only.refl _ _ | apply only_drew1 | apply only_alloc1)); done))); rintro e _ ⟨he, rfl⟩; subst he))
  all_goals
    have HO4 := Lib.hid hO3
    go_wp2_with fail
    go_ret
    exact ⟨(by first | rfl | (simp; done)), HWw9.out.trans (HO4.out.below HWw9.out.size fun q hq h => by have h' : q = w5.heap.size := h; omega)⟩
end Go.Proofs.Ytohmcpblagcfeaa
