
/-
  The statement GrowBounds: the walk. Conditions: the numbers lie in their kinds' ranges.
-/
import Derived.Test.YtohmcpblagcfeaaWithin
namespace Go.Proofs.Ytohmcpblagcfeaa
open Go.RowKit
set_option linter.unusedVariables false
set_option maxRecDepth 100000
set_option linter.unusedSimpArgs false

theorem chk_dimB {dim : Int} {ls : List (List Int)} (h : chkV dim ls = 0) : 1 ≤ dim ∧ dim ≤ 1024 := by
  unfold chkV at h
  split at h <;> omega
theorem RdN.fresh {w : World} {P : Nat → Prop} {v : Value} {N : List NodeV} (h : RdN w P v N) : RdN w (fun b => w.heap.size ≤ b) v N := by
  obtain ⟨A, c, al, h1, h2, h3, h4, h5, h6⟩ := h
  refine ⟨A, c, al, h1, h2, h3, h4, fun hl => ?_, fun a ha => ?_⟩
  · obtain ⟨g, e, _, hlt⟩ := h5 hl
    exact ⟨g, e, by omega, hlt⟩
  · obtain ⟨⟨a1, a2, a3⟩, ⟨b1, b2, b3⟩⟩ := h6 a ha
    exact ⟨⟨a1, a2, fun ad hl e => ⟨Nat.zero_le _, by have := Rd.blk_lt a2 ad hl e; omega⟩⟩, ⟨b1, b2, fun ad hl e => ⟨Nat.zero_le _, by have := Rd.blk_lt b2 ad hl e; omega⟩⟩⟩
theorem upTo_count (n i : Nat) : (upTo n).count (i : Int) = if i < n then 1 else 0 := by
  induction n with
  | zero => simp [upTo]
  | succ n ih =>
    rw [upTo_succ, List.count_append, ih, List.count_singleton]
    by_cases h : i = n
    · subst h; simp
    · have : ¬ ((n : Int) == (i : Int)) = true := by simp; omega
      rw [if_neg this]
      by_cases h2 : i < n
      · rw [if_pos h2, if_pos (by omega)]
      · rw [if_neg h2, if_neg (by omega)]
theorem upTo_mem {n : Nat} {x : Int} (h : x ∈ upTo n) : 0 ≤ x ∧ x < n := by
  simp only [upTo, List.mem_map, List.mem_range] at h
  obtain ⟨i, hi, rfl⟩ := h
  omega
theorem bumps_one {n : Nat} {xs : List Int} (h : xs.Perm (upTo n)) (i : Nat) (hi : i < n) : (bumps (List.replicate n 0) xs).getD i 0 = 1 := by
  rw [bumps_count _ _ (fun x hx => by rw [List.length_replicate]; exact upTo_mem (h.mem_iff.1 hx)), h.count_eq, upTo_count, if_pos hi]
  simp [List.getD, hi]

set_option maxHeartbeats 6400000 in
set_option maxRecDepth 100000 in
theorem GrowBounds_law (dim : Int) (LA : Option Addr) (lc : Nat) (ls : List (List Int)) (t l d : Int) (sc : Bool) (sd : Int) (DA : Option Addr) (dn dc : Nat) (mixed : Bool) (st : Int) (B : Option Addr) (c : Nat) (ds : List Int) (w : World) (hd : (Lit.int .i64 dim).wf = true) (hlc : ls.length ≤ lc) (hls : Rows w .i32 LA ls) (hlw : ∀ xs ∈ ls, ∀ n ∈ xs, (Lit.int .i32 n).wf = true)
    (wt : (Lit.int .i64 t).wf = true) (wl : (Lit.int .i64 l).wf = true) (wd : (Lit.int .i64 d).wf = true) (hst : (Lit.int .u64 st).wf = true) (hdc : ds.length ≤ c) (hdr : Rd w .u64 B ds) (hdu : ∀ n ∈ ds, (Lit.int .u64 n).wf = true) (nd : B = none → ds = [] ∧ c = 0) (ld : ds.length * 8 ≤ 140737488351232) :
    Calls Try.prog 10 #[.int .i64 dim, .slice LA ls.length lc, .agg #[.int .i64 t, .int .i64 l, .int .i64 d, .bool sc, .int .u64 sd, .slice DA dn dc], .bool mixed, .int .u64 st, .slice B ds.length c] w fun e w' => e = .returned (.bool true) ∧ Below w.heap.size w w' := by
  have HR := Lib.hid (show ∀ r ∈ ls, R32 r from fun r hr => r32_of_wf (hlw r hr))
  have KL := Lib.hid hls
  clear hls hlw wt wl wd hd
  have KD := Lib.hid hdr
  have HU := Lib.hid (u64_of_wf hdu)
  obtain ⟨m, hm⟩ : ∃ m, ds.length = m := ⟨_, rfl⟩
  have HM := Lib.hid hm
  rw [hm] at hdc ld ⊢
  clear hdr hdu nd hm
  go_enter Try.func10, Try.ntmps10
  go_wp2_with fail
  obtain ⟨w1, hw1⟩ : ∃ W, w.alloc (.cells #[.int .i64 t, .int .i64 l, .int .i64 d, .bool sc, .int .u64 sd, .slice DA dn dc] 67) = W := ⟨_, rfl⟩
  rw [hw1]
  have hb1 : Below w.heap.size w w1 := by rw [← hw1]; exact below_alloc1 (Below.refl _ _) _
  have bp1 : w1.heap[w.heap.size]? = some (.cells #[.int .i64 t, .int .i64 l, .int .i64 d, .bool sc, .int .u64 sd, .slice DA dn dc] 67 (0, 0)) := by rw [← hw1]; exact heap_alloc_new _ _
  have hz1 := obj_lt bp1
  have HB1 := Lib.hid hb1
  have BP1 := Lib.hid bp1
  clear hw1 hb1 bp1
  refine (awake13_calls w1).mono ?_
  rintro e w2 ⟨he, hb2⟩
  subst he
  have hz2 := hb2.size
  have HB12 := Lib.hid hb2
  have HW2 := Lib.hid (HB1.out.trans (hb2.mono (by omega)))
  clear hb2
  go_wp2_with fail
  refine (some13_calls dim LA lc ls w2 (KL.out.below HW2.out)).mono ?_
  rintro e w3 ⟨v, he, hb3, hv⟩
  subst he
  have hz3 := hb3.size
  have HW3 := Lib.hid (HW2.out.trans (hb3.mono HW2.out.size))
  have HB13 := Lib.hid (HB12.out.trans (hb3.mono hz2))
  have HV := Lib.hid hv
  clear hv hb3
  rcases HV.out with rfl | ⟨b, rfl, hwb, hit, hchk, hl3⟩
  · go_wp2_with fail
    go_ret
    exact ⟨rfl, HW3.out⟩
  clear HV
  have hdim := chk_dimB hchk
  obtain ⟨D, rfl⟩ : ∃ D : Nat, dim = (D : Int) := ⟨dim.toNat, by omega⟩
  rw [Int.toNat_natCast] at hit
  obtain ⟨AI, cI, hitv⟩ := hit.v
  have HIT := Lib.hid hitv
  have hd2 : D ≤ 1024 := by omega
  obtain ⟨n, hn⟩ : ∃ n, ls.length = n := ⟨_, rfl⟩
  have HN := Lib.hid hn
  rw [hn] at hl3 hlc ⊢
  clear hit hitv hchk hn
  have hz03 := HW3.out.size
  by_cases h5 : 500 < m
  · have h5' : decide (500 < m) = true := decide_eq_true h5
    have h5'' : decide ((500 : Int) < (m : Int)) = true := decide_eq_true (by omega)
    go_wp2_with fail
    go_ret
    exact ⟨rfl, HW3.out⟩
  have h5' : decide (500 < m) = false := decide_eq_false h5
  have h5'' : decide ((500 : Int) < (m : Int)) = false := decide_eq_false (by omega)
  go_wp2_with fail
  refine (HM.out ▸ Script_calls B c ds w3 (KD.out.below HW3.out) HU.out (by rw [HM.out]; omega)).mono ?_
  rintro e w4 ⟨v, he, hs4, hb4, T4, p4', rfl⟩
  subst he
  have hz4 := hb4.size
  have HS4 := Lib.hid hs4
  have HB34 := Lib.hid hb4
  clear hs4 hb4 h5' h5''
  cases mixed with
  | false =>
    have hzls := hz4
    go_wp2_with fail
    refine (Count_calls T4 p4' w3.heap.size w4.heap.size _ _ HS4.out (Nat.le_refl _) hzls).mono ?_
    rintro e wc ⟨he, hs, hbc⟩
    subst he
    have hzc := hbc.size
    have HC := Lib.hid (At.of_ctr hs)
    have HB3c := Lib.hid (HB34.out.trans (hbc.mono HB34.out.size))
    have HB1c := Lib.hid (HB13.out.trans (HB3c.out.mono (by have := HB13.out.size; omega)))
    have HWc := Lib.hid (HW3.out.trans (HB3c.out.mono HW3.out.size))
    have ITc := Lib.hid (HIT.out.only (S := fun _ => False) (Only.of_below HB3c.out) fun _ _ h => h)
    clear hs hbc HS4
    have hz3c := HB3c.out.size
    have hz13 := HB13.out.size
    have hz0c := HWc.out.size
    have BPc := Lib.hid (obj_below HB1c.out BP1.out hz1)
    have p0 : wc.cell? ⟨w.heap.size, 0, none⟩ = some (.int .i64 t) := by have h := BPc.out; simp [World.cell?, h]
    have p1 : wc.cell? ⟨w.heap.size, 1, none⟩ = some (.int .i64 l) := by have h := BPc.out; simp [World.cell?, h]
    have p2 : wc.cell? ⟨w.heap.size, 2, none⟩ = some (.int .i64 d) := by have h := BPc.out; simp [World.cell?, h]
    have p3 : wc.cell? ⟨w.heap.size, 3, none⟩ = some (.bool sc) := by have h := BPc.out; simp [World.cell?, h]
    have p4 : wc.cell? ⟨w.heap.size, 4, none⟩ = some (.int .u64 sd) := by have h := BPc.out; simp [World.cell?, h]
    have p5 : wc.cell? ⟨w.heap.size, 5, none⟩ = some (.slice DA dn dc) := by have h := BPc.out; simp [World.cell?, h]
    go_wp2_with fail
    refine (Tree_calls b D ls AI cI t l d sc sd DA dn dc w3.heap.size wc.heap.size _ (fun i => ds.getD i 0) 0 wc ITc.out HR.out HC.out (by omega) (by rw [HN.out]; omega) (fun q hq h => by have := (HIT.out.blk q hq).2; have := h.1; omega) (Nat.le_refl _)).mono ?_
    rintro e wt ⟨vN, he, hbad, hgood⟩
    rw [HN.out] at he hbad hgood
    obtain ⟨E, hE⟩ : ∃ E, treeErr n t l d = E := ⟨_, rfl⟩
    rw [hE] at he hbad hgood
    subst he
    have HE := Lib.hid hE
    have HBAD := Lib.hid hbad
    have HGOOD := Lib.hid hgood
    clear p0 p1 p2 p3 p4 p5 hE hbad hgood
    by_cases h0 : E = 0
    case neg =>
      obtain ⟨rfl, hb6⟩ := HBAD.out h0
      have h0' : decide (E = 0) = false := decide_eq_false h0
      have HW6 := Lib.hid (HWc.out.trans (hb6.mono HWc.out.size))
      clear hb6
      go_wp2_with fail
      go_ret
      exact ⟨(by first | rfl | (simp; done)), HW6.out⟩
    subst h0
    obtain ⟨hown, hat, hon⟩ := HGOOD.out rfl
    have hgz : growErr t l d = 0 ∧ n ≠ 0 := by
      have h := HE.out
      unfold treeErr at h
      split at h
      · omega
      · rename_i h2
        split at h
        · omega
        · exact ⟨by omega, by assumption⟩
    obtain ⟨hg1, hn0⟩ := hgz
    obtain ⟨hl1, hl2, hd1, hd3, ht1, ht2⟩ := growErr_zero hg1
    obtain ⟨leaf, rfl⟩ : ∃ leaf : Nat, l = leaf := ⟨l.toNat, by omega⟩
    obtain ⟨dm, rfl⟩ : ∃ dm : Nat, d = dm := ⟨d.toNat, by omega⟩
    rw [show ((leaf : Int)).toNat = leaf from rfl, show ((dm : Int)).toNat = dm from rfl] at hown hat
    have hsz := growF_size ls D (fun i => ds.getD i 0) (leaf := leaf) (by omega) dm (upTo n) 0 0 (by rw [upTo_length]; omega)
    have hids := growF_ids ls D leaf (fun i => ds.getD i 0) dm (upTo n) 0 0
    obtain ⟨T, hT⟩ : ∃ T, growF ls D leaf (fun i => ds.getD i 0) dm (upTo n) 0 0 = T := ⟨_, rfl⟩
    rw [hT] at hown hat hsz hids
    rw [upTo_length] at hsz
    have hzt := hon.size
    have HT := Lib.hid hT
    have HIDS := Lib.hid hids
    have HAT := Lib.hid hat
    have HWt := Lib.hid (show Below w.heap.size w wt from HWc.out.trans (hon.below HWc.out.size fun q hq h => by have := h.1; omega))
    have BPt := Lib.hid (hon.obj BPc.out (fun h => by have := h.1; omega))
    have HRDt := Lib.hid (RdN.of_own hown (P := fun _ => False) (fun _ h => h.elim)).fresh
    obtain ⟨NA, nc, rfl, _⟩ := hown.shape
    obtain ⟨nn, hnn⟩ : ∃ x, T.1.length = x := ⟨_, rfl⟩
    have ENN := Lib.hid hnn
    obtain ⟨kk, hkk⟩ : ∃ x, T.2 = x := ⟨_, rfl⟩
    have EKK := Lib.hid hkk
    rw [hnn, hkk] at hsz
    rw [hnn]
    clear HBAD HGOOD HE hg1 hon hown hat hT hids hnn hkk
    go_wp2_with (at_make; refine wpList_mk _ rfl (.tmp 60) (.tmp 60) 23 3 rfl (.int .i64 0) 8 Try.underlying23 info_int rfl .i64 .i64 n rfl rfl (by omega) (by omega) ?_; intro wm hblk hbel hsz2; have HBK := Lib.hid hblk; have HBM := Lib.hid hbel; clear hblk hbel)
    have hzm := HBM.out.size
    have HSE := Lib.hid (show Seen wm wt.heap.size n (List.replicate n 0) from ⟨by rw [nums_replicate]; exact HBK.out, by rw [List.length_replicate]⟩)
    have HRDm := Lib.hid (HRDt.out.below HBM.out)
    have hrp : ∀ j, (List.replicate n (0 : Int)).getD j 0 = 0 := fun j => by
      rcases Nat.lt_or_ge j n with hj | hj
      · simp [List.getD, hj]
      · simp only [List.getD]
        rw [List.getElem?_eq_none (by rw [List.length_replicate]; exact hj)]
        rfl
    have hwc := Within_calls ls D leaf (fun i => ds.getD i 0) wt.heap.size n NA nc T.1 (fun b => wt.heap.size ≤ b) (Nat.le_refl _) (by omega) (by rw [ENN.out]; omega) dm (upTo n) 0 0 0 wm (List.replicate n 0) HRDm.out (fun i x h => by rw [HT.out] at h; rw [Nat.zero_add]; exact h) (fun id hid => upTo_mem hid) (by rw [upTo_length]; omega) (by rw [upTo_length]; omega) (by omega) HSE.out (fun j => by rw [upTo_length, hrp j]; omega)
    rw [HT.out, ENN.out] at hwc
    simp only [Int.natCast_zero] at hwc
    go_wp2_with fail
    refine hwc.mono ?_
    rintro e wz ⟨lv, dp, he, hlv, hdp, _, hlf, hse, hoz⟩
    rw [Nat.zero_add, ENN.out] at he
    rw [ENN.out] at hlv
    rw [Nat.zero_add] at hdp
    subst he
    have HLF := Lib.hid hlf
    have HSZ := Lib.hid hse
    have hone := Lib.hid (fun i hi => bumps_one HIDS.out i hi)
    have HRDz := Lib.hid (HRDm.out.only hoz (fun b h => by have h' : b = wt.heap.size := h; omega))
    have BPz := Lib.hid (hoz.obj (obj_below HBM.out BPt.out (by omega)) (fun h => by omega))
    have HATz := Lib.hid ((HAT.out.below HBM.out (by omega)).only hoz (fun b h1 h2 h => by have h' : b = wt.heap.size := h; omega))
    have HWz := Lib.hid (show Below w.heap.size w wz from (HWt.out.trans (HBM.out.mono (by omega))).trans (hoz.below (by omega) fun q hq h => by have h' : q = wt.heap.size := h; omega))
    have hwA : IntKind.i64.wrap (2 * (lv : Int)) = 2 * (lv : Int) := by rw [i64_w]; exact wrap64_id _ (by omega)
    have hwB : IntKind.i64.wrap (2 * (lv : Int) - 1) = (nn : Int) := by rw [i64_w, wrap64_id _ (by omega)]; omega
    have hwC : IntKind.i64.wrap (2 * (n : Int)) = 2 * (n : Int) := by rw [i64_w]; exact wrap64_id _ (by omega)
    obtain ⟨mx, hmx⟩ : ∃ mx, 2 * n - 1 = mx := ⟨_, rfl⟩
    have hwD : IntKind.i64.wrap (2 * (n : Int) - 1) = (mx : Int) := by rw [i64_w, wrap64_id _ (by omega)]; omega
    have hmn : decide (mx < nn) = false := decide_eq_false (by omega)
    have hdd : decide (dm < dp) = false := decide_eq_false (by omega)
    obtain ⟨kb, hkb⟩ : ∃ kb, 8 * (n - 1) = kb := ⟨_, rfl⟩
    have hkk : decide (kb < kk) = false := decide_eq_false (by omega)
    have EKB := Lib.hid hkb
    have p2 : wz.cell? ⟨w.heap.size, 2, none⟩ = some (.int .i64 (dm : Int)) := by have h := BPz.out; simp [World.cell?, h]
    have p1 : wz.cell? ⟨w.heap.size, 1, none⟩ = some (.int .i64 (leaf : Int)) := by have h := BPz.out; simp [World.cell?, h]
    have hzz := HWz.out.size
    clear hwc hlf hse hoz hkb hmx
    go_wp2_with fail
    have hdc := HATz.out.drawn_calls
    rw [EKK.out] at hdc
    refine hdc.mono ?_
    rintro e _ ⟨he, rfl⟩
    subst he
    go_wp2_with fail
    have hbc2 := Bound_calls n wz (by omega)
    rw [EKB.out] at hbc2
    refine hbc2.mono ?_
    rintro e _ ⟨he, rfl⟩
    subst he
    clear hdc hbc2
    go_wp2_with fail
    go_loopg [24] n (fun kq v24 w' => kq ≤ n ∧ v24 = .int .i64 ((n - kq : Nat)) ∧ w' = wz)
    case atStart => exact ⟨Nat.le_refl _, by simp, rfl⟩
    case round =>
      obtain ⟨hkq, rfl, hwz⟩ := hrel
      subst hwz
      rename World => wz
      cases gk with
      | succ k1 =>
        obtain ⟨i, hi⟩ : ∃ i, n - (k1 + 1) = i := ⟨_, rfl⟩
        have hi2 : n - k1 = i + 1 := by omega
        have HI := Lib.hid hi2
        have hlt : i < n := by omega
        rw [hi]
        clear hi hi2
        have hcs : wz.cell? ⟨wt.heap.size, i, none⟩ = some (.int .i64 1) := by
          rw [cell_blk HSZ.out.1, nums_get _ _ _ (by rw [HSZ.out.2]; exact hlt), hone.out i hlt]
        go_wp2_with fail
        go_roundg k1
        case measure => omega
        case rel =>
          rw [HI.out]
          exact ⟨by omega, rfl, rfl⟩
      | zero =>
        simp only [Nat.sub_zero]
        go_wp2_with fail
        go_loopg [25] nn (fun kq v25 w' => kq ≤ nn ∧ v25 = .int .i64 ((nn - kq : Nat)) ∧ Below wz.heap.size wz w')
        case atStart => exact ⟨Nat.le_refl _, by simp, Below.refl _ _⟩
        case round =>
          obtain ⟨hkq, rfl, HB0⟩ := hrel
          rename World => wy
          have HB := Lib.hid HB0
          have hzy := HB0.size
          have hp1 := cell_below HB0 p1 (World.block_lt_of_cell? _ _ p1)
          have hp2 := cell_below HB0 p2 (World.block_lt_of_cell? _ _ p2)
          clear HB0
          cases gk with
          | zero =>
            simp only [Nat.sub_zero]
            go_wp2_with fail
            go_ret
            exact ⟨rfl, HWz.out.trans (HB.out.mono hzz)⟩
          | succ k1 =>
            obtain ⟨i, hi⟩ : ∃ i, nn - (k1 + 1) = i := ⟨_, rfl⟩
            have hi2 : nn - k1 = i + 1 := by omega
            have HI := Lib.hid hi2
            have hlt : i < nn := by omega
            have hltI : (i : Int) < (nn : Int) := by omega
            rw [hi]
            clear hi hi2
            have hx : ∃ x, T.1[i]? = some x := ⟨T.1[i]'(by rw [ENN.out]; exact hlt), List.getElem?_eq_getElem _⟩
            obtain ⟨x, hx⟩ := hx
            obtain ⟨gN, B1, c1, B2, c2, rfl, _, q0, q1, _⟩ := (HRDz.out.below HB.out).at_ i hx
            have hlfx := HLF.out x (List.mem_of_getElem? hx)
            obtain ⟨xl, hxl⟩ : ∃ y, x.leaf = y := ⟨_, rfl⟩
            obtain ⟨xi, hxi⟩ : ∃ y, x.ids.length = y := ⟨_, rfl⟩
            rw [hxl] at q0 hlfx
            rw [hxi] at q1 hlfx
            rw [Nat.zero_add] at hlfx
            clear hx hxl hxi
            cases xl with
            | false =>
              go_wp2_with fail
              go_quiet (fail)
              go_wp2_with fail
              go_roundg k1
              case measure => omega
              case rel =>
                rw [HI.out]
                exact ⟨by omega, rfl, HB.out.trans ((below_drewN_self _ _).mono hzy)⟩
            | true =>
              obtain ⟨x1, x2⟩ := hlfx rfl
              have y1 : decide (xi < 1) = false := decide_eq_false (by omega)
              have y1' : decide ((xi : Int) < 1) = false := decide_eq_false (by omega)
              by_cases hxl : leaf < xi
              · have hdpm := x2 hxl
                subst hdpm
                have y2 : decide (leaf < xi) = true := decide_eq_true hxl
                have y2' : decide ((leaf : Int) < (xi : Int)) = true := decide_eq_true (by omega)
                clear x2
                go_wp2_with fail
                go_quiet (fail)
                go_wp2_with fail
                go_roundg k1
                case measure => omega
                case rel =>
                  rw [HI.out]
                  exact ⟨by omega, rfl, HB.out.trans ((below_drewN_self _ _).mono hzy)⟩
              · have y2 : decide (leaf < xi) = false := decide_eq_false hxl
                have y2' : decide ((leaf : Int) < (xi : Int)) = false := decide_eq_false (by omega)
                clear x2
                go_wp2_with fail
                go_quiet (fail)
                go_wp2_with fail
                go_roundg k1
                case measure => omega
                case rel =>
                  rw [HI.out]
                  exact ⟨by omega, rfl, HB.out.trans ((below_drewN_self _ _).mono hzy)⟩
  | true =>
    go_wp2_with fail
    refine (Mix_calls st w4).mono ?_
    rintro e w5 ⟨v5, he, hs5, hb5, T5, p5', rfl⟩
    subst he
    have hzls := hb5.size
    have HS5 := Lib.hid hs5
    have HB35 := Lib.hid (HB34.out.trans (hb5.mono hz4))
    clear hs5 hb5
    go_wp2_with fail
    refine (Count_calls T5 p5' w4.heap.size w5.heap.size _ _ HS5.out (Nat.le_refl _) hzls).mono ?_
    rintro e wc ⟨he, hs, hbc⟩
    subst he
    have hzc := hbc.size
    have HC := Lib.hid (At.of_ctr hs)
    have HB3c := Lib.hid (HB35.out.trans (hbc.mono HB35.out.size))
    have HB1c := Lib.hid (HB13.out.trans (HB3c.out.mono (by have := HB13.out.size; omega)))
    have HWc := Lib.hid (HW3.out.trans (HB3c.out.mono HW3.out.size))
    have ITc := Lib.hid (HIT.out.only (S := fun _ => False) (Only.of_below HB3c.out) fun _ _ h => h)
    clear hs hbc HS5
    have hz3c := HB3c.out.size
    have hz13 := HB13.out.size
    have hz0c := HWc.out.size
    have BPc := Lib.hid (obj_below HB1c.out BP1.out hz1)
    have p0 : wc.cell? ⟨w.heap.size, 0, none⟩ = some (.int .i64 t) := by have h := BPc.out; simp [World.cell?, h]
    have p1 : wc.cell? ⟨w.heap.size, 1, none⟩ = some (.int .i64 l) := by have h := BPc.out; simp [World.cell?, h]
    have p2 : wc.cell? ⟨w.heap.size, 2, none⟩ = some (.int .i64 d) := by have h := BPc.out; simp [World.cell?, h]
    have p3 : wc.cell? ⟨w.heap.size, 3, none⟩ = some (.bool sc) := by have h := BPc.out; simp [World.cell?, h]
    have p4 : wc.cell? ⟨w.heap.size, 4, none⟩ = some (.int .u64 sd) := by have h := BPc.out; simp [World.cell?, h]
    have p5 : wc.cell? ⟨w.heap.size, 5, none⟩ = some (.slice DA dn dc) := by have h := BPc.out; simp [World.cell?, h]
    go_wp2_with fail
    refine (Tree_calls b D ls AI cI t l d sc sd DA dn dc w4.heap.size wc.heap.size _ (fun i => mixAt st (i + 1)) 0 wc ITc.out HR.out HC.out (by omega) (by rw [HN.out]; omega) (fun q hq h => by have := (HIT.out.blk q hq).2; have := h.1; omega) (Nat.le_refl _)).mono ?_
    rintro e wt ⟨vN, he, hbad, hgood⟩
    rw [HN.out] at he hbad hgood
    obtain ⟨E, hE⟩ : ∃ E, treeErr n t l d = E := ⟨_, rfl⟩
    rw [hE] at he hbad hgood
    subst he
    have HE := Lib.hid hE
    have HBAD := Lib.hid hbad
    have HGOOD := Lib.hid hgood
    clear p0 p1 p2 p3 p4 p5 hE hbad hgood
    by_cases h0 : E = 0
    case neg =>
      obtain ⟨rfl, hb6⟩ := HBAD.out h0
      have h0' : decide (E = 0) = false := decide_eq_false h0
      have HW6 := Lib.hid (HWc.out.trans (hb6.mono HWc.out.size))
      clear hb6
      go_wp2_with fail
      go_ret
      exact ⟨(by first | rfl | (simp; done)), HW6.out⟩
    subst h0
    obtain ⟨hown, hat, hon⟩ := HGOOD.out rfl
    have hgz : growErr t l d = 0 ∧ n ≠ 0 := by
      have h := HE.out
      unfold treeErr at h
      split at h
      · omega
      · rename_i h2
        split at h
        · omega
        · exact ⟨by omega, by assumption⟩
    obtain ⟨hg1, hn0⟩ := hgz
    obtain ⟨hl1, hl2, hd1, hd3, ht1, ht2⟩ := growErr_zero hg1
    obtain ⟨leaf, rfl⟩ : ∃ leaf : Nat, l = leaf := ⟨l.toNat, by omega⟩
    obtain ⟨dm, rfl⟩ : ∃ dm : Nat, d = dm := ⟨d.toNat, by omega⟩
    rw [show ((leaf : Int)).toNat = leaf from rfl, show ((dm : Int)).toNat = dm from rfl] at hown hat
    have hsz := growF_size ls D (fun i => mixAt st (i + 1)) (leaf := leaf) (by omega) dm (upTo n) 0 0 (by rw [upTo_length]; omega)
    have hids := growF_ids ls D leaf (fun i => mixAt st (i + 1)) dm (upTo n) 0 0
    obtain ⟨T, hT⟩ : ∃ T, growF ls D leaf (fun i => mixAt st (i + 1)) dm (upTo n) 0 0 = T := ⟨_, rfl⟩
    rw [hT] at hown hat hsz hids
    rw [upTo_length] at hsz
    have hzt := hon.size
    have HT := Lib.hid hT
    have HIDS := Lib.hid hids
    have HAT := Lib.hid hat
    have HWt := Lib.hid (show Below w.heap.size w wt from HWc.out.trans (hon.below HWc.out.size fun q hq h => by have := h.1; omega))
    have BPt := Lib.hid (hon.obj BPc.out (fun h => by have := h.1; omega))
    have HRDt := Lib.hid (RdN.of_own hown (P := fun _ => False) (fun _ h => h.elim)).fresh
    obtain ⟨NA, nc, rfl, _⟩ := hown.shape
    obtain ⟨nn, hnn⟩ : ∃ x, T.1.length = x := ⟨_, rfl⟩
    have ENN := Lib.hid hnn
    obtain ⟨kk, hkk⟩ : ∃ x, T.2 = x := ⟨_, rfl⟩
    have EKK := Lib.hid hkk
    rw [hnn, hkk] at hsz
    rw [hnn]
    clear HBAD HGOOD HE hg1 hon hown hat hT hids hnn hkk
    go_wp2_with (at_make; refine wpList_mk _ rfl (.tmp 60) (.tmp 60) 23 3 rfl (.int .i64 0) 8 Try.underlying23 info_int rfl .i64 .i64 n rfl rfl (by omega) (by omega) ?_; intro wm hblk hbel hsz2; have HBK := Lib.hid hblk; have HBM := Lib.hid hbel; clear hblk hbel)
    have hzm := HBM.out.size
    have HSE := Lib.hid (show Seen wm wt.heap.size n (List.replicate n 0) from ⟨by rw [nums_replicate]; exact HBK.out, by rw [List.length_replicate]⟩)
    have HRDm := Lib.hid (HRDt.out.below HBM.out)
    have hrp : ∀ j, (List.replicate n (0 : Int)).getD j 0 = 0 := fun j => by
      rcases Nat.lt_or_ge j n with hj | hj
      · simp [List.getD, hj]
      · simp only [List.getD]
        rw [List.getElem?_eq_none (by rw [List.length_replicate]; exact hj)]
        rfl
    have hwc := Within_calls ls D leaf (fun i => mixAt st (i + 1)) wt.heap.size n NA nc T.1 (fun b => wt.heap.size ≤ b) (Nat.le_refl _) (by omega) (by rw [ENN.out]; omega) dm (upTo n) 0 0 0 wm (List.replicate n 0) HRDm.out (fun i x h => by rw [HT.out] at h; rw [Nat.zero_add]; exact h) (fun id hid => upTo_mem hid) (by rw [upTo_length]; omega) (by rw [upTo_length]; omega) (by omega) HSE.out (fun j => by rw [upTo_length, hrp j]; omega)
    rw [HT.out, ENN.out] at hwc
    simp only [Int.natCast_zero] at hwc
    go_wp2_with fail
    refine hwc.mono ?_
    rintro e wz ⟨lv, dp, he, hlv, hdp, _, hlf, hse, hoz⟩
    rw [Nat.zero_add, ENN.out] at he
    rw [ENN.out] at hlv
    rw [Nat.zero_add] at hdp
    subst he
    have HLF := Lib.hid hlf
    have HSZ := Lib.hid hse
    have hone := Lib.hid (fun i hi => bumps_one HIDS.out i hi)
    have HRDz := Lib.hid (HRDm.out.only hoz (fun b h => by have h' : b = wt.heap.size := h; omega))
    have BPz := Lib.hid (hoz.obj (obj_below HBM.out BPt.out (by omega)) (fun h => by omega))
    have HATz := Lib.hid ((HAT.out.below HBM.out (by omega)).only hoz (fun b h1 h2 h => by have h' : b = wt.heap.size := h; omega))
    have HWz := Lib.hid (show Below w.heap.size w wz from (HWt.out.trans (HBM.out.mono (by omega))).trans (hoz.below (by omega) fun q hq h => by have h' : q = wt.heap.size := h; omega))
    have hwA : IntKind.i64.wrap (2 * (lv : Int)) = 2 * (lv : Int) := by rw [i64_w]; exact wrap64_id _ (by omega)
    have hwB : IntKind.i64.wrap (2 * (lv : Int) - 1) = (nn : Int) := by rw [i64_w, wrap64_id _ (by omega)]; omega
    have hwC : IntKind.i64.wrap (2 * (n : Int)) = 2 * (n : Int) := by rw [i64_w]; exact wrap64_id _ (by omega)
    obtain ⟨mx, hmx⟩ : ∃ mx, 2 * n - 1 = mx := ⟨_, rfl⟩
    have hwD : IntKind.i64.wrap (2 * (n : Int) - 1) = (mx : Int) := by rw [i64_w, wrap64_id _ (by omega)]; omega
    have hmn : decide (mx < nn) = false := decide_eq_false (by omega)
    have hdd : decide (dm < dp) = false := decide_eq_false (by omega)
    obtain ⟨kb, hkb⟩ : ∃ kb, 8 * (n - 1) = kb := ⟨_, rfl⟩
    have hkk : decide (kb < kk) = false := decide_eq_false (by omega)
    have EKB := Lib.hid hkb
    have p2 : wz.cell? ⟨w.heap.size, 2, none⟩ = some (.int .i64 (dm : Int)) := by have h := BPz.out; simp [World.cell?, h]
    have p1 : wz.cell? ⟨w.heap.size, 1, none⟩ = some (.int .i64 (leaf : Int)) := by have h := BPz.out; simp [World.cell?, h]
    have hzz := HWz.out.size
    clear hwc hlf hse hoz hkb hmx
    go_wp2_with fail
    have hdc := HATz.out.drawn_calls
    rw [EKK.out] at hdc
    refine hdc.mono ?_
    rintro e _ ⟨he, rfl⟩
    subst he
    go_wp2_with fail
    have hbc2 := Bound_calls n wz (by omega)
    rw [EKB.out] at hbc2
    refine hbc2.mono ?_
    rintro e _ ⟨he, rfl⟩
    subst he
    clear hdc hbc2
    go_wp2_with fail
    go_loopg [24] n (fun kq v24 w' => kq ≤ n ∧ v24 = .int .i64 ((n - kq : Nat)) ∧ w' = wz)
    case atStart => exact ⟨Nat.le_refl _, by simp, rfl⟩
    case round =>
      obtain ⟨hkq, rfl, hwz⟩ := hrel
      subst hwz
      rename World => wz
      cases gk with
      | succ k1 =>
        obtain ⟨i, hi⟩ : ∃ i, n - (k1 + 1) = i := ⟨_, rfl⟩
        have hi2 : n - k1 = i + 1 := by omega
        have HI := Lib.hid hi2
        have hlt : i < n := by omega
        rw [hi]
        clear hi hi2
        have hcs : wz.cell? ⟨wt.heap.size, i, none⟩ = some (.int .i64 1) := by
          rw [cell_blk HSZ.out.1, nums_get _ _ _ (by rw [HSZ.out.2]; exact hlt), hone.out i hlt]
        go_wp2_with fail
        go_roundg k1
        case measure => omega
        case rel =>
          rw [HI.out]
          exact ⟨by omega, rfl, rfl⟩
      | zero =>
        simp only [Nat.sub_zero]
        go_wp2_with fail
        go_loopg [25] nn (fun kq v25 w' => kq ≤ nn ∧ v25 = .int .i64 ((nn - kq : Nat)) ∧ Below wz.heap.size wz w')
        case atStart => exact ⟨Nat.le_refl _, by simp, Below.refl _ _⟩
        case round =>
          obtain ⟨hkq, rfl, HB0⟩ := hrel
          rename World => wy
          have HB := Lib.hid HB0
          have hzy := HB0.size
          have hp1 := cell_below HB0 p1 (World.block_lt_of_cell? _ _ p1)
          have hp2 := cell_below HB0 p2 (World.block_lt_of_cell? _ _ p2)
          clear HB0
          cases gk with
          | zero =>
            simp only [Nat.sub_zero]
            go_wp2_with fail
            go_ret
            exact ⟨rfl, HWz.out.trans (HB.out.mono hzz)⟩
          | succ k1 =>
            obtain ⟨i, hi⟩ : ∃ i, nn - (k1 + 1) = i := ⟨_, rfl⟩
            have hi2 : nn - k1 = i + 1 := by omega
            have HI := Lib.hid hi2
            have hlt : i < nn := by omega
            have hltI : (i : Int) < (nn : Int) := by omega
            rw [hi]
            clear hi hi2
            have hx : ∃ x, T.1[i]? = some x := ⟨T.1[i]'(by rw [ENN.out]; exact hlt), List.getElem?_eq_getElem _⟩
            obtain ⟨x, hx⟩ := hx
            obtain ⟨gN, B1, c1, B2, c2, rfl, _, q0, q1, _⟩ := (HRDz.out.below HB.out).at_ i hx
            have hlfx := HLF.out x (List.mem_of_getElem? hx)
            obtain ⟨xl, hxl⟩ : ∃ y, x.leaf = y := ⟨_, rfl⟩
            obtain ⟨xi, hxi⟩ : ∃ y, x.ids.length = y := ⟨_, rfl⟩
            rw [hxl] at q0 hlfx
            rw [hxi] at q1 hlfx
            rw [Nat.zero_add] at hlfx
            clear hx hxl hxi
            cases xl with
            | false =>
              go_wp2_with fail
              go_quiet (fail)
              go_wp2_with fail
              go_roundg k1
              case measure => omega
              case rel =>
                rw [HI.out]
                exact ⟨by omega, rfl, HB.out.trans ((below_drewN_self _ _).mono hzy)⟩
            | true =>
              obtain ⟨x1, x2⟩ := hlfx rfl
              have y1 : decide (xi < 1) = false := decide_eq_false (by omega)
              have y1' : decide ((xi : Int) < 1) = false := decide_eq_false (by omega)
              by_cases hxl : leaf < xi
              · have hdpm := x2 hxl
                subst hdpm
                have y2 : decide (leaf < xi) = true := decide_eq_true hxl
                have y2' : decide ((leaf : Int) < (xi : Int)) = true := decide_eq_true (by omega)
                clear x2
                go_wp2_with fail
                go_quiet (fail)
                go_wp2_with fail
                go_roundg k1
                case measure => omega
                case rel =>
                  rw [HI.out]
                  exact ⟨by omega, rfl, HB.out.trans ((below_drewN_self _ _).mono hzy)⟩
              · have y2 : decide (leaf < xi) = false := decide_eq_false hxl
                have y2' : decide ((leaf : Int) < (xi : Int)) = false := decide_eq_false (by omega)
                clear x2
                go_wp2_with fail
                go_quiet (fail)
                go_wp2_with fail
                go_roundg k1
                case measure => omega
                case rel =>
                  rw [HI.out]
                  exact ⟨by omega, rfl, HB.out.trans ((below_drewN_self _ _).mono hzy)⟩
end Go.Proofs.Ytohmcpblagcfeaa
