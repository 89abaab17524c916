
/-
  The statement GrowFew: the walk. Conditions: the numbers lie in their kinds' ranges.
-/
import Derived.Test.YtohmcpblagcfeaaAwake13
namespace Go.Proofs.Ytohmcpblagcfeaa
open Go.RowKit
set_option linter.unusedVariables false
set_option maxRecDepth 100000
set_option linter.unusedSimpArgs false

theorem chk_dimG {dim : Int} {ls : List (List Int)} (h : chkV dim ls = 0) : 1 ≤ dim ∧ dim ≤ 1024 := by
  unfold chkV at h
  split at h <;> omega
theorem chooseF_ge (rows : List (List Int)) (dim : Nat) (ids : List Int) (s : Nat → Int) (k : Nat) : ∀ f t, t ≤ (chooseF rows dim ids s k f t).tries := fun f => by
  induction f with
  | zero => intro t; exact Nat.le_refl _
  | succ f ih =>
    intro t
    unfold chooseF
    split
    · split
      · exact Nat.le_succ _
      · exact Nat.le_trans (Nat.le_succ _) (ih (t + 1))
    · exact Nat.le_refl _
theorem choose_pos (rows : List (List Int)) (dim : Nat) {ids : List Int} (s : Nat → Int) (k : Nat) (h : 2 ≤ ids.length) : 1 ≤ (choose rows dim ids s k).tries := by
  unfold choose chooseF
  rw [if_pos (by omega)]
  split
  · exact Nat.le_refl _
  · exact chooseF_ge rows dim ids s k 3 1
theorem growF_more (rows : List (List Int)) (dim : Nat) {leaf : Nat} (s : Nat → Int) (hl : 1 ≤ leaf) (f : Nat) (ids : List Int) (at_ k : Nat) (h1 : leaf < ids.length) (h2 : 0 < f) : 2 ≤ (growF rows dim leaf s f ids at_ k).1.length ∧ k < (growF rows dim leaf s f ids at_ k).2 := by
  obtain ⟨f, rfl⟩ : ∃ f', f = f' + 1 := ⟨f - 1, by omega⟩
  obtain ⟨C, hC⟩ : ∃ C, choose rows dim ids s k = C := ⟨_, rfl⟩
  obtain ⟨L, hL⟩ : ∃ L, growF rows dim leaf s f C.left (at_ + 1) (k + 2 * C.tries) = L := ⟨_, rfl⟩
  obtain ⟨R, hR⟩ : ∃ R, growF rows dim leaf s f C.right (at_ + 1 + L.1.length) L.2 = R := ⟨_, rfl⟩
  have a1 := choose_pos rows dim (ids := ids) s k (by omega)
  have a2 := choose_parts rows dim ids s k (by omega)
  rw [hC] at a1 a2
  have b1 := growF_size rows dim s hl f C.left (at_ + 1) (k + 2 * C.tries) (by omega)
  have b2 := growF_size rows dim s hl f C.right (at_ + 1 + L.1.length) L.2 (by omega)
  rw [hL] at b1
  rw [hR] at b2
  rw [growF_split at_ k h1 hC hL hR]
  simp only [List.length_cons, List.length_append]
  omega
theorem addr_zero (a : Addr) : a.add 0 = a := by
  unfold Addr.add
  cases a
  split <;> simp_all
theorem upTo_zero {n : Nat} (h : 0 < n) : (upTo n).getD 0 0 = 0 := by
  obtain ⟨m, rfl⟩ : ∃ m, n = m + 1 := ⟨n - 1, by omega⟩
  simp [upTo, List.getD, List.range_succ_eq_map]

set_option maxHeartbeats 6400000 in
set_option maxRecDepth 100000 in
theorem GrowFew_law (dim : Int) (LA : Option Addr) (lc : Nat) (ls : List (List Int)) (t l d : Int) (sc : Bool) (sd : Int) (DA : Option Addr) (dn dc : Nat) (st : Int) (w : World) (hd : (Lit.int .i64 dim).wf = true) (hlc : ls.length ≤ lc) (hls : Rows w .i32 LA ls) (hlw : ∀ xs ∈ ls, ∀ n ∈ xs, (Lit.int .i32 n).wf = true)
    (wt : (Lit.int .i64 t).wf = true) (wl : (Lit.int .i64 l).wf = true) (wd : (Lit.int .i64 d).wf = true) (hst : (Lit.int .u64 st).wf = true) :
    Calls Try.prog 11 #[.int .i64 dim, .slice LA ls.length lc, .agg #[.int .i64 t, .int .i64 l, .int .i64 d, .bool sc, .int .u64 sd, .slice DA dn dc], .int .u64 st] w fun e w' => e = .returned (.bool true) ∧ Below w.heap.size w w' := by
  have HR := Lib.hid (show ∀ r ∈ ls, R32 r from fun r hr => r32_of_wf (hlw r hr))
  have KL := Lib.hid hls
  clear hls hlw wt wl wd hd
  go_enter Try.func11, Try.ntmps11
  go_wp2_with fail
  obtain ⟨w1, hw1⟩ : ∃ W, w.alloc (.cells #[.int .i64 t, .int .i64 l, .int .i64 d, .bool sc, .int .u64 sd, .slice DA dn dc] 67) = W := ⟨_, rfl⟩
  rw [hw1]
  have hb1 : Below w.heap.size w w1 := by rw [← hw1]; exact below_alloc1 (Below.refl _ _) _
  have bp1 : w1.heap[w.heap.size]? = some (.cells #[.int .i64 t, .int .i64 l, .int .i64 d, .bool sc, .int .u64 sd, .slice DA dn dc] 67 (0, 0)) := by rw [← hw1]; exact heap_alloc_new _ _
  have hz1 := obj_lt bp1
  have HB1 := Lib.hid hb1
  have BP1 := Lib.hid bp1
  clear hw1 hb1 bp1
  refine (awake13_calls w1).mono ?_
  rintro e w2 ⟨he, hb2⟩
  subst he
  have hz2 := hb2.size
  have HB12 := Lib.hid hb2
  have HW2 := Lib.hid (HB1.out.trans (hb2.mono (by omega)))
  clear hb2
  go_wp2_with fail
  refine (some13_calls dim LA lc ls w2 (KL.out.below HW2.out)).mono ?_
  rintro e w3 ⟨v, he, hb3, hv⟩
  subst he
  have hz3 := hb3.size
  have HW3 := Lib.hid (HW2.out.trans (hb3.mono HW2.out.size))
  have HB13 := Lib.hid (HB12.out.trans (hb3.mono hz2))
  have HV := Lib.hid hv
  clear hv hb3
  rcases HV.out with rfl | ⟨b, rfl, hwb, hit, hchk, hl3⟩
  · go_wp2_with fail
    go_ret
    exact ⟨rfl, HW3.out⟩
  clear HV
  have hdim := chk_dimG hchk
  obtain ⟨D, rfl⟩ : ∃ D : Nat, dim = (D : Int) := ⟨dim.toNat, by omega⟩
  rw [Int.toNat_natCast] at hit
  obtain ⟨AI, cI, hitv⟩ := hit.v
  have HIT := Lib.hid hitv
  have hd2 : D ≤ 1024 := by omega
  obtain ⟨n, hn⟩ : ∃ n, ls.length = n := ⟨_, rfl⟩
  have HN := Lib.hid hn
  rw [hn] at hl3 hlc ⊢
  clear hit hitv hchk hn
  go_wp2_with fail
  refine (Mix_calls st w3).mono ?_
  rintro e w4 ⟨vw4, he, hsw4, hbw4, Tw4, pw4, rfl⟩
  subst he
  have hzw4 := hbw4.size
  have HS4 := Lib.hid hsw4
  have HB34 := Lib.hid hbw4
  clear hsw4 hbw4
  go_wp2_with fail
  refine (Count_calls Tw4 pw4 w3.heap.size w4.heap.size _ _ HS4.out (Nat.le_refl _) hzw4).mono ?_
  rintro e w5 ⟨he, hs, hb5⟩
  subst he
  have hz5 := hb5.size
  have HC := Lib.hid (At.of_ctr hs)
  have HB35 := Lib.hid (HB34.out.trans (hb5.mono hzw4))
  have HB15 := Lib.hid (HB13.out.trans (HB35.out.mono (by have := HB13.out.size; omega)))
  have HW5 := Lib.hid (HW3.out.trans (HB35.out.mono HW3.out.size))
  have IT5 := Lib.hid (HIT.out.only (S := fun _ => False) (Only.of_below HB35.out) fun _ _ h => h)
  clear hs hb5 HS4 HB34
  have hz35 := HB35.out.size
  have hz13 := HB13.out.size
  have BP5 := Lib.hid (obj_below HB15.out BP1.out hz1)
  have p0 : w5.cell? ⟨w.heap.size, 0, none⟩ = some (.int .i64 t) := by have h := BP5.out; simp [World.cell?, h]
  have p1 : w5.cell? ⟨w.heap.size, 1, none⟩ = some (.int .i64 l) := by have h := BP5.out; simp [World.cell?, h]
  have p2 : w5.cell? ⟨w.heap.size, 2, none⟩ = some (.int .i64 d) := by have h := BP5.out; simp [World.cell?, h]
  have p3 : w5.cell? ⟨w.heap.size, 3, none⟩ = some (.bool sc) := by have h := BP5.out; simp [World.cell?, h]
  have p4 : w5.cell? ⟨w.heap.size, 4, none⟩ = some (.int .u64 sd) := by have h := BP5.out; simp [World.cell?, h]
  have p5 : w5.cell? ⟨w.heap.size, 5, none⟩ = some (.slice DA dn dc) := by have h := BP5.out; simp [World.cell?, h]
  go_wp2_with fail
  refine (Tree_calls b D ls AI cI t l d sc sd DA dn dc w3.heap.size w5.heap.size _ _ 0 w5 IT5.out HR.out HC.out (by omega) (by rw [HN.out]; omega) (fun q hq h => by have := (HIT.out.blk q hq).2; have := h.1; omega) (Nat.le_refl _)).mono ?_
  rintro e w6 ⟨vN, he, hbad, hgood⟩
  rw [HN.out] at he hbad hgood
  obtain ⟨E, hE⟩ : ∃ E, treeErr n t l d = E := ⟨_, rfl⟩
  rw [hE] at he hbad hgood
  subst he
  have HE := Lib.hid hE
  have HBAD := Lib.hid hbad
  have HGOOD := Lib.hid hgood
  clear p0 p1 p2 p3 p4 p5 hE hbad hgood
  by_cases h0 : E = 0
  case neg =>
    obtain ⟨rfl, hb6⟩ := HBAD.out h0
    have h0' : decide (E = 0) = false := decide_eq_false h0
    have HC6 := Lib.hid (HC.out.below hb6 (Nat.le_refl _))
    have HW6 := Lib.hid (HW5.out.trans (hb6.mono HW5.out.size))
    clear hb6
    go_wp2_with fail
    refine (HC6.out.drawn_calls).mono ?_
    rintro e _ ⟨he, rfl⟩
    subst he
    go_wp2_with fail
    go_ret
    exact ⟨by simp, HW6.out⟩
  subst h0
  obtain ⟨hown, hat, hon⟩ := HGOOD.out rfl
  have hgz : growErr t l d = 0 ∧ n ≠ 0 := by
    have h := HE.out
    unfold treeErr at h
    split at h
    · omega
    · rename_i h2
      split at h
      · omega
      · exact ⟨by omega, by assumption⟩
  obtain ⟨hg1, hn0⟩ := hgz
  obtain ⟨hl1, hl2, hd1, hd3, ht1, ht2⟩ := growErr_zero hg1
  obtain ⟨leaf, rfl⟩ : ∃ leaf : Nat, l = leaf := ⟨l.toNat, by omega⟩
  obtain ⟨dm, rfl⟩ : ∃ dm : Nat, d = dm := ⟨d.toNat, by omega⟩
  rw [show ((leaf : Int)).toNat = leaf from rfl, show ((dm : Int)).toNat = dm from rfl] at hown hat
  have HW6 := Lib.hid (show Below w.heap.size w w6 from HW5.out.trans (hon.below HW5.out.size fun q hq h => by have := h.1; have := HW3.out.size; omega))
  have BP6 := Lib.hid (hon.obj BP5.out (fun h => by have := h.1; omega))
  have p1 : w6.cell? ⟨w.heap.size, 1, none⟩ = some (.int .i64 (leaf : Int)) := by have h := BP6.out; simp [World.cell?, h]
  have p2 : w6.cell? ⟨w.heap.size, 2, none⟩ = some (.int .i64 (dm : Int)) := by have h := BP6.out; simp [World.cell?, h]
  clear HBAD HGOOD HE hg1 hon
  by_cases hone : n ≤ leaf ∨ dm = 0
  case neg =>
    have hm := growF_more ls D (fun i => mixAt st (i + 1)) (leaf := leaf) (by omega) dm (upTo n) 0 0 (by rw [upTo_length]; omega) (by omega)
    obtain ⟨T, hT⟩ : ∃ T, growF ls D leaf (fun i => mixAt st (i + 1)) dm (upTo n) 0 0 = T := ⟨_, rfl⟩
    rw [hT] at hown hat hm
    obtain ⟨NA, nc, rfl, _⟩ := hown.shape
    obtain ⟨kk, hkk⟩ : ∃ x, T.2 = x := ⟨_, rfl⟩
    obtain ⟨nn, hnn⟩ : ∃ x, T.1.length = x := ⟨_, rfl⟩
    rw [hkk] at hat hm
    rw [hnn] at hm ⊢
    have a1 : decide (n ≤ leaf) = false := decide_eq_false (by omega)
    have a2 : decide (dm = 0) = false := decide_eq_false (by omega)
    have a3 : decide (nn = 1) = false := decide_eq_false (by omega)
    have a4 : decide (kk = 0) = false := decide_eq_false (by omega)
    have a2' : ((dm : Int) == 0) = false := by rw [beq_eq_false_iff_ne]; omega
    have a3' : ((nn : Int) == 1) = false := by rw [beq_eq_false_iff_ne]; omega
    have a4' : ((kk : Int) == 0) = false := by rw [beq_eq_false_iff_ne]; omega
    have HA := Lib.hid hat
    clear hown hat hm hT hkk hnn
    go_wp2_with fail
    refine (HA.out.drawn_calls).mono ?_
    rintro e _ ⟨he, rfl⟩
    subst he
    go_wp2_with fail
    go_ret
    exact ⟨by simp, HW6.out⟩
  case pos =>
    rw [growF_leaf 0 0 (by rw [upTo_length]; exact hone)] at hown hat
    have hrd := RdN.of_own hown (P := fun _ => False) (fun _ h => h.elim)
    obtain ⟨NA, nc, rfl, _⟩ := hrd.shape
    obtain ⟨g, B1, c1, B2, c2, rfl, hg, q0, q1, q2, q3, q4, q5, hl1', _⟩ := hrd.at_ 0 (x := leafN (upTo n)) rfl
    simp only [leafN, upTo_length, Nat.zero_mul, Nat.zero_add, List.length_singleton] at q0 q1 ⊢
    obtain ⟨ad, rfl, hc0⟩ := hl1'.2.1.2 0 (by simp only [leafN, upTo_length]; omega)
    rw [show (leafN (upTo n)).ids.getD 0 0 = 0 from upTo_zero (by omega)] at hc0
    have hc00 : w6.cell? ad = some (.int .i64 0) := by rw [← addr_zero ad]; exact hc0
    have hnp : 0 < n := by omega
    have HA := Lib.hid hat
    clear hown hat hrd hl1' q2 q3 q4 q5
    by_cases ho1 : n ≤ leaf
    · have a1 : decide (n ≤ leaf) = true := decide_eq_true ho1
      go_wp2_with fail
      refine (HA.out.drawn_calls).mono ?_
      rintro e _ ⟨he, rfl⟩
      subst he
      go_wp2_with fail
      go_ret
      exact ⟨by simp, HW6.out⟩
    · have a1 : decide (n ≤ leaf) = false := decide_eq_false ho1
      obtain rfl : dm = 0 := by omega
      go_wp2_with fail
      refine (HA.out.drawn_calls).mono ?_
      rintro e _ ⟨he, rfl⟩
      subst he
      go_wp2_with fail
      go_ret
      exact ⟨by simp, HW6.out⟩
end Go.Proofs.Ytohmcpblagcfeaa
