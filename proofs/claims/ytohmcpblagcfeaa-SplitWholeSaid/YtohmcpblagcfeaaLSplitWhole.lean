
/-
  The statement SplitWhole: the walk. Conditions: the numbers lie in their kinds' ranges.
-/
import Derived.Test.YtohmcpblagcfeaaAwake12
import Derived.Test.YtohmcpblagcfeaaWholeL
import Derived.Maps.OwnOps
import Derived.Maps.Views
namespace Go.Proofs.Ytohmcpblagcfeaa
open Go.RowKit
set_option linter.unusedVariables false
set_option maxRecDepth 100000
set_option linter.unusedSimpArgs false

theorem chk_dim0 {dim : Int} {ls : List (List Int)} (h : chkV dim ls = 0) : 1 ≤ dim ∧ dim ≤ 1024 := by
  unfold chkV at h
  split at h <;> omega
theorem lawI : Maps.Keyed Try.prog 3 := Maps.int_keyed Try.underlying3
theorem zeroI (w : World) : (zeroValue 3).run Try.prog w = .ok (.int .i64 0) w := by kernel_rfl
/-- A datum that tells a number at each key. -/
def Tells (D : DataW Unit) (f : Int → Int) : Prop := Maps.IsMap D ∧ ∀ x, D.atKey (.int .i64 x) (.lit (.int .i64 0)) = .lit (.int .i64 (f x))
theorem Tells.eq {D : DataW Unit} {f : Int → Int} (h : Tells D f) {x c : Int} (hc : D.atKey (.int .i64 x) (.lit (.int .i64 0)) = .lit (.int .i64 c)) : c = f x := by
  rw [h.2 x] at hc
  injection hc with hc; injection hc with _ hc; exact hc.symm
theorem Tells.put {D : DataW Unit} {f : Int → Int} (h : Tells D f) (x c : Int) : Tells (D.put (.int .i64 x) (.lit (.int .i64 c))) (fun y => if y = x then c else f y) :=
  ⟨h.1.put _ _, fun y => by
    by_cases e : y = x
    · subst e; dsimp only; rw [if_pos rfl]; exact Maps.atKey_put_same h.1 (by simp [WideAt.IsKeyLit]) _ _
    · dsimp only; rw [if_neg e]; rw [Maps.atKey_put_other (fun h2 => e (by injection h2))]; exact h.2 y⟩
theorem Tells.congr {D : DataW Unit} {f g : Int → Int} (h : Tells D f) (e : ∀ x, f x = g x) : Tells D g := ⟨h.1, fun x => by rw [← e x]; exact h.2 x⟩
theorem Tells.nil : Tells (.map []) (fun _ => 0) := ⟨Maps.isMap_empty, fun x => rfl⟩
/-- How often more in one list's beginning than in another's. -/
def moreN (xs ys : List Int) (k : Nat) (x : Int) : Int := ((xs.take k).count x : Int) - ((ys.take k).count x : Int)
theorem moreN_bd (xs ys : List Int) (k : Nat) (x : Int) : -(k : Int) ≤ moreN xs ys k x ∧ moreN xs ys k x ≤ k := by
  unfold moreN
  have h1 : (xs.take k).count x ≤ k := Nat.le_trans List.count_le_length (by simp; omega)
  have h2 : (ys.take k).count x ≤ k := Nat.le_trans List.count_le_length (by simp; omega)
  omega
theorem moreN_perm {xs ys : List Int} (h : xs.Perm ys) (k : Nat) (hk : k = xs.length) (x : Int) : moreN xs ys k x = 0 := by
  unfold moreN
  have h1 := h.length_eq
  rw [List.take_of_length_le (by omega), List.take_of_length_le (by omega), h.count_eq]
  omega
theorem moreN_succ {xs ys : List Int} {k : Nat} (h1 : k < xs.length) (h2 : k < ys.length) (x : Int) :
    moreN xs ys (k + 1) x = (if x = ys.getD k 0 then (if x = xs.getD k 0 then moreN xs ys k x + 1 else moreN xs ys k x) - 1 else (if x = xs.getD k 0 then moreN xs ys k x + 1 else moreN xs ys k x)) := by
  have e1 : xs.take (k + 1) = xs.take k ++ [xs.getD k 0] := by rw [List.take_succ_eq_append_getElem h1]; simp [List.getD, h1]
  have e2 : ys.take (k + 1) = ys.take k ++ [ys.getD k 0] := by rw [List.take_succ_eq_append_getElem h2]; simp [List.getD, h2]
  unfold moreN
  rw [e1, e2, List.count_append, List.count_append, List.count_singleton, List.count_singleton]
  have f1 : ∀ a : Int, (a == x) = decide (x = a) := fun a => by rw [Bool.eq_iff_iff]; simp; exact eq_comm
  rw [f1, f1]
  simp only [decide_eq_true_iff]
  split <;> split <;> omega
theorem grown_only {w w1 : World} {b : Nat} (h : w.grownBy w1 (some b)) : Only (· = b) w w1 := ⟨h.os, h.tape, h.output, h.size, fun k hk hs => h.block k hk fun e => hs (by injection e)⟩
theorem own_empty_at (w : World) (base n : Nat) (e : TypeId) (h : n = w.heap.size) (hb : base ≤ n) : (w.alloc (.cells #[] e)).ownsRow base e 1 (.slice (some ⟨n, 0, none⟩) 0 0) 0 [] := by
  subst h
  exact Own.low (k := .i64) (xs := []) (Own.empty w e .i64) hb
set_option maxHeartbeats 6400000 in
set_option maxRecDepth 100000 in
theorem SplitWhole_law (dim : Int) (LA : Option Addr) (lc : Nat) (ls : List (List Int)) (A : Option Addr) (c : Nat) (ids : List Int) (st : Int) (w : World) (hd : (Lit.int .i64 dim).wf = true) (hlc : ls.length ≤ lc) (hls : Rows w .i32 LA ls) (hlw : ∀ xs ∈ ls, ∀ n ∈ xs, (Lit.int .i32 n).wf = true)
    (hc : ids.length ≤ c) (ha : Rd w .i64 A ids) (hu : ∀ n ∈ ids, (Lit.int .i64 n).wf = true) (na : A = none → ids = [] ∧ c = 0) (la : ids.length * 8 ≤ 140737488351232) (hst : (Lit.int .u64 st).wf = true) :
    Calls Try.prog 5 #[.int .i64 dim, .slice LA ls.length lc, .slice A ids.length c, .int .u64 st] w fun e w' => e = .returned (.bool true) ∧ Below w.heap.size w w' := by
  have hmin := @min2_run Try.prog
  have hmm := @run_makeMap Try.prog
  have HR := Lib.hid (show ∀ r ∈ ls, R32 r from fun r hr => r32_of_wf (hlw r hr))
  have KL := Lib.hid hls
  have KA := Lib.hid ha
  have HU := Lib.hid hu
  have hnl := ha.1
  clear hls ha hlw hu na la hst hd
  have k_w : Below w.heap.size w w := Below.refl _ _
  go_enter Try.func5, Try.ntmps5
  go_wp2_with fail
  refine (awake12_calls _  ).mono ?_
  rintro e w1 ⟨he, hbn⟩
  subst he
  have k_w_w1 : Below w.heap.size w w1 := k_w.trans (hbn.mono k_w.size)
  clear k_w
  clear hbn
  go_wp2_with fail
  refine (some12_calls dim LA lc ls A c ids.length _ (KL.out.below k_w_w1) hnl).mono ?_
  rintro e w2 ⟨v, he, hbn, hv⟩
  subst he
  have HV := Lib.hid hv
  clear hv
  have k_w_w2 : Below w.heap.size w w2 := k_w_w1.trans (hbn.mono k_w_w1.size)
  clear k_w_w1
  clear hbn
  rcases HV.out with rfl | ⟨b, rfl, hwb, hit, hchk, hl3, hn2⟩
  · go_wp2_with fail
    go_ret
    exact ⟨rfl, k_w_w2⟩
  clear HV
  have hdim := chk_dim0 hchk
  obtain ⟨D, rfl⟩ : ∃ D : Nat, dim = (D : Int) := ⟨dim.toNat, by omega⟩
  rw [Int.toNat_natCast] at hit
  obtain ⟨AI, cI, hitv⟩ := hit.v
  have HIT := Lib.hid hitv
  obtain ⟨n, hnn⟩ : ∃ n, ids.length = n := ⟨_, rfl⟩
  have HNN := Lib.hid hnn
  have hd2 : D ≤ 1024 := by omega
  rw [hnn] at hc hn2 hnl ⊢
  clear hit hnn hitv hchk
  have HW2 := Lib.hid k_w_w2
  have hz2 := HW2.out.size
  clear k_w_w2
  go_wp2_with fail
  refine (Mix_calls st w2).mono ?_
  rintro e w3 ⟨v3, he, hs3, hb3, T3, p3, rfl⟩
  subst he
  have hz23 := hb3.size
  have HS3 := Lib.hid hs3
  have HB3 := Lib.hid hb3
  clear hs3 hb3
  have HIT3 := Lib.hid (HIT.out.only (S := fun _ => False) (Only.of_below HB3.out) fun _ _ h => h)
  have KA2 := Lib.hid (KA.out.below HW2.out)
  have KA3 := Lib.hid (KA2.out.below HB3.out)
  go_wp2_with fail
  refine (HNN.out ▸ (Choose_calls b D ls AI cI A c ids w2.heap.size w3.heap.size (.iface T3 p3) _ 0 w3 HIT3.out HR.out KA3.out (by rw [HNN.out]; exact hc) (by rw [HNN.out]; omega) (At.of_src HS3.out) (by omega) (fun q hq h => by have := (HIT.out.blk q hq).2; have := h.1; omega) (fun ad h1 e h => by have := Rd.blk_lt KA2.out ad h1 e; have := h.1; omega) (Nat.le_refl _))).mono ?_
  rintro e w4 ⟨vn, vl, vr, he, hn1, hl1, hr1, _, hon⟩
  have hpm := choose_perm ls D ids (fun i => mixAt st (i + 1)) 0
  have hlen := choose_len ls D ids (fun i => mixAt st (i + 1)) 0
  have hpt := choose_parts ls D ids (fun i => mixAt st (i + 1)) 0
  have hfw := choose_few ls D ids (fun i => mixAt st (i + 1)) 0
  have htr := choose_tr ls D ids (fun i => mixAt st (i + 1)) 0
  rw [HNN.out] at hlen hpt hfw
  obtain ⟨R, hR⟩ : ∃ R, choose ls D ids (fun i => mixAt st (i + 1)) 0 = R := ⟨_, rfl⟩
  rw [hR] at he hn1 hl1 hr1 hpm hlen hpt hfw htr
  subst he
  clear hR
  have HB24 := Lib.hid (show Below w2.heap.size w2 w4 from HB3.out.trans (hon.below HB3.out.size fun k hk h => by have := h.1; omega))
  have HW4 := Lib.hid (HW2.out.trans (HB24.out.mono hz2))
  obtain ⟨An, cn, rfl, hcn, hnr0⟩ := hn1.shape
  obtain ⟨Al, cl, rfl, hcl, hlr⟩ := hl1.shape
  obtain ⟨Ar, cr, rfl, hcr, hrr⟩ := hr1.shape
  have HLR := Lib.hid hlr
  have HRR := Lib.hid hrr
  obtain ⟨nn, hnn⟩ : ∃ x, R.ns.length = x := ⟨_, rfl⟩
  obtain ⟨oo, hoo⟩ : ∃ x, R.off = x := ⟨_, rfl⟩
  obtain ⟨nl, hnl2⟩ : ∃ x, R.left.length = x := ⟨_, rfl⟩
  obtain ⟨nr, hnr⟩ : ∃ x, R.right.length = x := ⟨_, rfl⟩
  obtain ⟨tt, htt⟩ : ∃ x, R.tries = x := ⟨_, rfl⟩
  have E2 := Lib.hid hnl2
  have E3 := Lib.hid hnr
  rw [hnn, hoo, hnl2, hnr, htt]
  rw [hnl2, hnr] at hlen hpt
  rw [htt] at hfw htr
  rw [hnl2] at hcl
  rw [hnr] at hcr
  obtain ⟨L, hL⟩ : ∃ L, R.left = L := ⟨_, rfl⟩
  obtain ⟨Q, hQ⟩ : ∃ Q, R.right = Q := ⟨_, rfl⟩
  rw [hL] at HLR E2 hpm
  rw [hQ] at HRR E3 hpm
  have HPM := Lib.hid hpm
  have HPT := Lib.hid hpt
  have HFW := Lib.hid hfw
  clear hn1 hl1 hr1 hon hlr hrr hnn hoo hnl2 hnr htt hpm hL hQ hnr0 hcn hpt hfw HIT3 KA3 HS3 HIT KA2
  go_wp2_with fail
  obtain ⟨w5, hw5⟩ : ∃ W, w4.alloc (.cells #[.slice An nn cn, .int .i64 oo, .slice Al nl cl, .slice Ar nr cr, .int .i64 tt] 42) = W := ⟨_, rfl⟩
  (try rw [hw5])
  have hb5 : Below w4.heap.size w4 w5 := by rw [← hw5]; exact below_alloc1 (Below.refl _ _) _
  have ba5 : w5.heap[w4.heap.size]? = some (.cells #[.slice An nn cn, .int .i64 oo, .slice Al nl cl, .slice Ar nr cr, .int .i64 tt] 42 (0, 0)) := by rw [← hw5]; exact heap_alloc_new _ _
  have hz45 : w4.heap.size < w5.heap.size := obj_lt ba5
  have BA5 := Lib.hid ba5
  have HL5 := Lib.hid (HLR.out.below hb5)
  have HR5 := Lib.hid (HRR.out.below hb5)
  have HW5 := Lib.hid (HW4.out.trans (hb5.mono HW4.out.size))
  have hz05 := HW5.out.size
  have a1 : w5.cell? ⟨w4.heap.size, 2, none⟩ = some (.slice Al nl cl) := by simp [World.cell?, ba5]
  have a2 : w5.cell? ⟨w4.heap.size, 3, none⟩ = some (.slice Ar nr cr) := by simp [World.cell?, ba5]
  have ga1 := fun o => (World.cell?_alloc_lt (o := o) w5 _ (World.block_lt_of_cell? _ _ a1)).trans a1
  have ga2 := fun o => (World.cell?_alloc_lt (o := o) w5 _ (World.block_lt_of_cell? _ _ a2)).trans a2
  clear hw5 hb5 ba5
  have HNL := Lib.hid (show (nums .i64 L).length = nl * 1 by rw [nums_length, E2.out]; omega)
  have HNR := Lib.hid (show (nums .i64 Q).length = nr * 1 by rw [nums_length, E3.out]; omega)
  go_wp2_with fail
  go_cut [11] (fun s11 wx => ∃ A2 c2, n ≤ c2 ∧ s11 = .slice A2 n c2 ∧ Rd wx .i64 A2 (L ++ Q) ∧ Below w5.heap.size w5 wx)
  case first =>
    go_region_law
      (first
        | (refine step_app _ (by rfl) (.tmp 28) (.tmp 30) 23 3 (by rfl) (.int .i64 0) 1 8 Try.underlying23 info_int rfl (by omega) (by omega) w5.heap.size (.slice (some ⟨_, 0, none⟩) 0 0) 0 ([] : List Value) (by rfl) Al nl cl (by rfl) (by repeat (first | with_reducible apply own_drew1 | exact own_empty_at _ _ _ _ (by simp) (by simp) | with_reducible apply own_alloc1)) w5 (by first | ((repeat (first | assumption | exact Below.refl _ _ | apply below_drew1 | apply below_alloc1)); done)) (by first | omega | (simp; done) | (simp; omega)) (nums .i64 L) HNL.out (HL5.out.below (by first | ((repeat (first | assumption | exact Below.refl _ _ | apply below_drew1 | apply below_alloc1)); done))).c (nums_one _ _) (by omega) ?_; intro v1 w6 hown hgrow hbel hat hnil; obtain ⟨A1, c1, rfl, hc1⟩ := own_shape hown; simp only [Nat.zero_add, List.nil_append] at hown hc1; have hzb := hbel.size; have a16 := cell_below hbel a1 (World.block_lt_of_cell? _ _ a1); have a26 := cell_below hbel a2 (World.block_lt_of_cell? _ _ a2))
        | (refine step_app _ (by rfl) (.tmp 31) (.tmp 33) 23 3 (by rfl) (.int .i64 0) 1 8 Try.underlying23 info_int rfl (by omega) (by omega) w5.heap.size (.slice A1 nl c1) nl (nums .i64 L) (by rfl) Ar nr cr (by rfl) (by repeat (first | with_reducible exact hown | with_reducible apply own_drew1 | with_reducible apply own_alloc1)) w5 (by first | ((repeat (first | assumption | exact Below.refl _ _ | apply below_drew1 | apply below_alloc1)); done)) (by first | omega | (simp; done) | (simp; omega)) (nums .i64 Q) HNR.out (HR5.out.below (by first | ((repeat (first | assumption | exact Below.refl _ _ | apply below_drew1 | apply below_alloc1)); done))).c (nums_one _ _) (by omega) ?_; intro v2 w7 hown2 hgrow2 hbel2 hat2 hnil2; obtain ⟨A2, c2, rfl, hc2⟩ := own_shape hown2))
    all_goals
      go_wp2_with fail
      go_meet
      exact ⟨A2, c2, by omega, by first | rfl | rw [hlen], (Own.rd (base := w5.heap.size) (e := 3) (n := n) (c := c2) (by unfold Own; rw [nums_append, List.length_append, E2.out, E3.out, ← hlen]; exact hown2)).2, hbel2⟩
  obtain ⟨A2, c2, hc2, rfl, hall, hb7⟩ := hcut
  rename World => w8
  have BA8 := Lib.hid (obj_below hb7 BA5.out (obj_lt BA5.out))
  have HALL := Lib.hid hall
  have HW8 := Lib.hid (HW5.out.trans (hb7.mono hz05))
  have hz58 := hb7.size
  have hz08 := HW8.out.size
  have KA8 := Lib.hid (KA.out.below HW8.out)
  have t4 : w8.cell? ⟨w4.heap.size, 4, none⟩ = some (.int .i64 tt) := by have h := BA8.out; simp [World.cell?, h]
  have d1 : decide ((tt : Int) < 0) = false := decide_eq_false (by omega)
  have d2 : decide ((4 : Int) < (tt : Int)) = false := decide_eq_false (by omega)
  have HML := Lib.hid (show ids.length = (L ++ Q).length by rw [HNN.out, List.length_append, E2.out, E3.out]; omega)
  clear hall hb7 BA5 a1 a2 ga1 ga2 HL5 HR5 HNL HNR HLR HRR
  rcases (by omega : n < 2 ∨ 2 ≤ n) with h2 | h2
  · obtain rfl := HFW.out h2
    have h2' : decide ((n : Int) < 2) = true := decide_eq_true (by omega)
    go_wp2_with fail
    clear t4 d1 d2
    go_loopg [13] n (fun kq v13 w' => kq ≤ n ∧ v13 = .int .i64 ((n - kq : Nat)) ∧ (∃ Dm, w'.ownsMap Try.prog 3 (plainElem Try.prog 3) w8.heap.size (2 * (n - kq)) Dm ∧ Tells Dm (moreN ids (L ++ Q) (n - kq))) ∧ Below w8.heap.size w8 w')
    case atStart => exact ⟨Nat.le_refl _, by simp, ⟨_, by rw [Nat.sub_self]; exact World.ownsMap_made _ _ _ _, by rw [Nat.sub_self]; exact Tells.nil.congr fun x => by simp [moreN]⟩, below_alloc1 (Below.refl _ _) _⟩
    case round =>
      obtain ⟨hk, rfl, ⟨Dm, hown, hT⟩, HB0⟩ := hrel
      rename World => wo
      have HB := Lib.hid HB0
      have HO := Lib.hid hown
      have HT := Lib.hid hT
      have hzo := HB0.size
      clear HB0 hown hT
      cases gk with
      | zero =>
        simp only [Nat.sub_zero] at HO HT ⊢
        have HZ := Lib.hid (fun x => moreN_perm (HPM.out.symm) n HNN.out.symm x)
        go_wp2_with fail
        go_loopg [14] n (fun kq v14 w' => kq ≤ n ∧ v14 = .int .i64 ((n - kq : Nat)) ∧ w' = wo)
        case atStart => exact ⟨Nat.le_refl _, by simp, rfl⟩
        case round =>
          obtain ⟨hk3, rfl, hwo⟩ := hrel
          subst hwo
          rename World => wo
          cases gk with
          | zero =>
            have BAO := obj_below HB.out BA8.out (obj_lt BA8.out)
            have l2 : wo.cell? ⟨w4.heap.size, 2, none⟩ = some (.slice Al nl cl) := by simp [World.cell?, BAO]
            have l3 : wo.cell? ⟨w4.heap.size, 3, none⟩ = some (.slice Ar nr cr) := by simp [World.cell?, BAO]
            clear BAO
            simp only [Nat.sub_zero]
            go_wp2_with fail
            go_ret
            exact ⟨rfl, HW8.out.trans (HB.out.mono hz08)⟩
          | succ k1 =>
            obtain ⟨i, hi⟩ : ∃ i, n - (k1 + 1) = i := ⟨_, rfl⟩
            have hi2 : n - k1 = i + 1 := by omega
            have HI := Lib.hid hi2
            have hlt : i < n := by omega
            rw [hi]
            clear hi hi2
            obtain ⟨ad, rfl, hca⟩ := (KA8.out.below HB.out).2 i (by rw [HNN.out]; exact hlt)
            have hwx := HU.out (ids.getD i 0) (by have : i < ids.length := by rw [HNN.out]; exact hlt
                                                  simp [List.getD, this])
            obtain ⟨x, hx⟩ : ∃ x, ids.getD i 0 = x := ⟨_, rfl⟩
            rw [hx] at hca hwx
            clear hx
            have hkx := Maps.keyOf_int_mk Try.underlying3 hwx
            go_wp2_with (first
              | (at_lookup; refine wpList_lookup_own_int _ rfl _ _ 52 rfl 3 3 .i64 lawI Try.underlying52 Try.underlying3 (zeroI _) w8.heap.size (2 * n) Dm rfl HO.out _ _ rfl hkx ?_; intro cx hat hwc; obtain rfl : cx = 0 := (HT.out.eq hat).trans (HZ.out x)))
            go_roundg k1
            case measure => omega
            case rel =>
              rw [HI.out]
              exact ⟨by omega, rfl, rfl⟩
      | succ k1 =>
        obtain ⟨i, hi⟩ : ∃ i, n - (k1 + 1) = i := ⟨_, rfl⟩
        have hi2 : n - k1 = i + 1 := by omega
        have HI := Lib.hid hi2
        have hlt : i < n := by omega
        rw [hi] at HO HT ⊢
        clear hi hi2
        have hli : i < ids.length := by rw [HNN.out]; exact hlt
        have hli2 : i < (L ++ Q).length := by rw [← HML.out]; exact hli
        obtain ⟨ad, rfl, hca⟩ := (KA8.out.below HB.out).2 i hli
        obtain ⟨ad2, rfl, hcb⟩ := (HALL.out.below HB.out).2 i hli2
        have hwx := HU.out (ids.getD i 0) (by simp [List.getD, hli])
        have hwy := HU.out ((L ++ Q).getD i 0) (HPM.out.mem_iff.1 (by simp only [List.getD, List.getElem?_eq_getElem hli2, Option.getD_some]; exact List.getElem_mem _))
        have hms := Lib.hid (fun z => moreN_succ hli hli2 z)
        have hbd := moreN_bd ids (L ++ Q) i
        obtain ⟨f, hf⟩ : ∃ f, moreN ids (L ++ Q) i = f := ⟨_, rfl⟩
        obtain ⟨x, hx⟩ : ∃ x, ids.getD i 0 = x := ⟨_, rfl⟩
        obtain ⟨y, hy⟩ : ∃ y, (L ++ Q).getD i 0 = y := ⟨_, rfl⟩
        rw [hf] at HT hbd hms
        rw [hx] at hca hwx hms
        rw [hy] at hcb hwy hms
        have HBD := Lib.hid hbd
        clear hf hx hy hbd hli hli2
        have hkx := Maps.keyOf_int_mk Try.underlying3 hwx
        have hky := Maps.keyOf_int_mk Try.underlying3 hwy
        have hb2 : (ad2.add i).block < w8.heap.size ∨ 0 = 1 := by
          obtain ⟨ad3, e, hc3⟩ := HALL.out.2 i (by rw [← HML.out, HNN.out]; exact hlt)
          injection e with e
          subst e
          have := World.block_lt_of_cell? _ _ hc3
          exact .inl this
        go_wp2_with (first
          | (at_lookup; refine wpList_lookup_own_int _ rfl _ _ 52 rfl 3 3 .i64 lawI Try.underlying52 Try.underlying3 (zeroI _) w8.heap.size (2 * i) Dm rfl HO.out _ _ rfl hkx ?_; intro c1 hat1 hwc1; have e1 := HT.out.eq hat1; have b1 := HBD.out x; have hw1 : IntKind.i64.wrap (c1 + 1) = c1 + 1 := (by rw [i64_w]; exact wrap64_id _ (by omega)); have E1 := Lib.hid e1; clear hat1 e1)
          | (at_mapUpdate; refine wpList_mapUpdate_own _ rfl _ _ _ 52 rfl 3 3 lawI Try.underlying52 _ w8.heap.size (2 * i) Dm rfl HO.out (by unfold maxLen; omega) _ _ _ rfl rfl hkx _ [] (plainElem_int Try.underlying3 (WalkArith.wf_i64 (by have := E1.out; omega))) ?_; intro w9 hown1 hgrow1; have HO1 := Lib.hid hown1; have HT1 := Lib.hid (HT.out.put x (c1 + 1)); have HB9 := Lib.hid (HB.out.grown hgrow1 hzo (fun j hj => by cases hj; exact Nat.le_refl _)); have hcb9 := (grown_only hgrow1).cell hcb (fun h => by omega); clear hown1 hgrow1 hcb)
          | (at_lookup; refine wpList_lookup_own_int _ rfl _ _ 52 rfl 3 3 .i64 lawI Try.underlying52 Try.underlying3 (zeroI _) w8.heap.size (2 * i + 1) _ rfl HO1.out _ _ rfl hky ?_; intro c2 hat2 hwc2; have e2 := HT1.out.eq hat2; have b2 := HBD.out y; have b1 := HBD.out x; have hw2 : IntKind.i64.wrap (c2 - 1) = c2 - 1 := (by rw [i64_w]; refine wrap64_id _ ?_; rw [e2, E1.out]; (try dsimp only); split <;> omega); have hwf2 : (Lit.int .i64 (c2 - 1)).wf = true := WalkArith.wf_i64 (by rw [e2, E1.out]; (try dsimp only); split <;> omega); have E2' := Lib.hid e2; clear hat2 e2 b1 b2)
          | (at_mapUpdate; refine wpList_mapUpdate_own _ rfl _ _ _ 52 rfl 3 3 lawI Try.underlying52 _ w8.heap.size (2 * i + 1) _ rfl HO1.out (by unfold maxLen; omega) _ _ _ rfl rfl hky _ [] (plainElem_int Try.underlying3 hwf2) ?_; intro w10 hown2 hgrow2; have HO2 := Lib.hid hown2; have HT2 := Lib.hid (HT1.out.put y (c2 - 1)); have HB10 := Lib.hid (HB9.out.grown hgrow2 HB9.out.size (fun j hj => by cases hj; exact Nat.le_refl _)); clear hown2 hgrow2))
        go_roundg k1
        case measure => omega
        case rel =>
          rw [HI.out]
          refine ⟨by omega, rfl, ⟨_, HO2.out.mono (by omega), HT2.out.congr fun z => ?_⟩, HB10.out⟩
          rw [hms.out z, E2'.out, E1.out]
          by_cases hzy : z = y <;> by_cases hzx : z = x <;> by_cases hyx : y = x <;> simp_all
  · have h2' : decide ((n : Int) < 2) = false := decide_eq_false (by omega)
    go_wp2_with fail
    clear t4 d1 d2
    go_loopg [13] n (fun kq v13 w' => kq ≤ n ∧ v13 = .int .i64 ((n - kq : Nat)) ∧ (∃ Dm, w'.ownsMap Try.prog 3 (plainElem Try.prog 3) w8.heap.size (2 * (n - kq)) Dm ∧ Tells Dm (moreN ids (L ++ Q) (n - kq))) ∧ Below w8.heap.size w8 w')
    case atStart => exact ⟨Nat.le_refl _, by simp, ⟨_, by rw [Nat.sub_self]; exact World.ownsMap_made _ _ _ _, by rw [Nat.sub_self]; exact Tells.nil.congr fun x => by simp [moreN]⟩, below_alloc1 (Below.refl _ _) _⟩
    case round =>
      obtain ⟨hk, rfl, ⟨Dm, hown, hT⟩, HB0⟩ := hrel
      rename World => wo
      have HB := Lib.hid HB0
      have HO := Lib.hid hown
      have HT := Lib.hid hT
      have hzo := HB0.size
      clear HB0 hown hT
      cases gk with
      | zero =>
        simp only [Nat.sub_zero] at HO HT ⊢
        have HZ := Lib.hid (fun x => moreN_perm (HPM.out.symm) n HNN.out.symm x)
        go_wp2_with fail
        go_loopg [14] n (fun kq v14 w' => kq ≤ n ∧ v14 = .int .i64 ((n - kq : Nat)) ∧ w' = wo)
        case atStart => exact ⟨Nat.le_refl _, by simp, rfl⟩
        case round =>
          obtain ⟨hk3, rfl, hwo⟩ := hrel
          subst hwo
          rename World => wo
          cases gk with
          | zero =>
            have BAO := obj_below HB.out BA8.out (obj_lt BA8.out)
            have l2 : wo.cell? ⟨w4.heap.size, 2, none⟩ = some (.slice Al nl cl) := by simp [World.cell?, BAO]
            have l3 : wo.cell? ⟨w4.heap.size, 3, none⟩ = some (.slice Ar nr cr) := by simp [World.cell?, BAO]
            clear BAO
            simp only [Nat.sub_zero]
            obtain ⟨hp1, hp2, hp3⟩ := HPT.out h2
            rcases (by omega : (nr < nl ∧ min nl nr = nr) ∨ (¬ nr < nl ∧ min nl nr = nl)) with ⟨h1, h3⟩ | ⟨h1, h3⟩
            · have hm1 : (nr : Int) < (nl : Int) := by omega
              have hw1 : IntKind.i64.wrap (8 * (nr : Int)) = 8 * (nr : Int) := by rw [i64_w]; exact wrap64_id _ (by omega)
              have g1 : decide (0 < nl) = true := decide_eq_true hp1
              have g2 : decide (0 < nr) = true := decide_eq_true hp2
              rw [h3] at hp3
              go_wp2_with fail
              go_ret
              exact ⟨ret_bool (by simp; omega), HW8.out.trans (HB.out.mono hz08)⟩
            · have hm1 : ¬ (nr : Int) < (nl : Int) := by omega
              have hw1 : IntKind.i64.wrap (8 * (nl : Int)) = 8 * (nl : Int) := by rw [i64_w]; exact wrap64_id _ (by omega)
              have g1 : decide (0 < nl) = true := decide_eq_true hp1
              have g2 : decide (0 < nr) = true := decide_eq_true hp2
              rw [h3] at hp3
              go_wp2_with fail
              go_ret
              exact ⟨ret_bool (by simp; omega), HW8.out.trans (HB.out.mono hz08)⟩
          | succ k1 =>
            obtain ⟨i, hi⟩ : ∃ i, n - (k1 + 1) = i := ⟨_, rfl⟩
            have hi2 : n - k1 = i + 1 := by omega
            have HI := Lib.hid hi2
            have hlt : i < n := by omega
            rw [hi]
            clear hi hi2
            obtain ⟨ad, rfl, hca⟩ := (KA8.out.below HB.out).2 i (by rw [HNN.out]; exact hlt)
            have hwx := HU.out (ids.getD i 0) (by have : i < ids.length := by rw [HNN.out]; exact hlt
                                                  simp [List.getD, this])
            obtain ⟨x, hx⟩ : ∃ x, ids.getD i 0 = x := ⟨_, rfl⟩
            rw [hx] at hca hwx
            clear hx
            have hkx := Maps.keyOf_int_mk Try.underlying3 hwx
            go_wp2_with (first
              | (at_lookup; refine wpList_lookup_own_int _ rfl _ _ 52 rfl 3 3 .i64 lawI Try.underlying52 Try.underlying3 (zeroI _) w8.heap.size (2 * n) Dm rfl HO.out _ _ rfl hkx ?_; intro cx hat hwc; obtain rfl : cx = 0 := (HT.out.eq hat).trans (HZ.out x)))
            go_roundg k1
            case measure => omega
            case rel =>
              rw [HI.out]
              exact ⟨by omega, rfl, rfl⟩
      | succ k1 =>
        obtain ⟨i, hi⟩ : ∃ i, n - (k1 + 1) = i := ⟨_, rfl⟩
        have hi2 : n - k1 = i + 1 := by omega
        have HI := Lib.hid hi2
        have hlt : i < n := by omega
        rw [hi] at HO HT ⊢
        clear hi hi2
        have hli : i < ids.length := by rw [HNN.out]; exact hlt
        have hli2 : i < (L ++ Q).length := by rw [← HML.out]; exact hli
        obtain ⟨ad, rfl, hca⟩ := (KA8.out.below HB.out).2 i hli
        obtain ⟨ad2, rfl, hcb⟩ := (HALL.out.below HB.out).2 i hli2
        have hwx := HU.out (ids.getD i 0) (by simp [List.getD, hli])
        have hwy := HU.out ((L ++ Q).getD i 0) (HPM.out.mem_iff.1 (by simp only [List.getD, List.getElem?_eq_getElem hli2, Option.getD_some]; exact List.getElem_mem _))
        have hms := Lib.hid (fun z => moreN_succ hli hli2 z)
        have hbd := moreN_bd ids (L ++ Q) i
        obtain ⟨f, hf⟩ : ∃ f, moreN ids (L ++ Q) i = f := ⟨_, rfl⟩
        obtain ⟨x, hx⟩ : ∃ x, ids.getD i 0 = x := ⟨_, rfl⟩
        obtain ⟨y, hy⟩ : ∃ y, (L ++ Q).getD i 0 = y := ⟨_, rfl⟩
        rw [hf] at HT hbd hms
        rw [hx] at hca hwx hms
        rw [hy] at hcb hwy hms
        have HBD := Lib.hid hbd
        clear hf hx hy hbd hli hli2
        have hkx := Maps.keyOf_int_mk Try.underlying3 hwx
        have hky := Maps.keyOf_int_mk Try.underlying3 hwy
        have hb2 : (ad2.add i).block < w8.heap.size ∨ 0 = 1 := by
          obtain ⟨ad3, e, hc3⟩ := HALL.out.2 i (by rw [← HML.out, HNN.out]; exact hlt)
          injection e with e
          subst e
          have := World.block_lt_of_cell? _ _ hc3
          exact .inl this
        go_wp2_with (first
          | (at_lookup; refine wpList_lookup_own_int _ rfl _ _ 52 rfl 3 3 .i64 lawI Try.underlying52 Try.underlying3 (zeroI _) w8.heap.size (2 * i) Dm rfl HO.out _ _ rfl hkx ?_; intro c1 hat1 hwc1; have e1 := HT.out.eq hat1; have b1 := HBD.out x; have hw1 : IntKind.i64.wrap (c1 + 1) = c1 + 1 := (by rw [i64_w]; exact wrap64_id _ (by omega)); have E1 := Lib.hid e1; clear hat1 e1)
          | (at_mapUpdate; refine wpList_mapUpdate_own _ rfl _ _ _ 52 rfl 3 3 lawI Try.underlying52 _ w8.heap.size (2 * i) Dm rfl HO.out (by unfold maxLen; omega) _ _ _ rfl rfl hkx _ [] (plainElem_int Try.underlying3 (WalkArith.wf_i64 (by have := E1.out; omega))) ?_; intro w9 hown1 hgrow1; have HO1 := Lib.hid hown1; have HT1 := Lib.hid (HT.out.put x (c1 + 1)); have HB9 := Lib.hid (HB.out.grown hgrow1 hzo (fun j hj => by cases hj; exact Nat.le_refl _)); have hcb9 := (grown_only hgrow1).cell hcb (fun h => by omega); clear hown1 hgrow1 hcb)
          | (at_lookup; refine wpList_lookup_own_int _ rfl _ _ 52 rfl 3 3 .i64 lawI Try.underlying52 Try.underlying3 (zeroI _) w8.heap.size (2 * i + 1) _ rfl HO1.out _ _ rfl hky ?_; intro c2 hat2 hwc2; have e2 := HT1.out.eq hat2; have b2 := HBD.out y; have b1 := HBD.out x; have hw2 : IntKind.i64.wrap (c2 - 1) = c2 - 1 := (by rw [i64_w]; refine wrap64_id _ ?_; rw [e2, E1.out]; (try dsimp only); split <;> omega); have hwf2 : (Lit.int .i64 (c2 - 1)).wf = true := WalkArith.wf_i64 (by rw [e2, E1.out]; (try dsimp only); split <;> omega); have E2' := Lib.hid e2; clear hat2 e2 b1 b2)
          | (at_mapUpdate; refine wpList_mapUpdate_own _ rfl _ _ _ 52 rfl 3 3 lawI Try.underlying52 _ w8.heap.size (2 * i + 1) _ rfl HO1.out (by unfold maxLen; omega) _ _ _ rfl rfl hky _ [] (plainElem_int Try.underlying3 hwf2) ?_; intro w10 hown2 hgrow2; have HO2 := Lib.hid hown2; have HT2 := Lib.hid (HT1.out.put y (c2 - 1)); have HB10 := Lib.hid (HB9.out.grown hgrow2 HB9.out.size (fun j hj => by cases hj; exact Nat.le_refl _)); clear hown2 hgrow2))
        go_roundg k1
        case measure => omega
        case rel =>
          rw [HI.out]
          refine ⟨by omega, rfl, ⟨_, HO2.out.mono (by omega), HT2.out.congr fun z => ?_⟩, HB10.out⟩
          rw [hms.out z, E2'.out, E1.out]
          by_cases hzy : z = y <;> by_cases hzx : z = x <;> by_cases hyx : y = x <;> simp_all
end Go.Proofs.Ytohmcpblagcfeaa
