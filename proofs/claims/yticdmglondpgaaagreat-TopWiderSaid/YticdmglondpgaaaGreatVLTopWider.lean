/-
  The statement TopWider: the walk. Conditions: the numbers lie in their kinds' ranges.
-/
import Derived.Deep.RegionHeld3
import Derived.Test.YticdmglondpgaaaGreatVAlikeL
import Derived.Test.YticdmglondpgaaaGreatVMovers

namespace Go.Proofs.YticdmglondpgaaaGreat
open Go.RowKit
set_option linter.unusedVariables false
set_option maxRecDepth 100000
set_option linter.unusedSimpArgs false

attribute [local go_sem] Oper.semAt_some

set_option maxHeartbeats 6400000 in
set_option maxRecDepth 100000 in
theorem TopWider_law (dim : Int) (LA : Option Addr) (lc : Nat) (ls : List (List Int)) (t l d : Int) (sc : Bool) (sd : Int) (DA : Option Addr) (dc : Nat) (ds : List Int) (VA : Option Addr) (vc : Nat) (ys : List Int) (cc : Int) (k limit : Int) (w : World) (wdim : (Lit.int .i64 dim).wf = true) (hlc : ls.length ≤ lc) (hls : Rows w .i32 LA ls) (hlw : ∀ xs ∈ ls, ∀ n ∈ xs, (Lit.int .i32 n).wf = true)
    (wt : (Lit.int .i64 t).wf = true) (wl : (Lit.int .i64 l).wf = true) (wd : (Lit.int .i64 d).wf = true) (wsd : (Lit.int .u64 sd).wf = true) (hdc : ds.length ≤ dc) (hdr : Rd w .u64 DA ds) (hdu : ∀ n ∈ ds, (Lit.int .u64 n).wf = true)
    (hvc : ys.length ≤ vc) (hV : Rd w .i32 VA ys) (hvu : ∀ n ∈ ys, (Lit.int .i32 n).wf = true) (hvn : VA = none → ys = [] ∧ vc = 0) (hvy : ys.length * 4 ≤ 140737488351232) (wcc : (Lit.int .i32 cc).wf = true) (wk : (Lit.int .i64 k).wf = true) (wlim : (Lit.int .i64 limit).wf = true) :
    Calls Tryz.prog 9 #[.int .i64 dim, .slice LA ls.length lc, .agg #[.int .i64 t, .int .i64 l, .int .i64 d, .bool sc, .int .u64 sd, .slice DA ds.length dc], .slice VA ys.length vc, .int .i32 cc, .int .i64 k, .int .i64 limit] w fun e w' => e = .returned (.bool true) ∧ Below w.heap.size w w' := by
  have HLS := Lib.hid hls
  have HDR := Lib.hid hdr
  have HU := Lib.hid (u64_of_wf hdu)
  have HV := Lib.hid hV
  obtain ⟨m, hm⟩ : ∃ m, ds.length = m := ⟨_, rfl⟩
  have HM := Lib.hid hm
  obtain ⟨n, hn⟩ : ∃ n, ls.length = n := ⟨_, rfl⟩
  have HN := Lib.hid hn
  obtain ⟨v1, hv1⟩ : ∃ n, ys.length = n := ⟨_, rfl⟩
  have HV1 := Lib.hid hv1
  have hrt := fun W (h : Below w.heap.size w W) => right_calls dim LA lc ls t l d sc sd DA m dc VA vc ys W (hls.below h) (hV.below h) hvc
  rw [hn, hv1] at hrt
  have HRT := Lib.hid hrt
  rw [hm, hn, hv1]
  rw [hn] at hlc
  rw [hm] at hdc
  rw [hv1] at hvc
  clear hls hlw hdr hdu wt wl wd wsd wdim wk wlim hvu hvn hvy hV hm hn hv1 hrt wcc
  go_enter Tryz.func9, Tryz.ntmps9
  go_wp2_with fail
  obtain ⟨w1, AW⟩ : ∃ X, (w.alloc (.cells #[.int .i64 t, .int .i64 l, .int .i64 d, .bool sc, .int .u64 sd, .slice DA m dc] 28)).alloc (.cells #[.int .i32 cc] 21) = X := ⟨_, rfl⟩
  have Ab : Below w.heap.size w w1 := by rw [← AW]; exact below_alloc1 (below_alloc1 (Below.refl _ _) _) _
  have Ax : w1.heap[w.heap.size]? = some (.cells #[.int .i64 t, .int .i64 l, .int .i64 d, .bool sc, .int .u64 sd, .slice DA m dc] 28 (0, 0)) := by rw [← AW]; exact obj_below (B := w.heap.size + 1) ((Below.refl _ _).alloc (by simp) _) (heap_alloc_new w _) (by omega)
  have Bx : w1.heap[w.heap.size + 1]? = some (.cells #[.int .i32 cc] 21 (0, 0)) := by
    have h := heap_alloc_new (w.alloc (.cells #[.int .i64 t, .int .i64 l, .int .i64 d, .bool sc, .int .u64 sd, .slice DA m dc] 28)) (.cells #[.int .i32 cc] 21)
    rw [World.size_alloc] at h
    rw [← AW]; exact h
  rw [AW]
  clear AW
  refine (lives_calls w1).mono ?_
  rintro e w2 ⟨he, hb2⟩
  subst he
  have B2 := Lib.hid (Ab.trans (hb2.mono Ab.size))
  have hx2 := obj_below hb2 Ax (obj_lt Ax)
  have X2 := Lib.hid hx2
  have p0 : w2.cell? ⟨w.heap.size, 0, none⟩ = some (.int .i64 t) := by simp [World.cell?, hx2]
  have p1 : w2.cell? ⟨w.heap.size, 1, none⟩ = some (.int .i64 l) := by simp [World.cell?, hx2]
  have p2 : w2.cell? ⟨w.heap.size, 2, none⟩ = some (.int .i64 d) := by simp [World.cell?, hx2]
  have p3 : w2.cell? ⟨w.heap.size, 3, none⟩ = some (.bool sc) := by simp [World.cell?, hx2]
  have p4 : w2.cell? ⟨w.heap.size, 4, none⟩ = some (.int .u64 sd) := by simp [World.cell?, hx2]
  have p5 : w2.cell? ⟨w.heap.size, 5, none⟩ = some (.slice DA m dc) := by simp [World.cell?, hx2]
  have hy2 := obj_below hb2 Bx (obj_lt Bx)
  have Y2 := Lib.hid hy2
  clear Bx hy2
  clear Ab Ax hb2 hx2
  go_wp2_with fail
  refine (HRT.out w2 B2.out).mono ?_
  rintro e w3 ⟨bb, he, hb3, hok⟩
  subst he
  have B3 := Lib.hid (B2.out.trans (hb3.mono B2.out.size))
  have X3 := Lib.hid (obj_below hb3 X2.out (obj_lt X2.out))
  have Y3 := Lib.hid (obj_below hb3 Y2.out (obj_lt Y2.out))
  have q0 : w3.cell? ⟨w.heap.size + 1, 0, none⟩ = some (.int .i32 cc) := by have h := Y3.out; simp [World.cell?, h]
  have HOK := Lib.hid hok
  clear hb3 hok p0 p1 p2 p3 p4 p5 X2
  cases bb with
  | false =>
    go_wp2_with fail
    go_ret
    exact ⟨rfl, B3.out⟩
  | true =>
    obtain ⟨hn40, ht6, hm3, hchk, herr, hchk1⟩ := HOK.out (by first | rfl | trivial)
    obtain ⟨hd1, hd2, hall⟩ := chkV_zero hchk
    obtain ⟨D, rfl⟩ : ∃ D : Nat, dim = (D : Int) := ⟨dim.toNat, by omega⟩
    have hD1 : 1 ≤ D := by omega
    have hD2 : D ≤ 1024 := by omega
    have hvr : ∀ r ∈ ls, Vd D r := fun r hr => checkV_vd (hall r hr)
    have hvy : Vd D ys := checkV_vd ((chkV_zero hchk1).2.2 ys (by simp))
    have hx3 := X3.out
    clear HOK
    by_cases h1 : 1024 ≤ D
    · have h1' : decide ((1024 : Int) ≤ (D : Int)) = true := decide_eq_true (by omega)
      go_wp2_with fail
      go_ret
      exact ⟨rfl, B3.out⟩
    have h1' : decide ((1024 : Int) ≤ (D : Int)) = false := decide_eq_false (by omega)
    obtain ⟨D1, hD1e⟩ : ∃ x, D + 1 = x := ⟨_, rfl⟩
    have hw1 : IntKind.i64.wrap ((D : Int) + 1) = (D1 : Int) := by rw [i64_w, wrap64_id _ (by omega)]; omega
    have hw2 : wrap64 ((D : Int) + 1) = (D1 : Int) := by rw [wrap64_id _ (by omega)]; omega
    have HW1 := Lib.hid hw1
    have HW2 := Lib.hid hw2
    clear hw1 hw2
    go_wp2_with fail
    obtain ⟨w4, hw4⟩ : ∃ X, (w3.alloc (.cells #[.int .i32 cc] 21)).alloc (.cells #[.slice (some ⟨w3.heap.size, 0, none⟩) 1 1] 29) = X := ⟨_, rfl⟩
    have hb4 : Below w3.heap.size w3 w4 := by rw [← hw4]; exact below_alloc1 (below_alloc1 (Below.refl _ _) _) _
    have hr4 : Rows w4 .i32 (some ⟨w3.heap.size + 1, 0, none⟩) [[cc]] := by
      have h := rows_one (w3.alloc (.cells #[.int .i32 cc] 21)) (some ⟨w3.heap.size, 0, none⟩) 1 [cc] 29 (rd_oneV w3 cc _ _ rfl) (by simp)
      rw [World.size_alloc] at h
      rw [← hw4]; exact h
    have hck := refCheckL_calls 1 (some ⟨w3.heap.size + 1, 0, none⟩) 1 [[cc]] w4 hr4 (by simp)
    obtain ⟨F, hF⟩ : ∃ F, chkV 1 [[cc]] = F := ⟨_, rfl⟩
    rw [hF] at hck
    rw [hw4]
    have B4 := Lib.hid (B3.out.trans (hb4.mono B3.out.size))
    replace hx3 := obj_below hb4 hx3 (obj_lt hx3)
    replace q0 := cell_below hb4 q0 (World.block_lt_of_cell? _ _ q0)
    have HCK := Lib.hid hck
    have HF := Lib.hid hF
    clear hw4 hb4 hr4 hck hF
    refine HCK.out.mono ?_
    rintro e w5 ⟨he, hw⟩
    subst he hw
    by_cases hF0 : F = 0
    case neg =>
      have hz' : (F == 0) = false := by simp [hF0]
      go_wp2_with fail
      go_ret
      exact ⟨rfl, B4.out⟩
    subst hF0
    have hcc : -1048576 ≤ cc ∧ cc ≤ 1048576 := (checkV_vd (D := 1) ((chkV_zero HF.out).2.2 [cc] (by simp))).2 cc (by simp)
    clear HCK
    have hD4 : D1 ≤ 1024 := by omega
    have hmoves := show Moves (wideL cc) D D1 (cc * cc) from hD1e ▸ moves_wide cc D hcc
    have hv2 := hmoves.len ys hvy.1
    have hml : ∀ r ∈ ls.map (wideL cc), checkV r (D1 : Nat) = 0 := fun r hr => by
      obtain ⟨x, hx, rfl⟩ := List.mem_map.1 hr
      exact checkV_of_vd (by omega) hD4 ⟨hmoves.len x (hvr x hx).1, hmoves.b20 x (hvr x hx).1 (hvr x hx).2⟩
    obtain ⟨E, X, nn, nl, nd, ha1, ha2⟩ := alk_mv hmoves (rows := ls) (ys := ys) sc sd ds k limit hD1 hD2 (by omega) hD4 hvr hvy herr (by omega) ht6
    have hal := fun (W : World) (MA : Option Addr) (mc : Nat) (WA : Option Addr) (wc : Nat) (h : Below w.heap.size w W) (hr : Rows W .i32 MA (ls.map (wideL cc))) (hz : Rd W .i32 WA ((wideL cc) ys)) => alike_calls D (D1) LA lc MA mc ls (ls.map (wideL cc)) t l d sc sd DA dc ds VA vc ys WA wc ((wideL cc) ys) k limit E X nn nl nd W (HLS.out.below h) hr hchk (chkV_good (by omega) (by omega) hml) herr (List.length_map _) (by omega) (HDR.out.below h) HU.out (by rw [HM.out]; omega) (HV.out.below h) hz ha1 ha2
    rw [List.length_map, HN.out, HM.out, HV1.out, hv2] at hal
    have HAL := Lib.hid hal
    have hmv := fun W (hW : Below w4.heap.size w4 W) => moved_calls 39 #[.pointer (some ⟨w.heap.size + 1, 0, none⟩)] (wideL cc) D LA lc ls W (enters_of Tryz.func39 (by kernel_rfl) rfl) (wide_mv cc (w.heap.size + 1) D W hD2 (cell_below hW q0 (World.block_lt_of_cell? _ _ q0))) (HLS.out.below (B4.out.trans (hW.mono B4.out.size))) hvr (by omega)
    rw [List.length_map, HN.out] at hmv
    have HMV := Lib.hid hmv
    have HCL := Lib.hid (fun W (hW : Below w4.heap.size w4 W) => (show Calls Tryz.prog 39 #[.slice VA v1 vc, .pointer (some ⟨w.heap.size + 1, 0, none⟩)] W (fun e w' => ∃ A c, e = .returned (.slice A D1 c) ∧ Rd w' .i32 A ((wideL cc) ys) ∧ Below W.heap.size W w') from by
      have h := (wide_mv cc (w.heap.size + 1) D W hD2 (cell_below hW q0 (World.block_lt_of_cell? _ _ q0))) W VA vc ys (Below.refl _ _) (HV.out.below (B4.out.trans (hW.mono B4.out.size))) (by rw [HV1.out]; exact hvc) hvy
      rw [HV1.out] at h
      refine Calls.mono h ?_
      rintro e w' ⟨v, he, ho, hb⟩
      obtain ⟨A, c, rfl, hc, hr⟩ := ho.shape
      rw [hv2] at he
      exact ⟨A, c, he, hr, hb⟩))
    have p0 : w4.cell? ⟨w.heap.size, 0, none⟩ = some (.int .i64 t) := by simp [World.cell?, hx3]
    have p1 : w4.cell? ⟨w.heap.size, 1, none⟩ = some (.int .i64 l) := by simp [World.cell?, hx3]
    have p2 : w4.cell? ⟨w.heap.size, 2, none⟩ = some (.int .i64 d) := by simp [World.cell?, hx3]
    have p3 : w4.cell? ⟨w.heap.size, 3, none⟩ = some (.bool sc) := by simp [World.cell?, hx3]
    have p4 : w4.cell? ⟨w.heap.size, 4, none⟩ = some (.int .u64 sd) := by simp [World.cell?, hx3]
    have p5 : w4.cell? ⟨w.heap.size, 5, none⟩ = some (.slice DA m dc) := by simp [World.cell?, hx3]
    have lb := obj_lt hx3
    have KP := Lib.hid (fun W (hBx : Below w4.heap.size w4 W) => (show W.cell? ⟨w.heap.size, 0, none⟩ = some (.int .i64 t) ∧ W.cell? ⟨w.heap.size, 1, none⟩ = some (.int .i64 l) ∧ W.cell? ⟨w.heap.size, 2, none⟩ = some (.int .i64 d) ∧ W.cell? ⟨w.heap.size, 3, none⟩ = some (.bool sc) ∧ W.cell? ⟨w.heap.size, 4, none⟩ = some (.int .u64 sd) ∧ W.cell? ⟨w.heap.size, 5, none⟩ = some (.slice DA m dc) ∧ Below w4.heap.size w4 W from ⟨cell_below hBx p0 lb, cell_below hBx p1 lb, cell_below hBx p2 lb, cell_below hBx p3 lb, cell_below hBx p4 lb, cell_below hBx p5 lb, hBx⟩))
    have hself : Below w4.heap.size w4 w4 := Below.refl _ _
    have kg := enters_of Tryz.func39 (by kernel_rfl) rfl
    clear hal hmv ha1 ha2 hml hmoves hv2 hvr hvy hall hchk hchk1 herr hn40 ht6 hm3 hx3 hvc
    have hw1 := HW1.out
    have hw2 := HW2.out
    go_wp2_with fail
    go_region_held3 (fun w' => w'.cell? ⟨w.heap.size, 0, none⟩ = some (.int .i64 t) ∧ w'.cell? ⟨w.heap.size, 1, none⟩ = some (.int .i64 l) ∧ w'.cell? ⟨w.heap.size, 2, none⟩ = some (.int .i64 d) ∧ w'.cell? ⟨w.heap.size, 3, none⟩ = some (.bool sc) ∧ w'.cell? ⟨w.heap.size, 4, none⟩ = some (.int .u64 sd) ∧ w'.cell? ⟨w.heap.size, 5, none⟩ = some (.slice DA m dc) ∧ Below w4.heap.size w4 w')
      (first | exact KP.out _ (by first | ((repeat (first | assumption | exact Below.refl _ _ | apply below_drew1 | apply below_alloc1)); done)) | go_keep)
      (first
        | (go_at_call 36; go_split_ands; (with_reducible refine Calls.mono (HMV.out _ (by first | ((repeat (first | assumption | exact Below.refl _ _ | apply below_drew1 | apply below_alloc1)); done))) ?_); rintro e wz ⟨MA, mc, he, hmc, hmr, hbm⟩; subst he; have hBm : Below w4.heap.size w4 wz := Below.after (by first | ((repeat (first | assumption | exact Below.refl _ _ | apply below_drew1 | apply below_alloc1)); done)) hbm)
        | (go_at_call 39; go_split_ands; (with_reducible refine Calls.mono (HCL.out _ (by first | ((repeat (first | assumption | exact Below.refl _ _ | apply below_drew1 | apply below_alloc1)); done))) ?_); rintro e wz ⟨WA, wc, he, hwr, hbw⟩; subst he; have hBw : Below w4.heap.size w4 wz := Below.after (by first | ((repeat (first | assumption | exact Below.refl _ _ | apply below_drew1 | apply below_alloc1)); done)) hbw)
        | (go_at_call 35; go_split_ands; (with_reducible refine Calls.mono (HAL.out _ MA mc WA wc (B4.out.trans (Below.mono (B := w4.heap.size) (by first | ((repeat (first | assumption | exact Below.refl _ _ | apply below_drew1 | apply below_alloc1)); done)) B4.out.size)) (by first | exact hmr | exact hmr.below hbw) (by first | exact hwr | exact hwr.below hbm)) ?_); rintro e wy ⟨he, hby⟩; subst he; have hBy : Below w4.heap.size w4 wy := Below.after (by first | ((repeat (first | assumption | exact Below.refl _ _ | apply below_drew1 | apply below_alloc1)); done)) hby))
    all_goals
      have BF := Lib.hid (B4.out.trans (hBy.mono B4.out.size))
      go_wp2_with fail
      go_ret
      exact ⟨rfl, BF.out⟩
end Go.Proofs.YticdmglondpgaaaGreat
