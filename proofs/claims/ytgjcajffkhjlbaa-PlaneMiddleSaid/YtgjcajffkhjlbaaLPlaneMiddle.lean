/-
  The statement PlaneMiddle as a walk: it answers true and leaves all memory that was there as it was. Condition: the two arguments read as lists of int32 within the form's reach.
-/
import Derived.Test.YtgjcajffkhjlbaaLaw11
import Derived.Test.YtgjcajffkhjlbaaOpen
import Derived.Test.YtgjcajffkhjlbaaPlaneMath
namespace Go.Proofs.Ytgjcajffkhjlbaa
open Go.RowKit
set_option linter.unusedVariables false
set_option linter.unusedSimpArgs false

def mapN (f : Nat → Int) (n : Nat) : List Int := (List.range n).map f
theorem mapN_length (f : Nat → Int) (n : Nat) : (mapN f n).length = n := by simp [mapN]
theorem mapN_succ (f : Nat → Int) (i : Nat) : mapN f (i + 1) = mapN f i ++ [f i] := by simp [mapN, List.range_succ]
theorem mapN_get (f : Nat → Int) (n i : Nat) (h : i < n) : (mapN f n).getD i 0 = f i := by simp [mapN, List.getD, h]
theorem mapN_mem {f : Nat → Int} {n : Nat} {x : Int} (h : x ∈ mapN f n) : ∃ i, i < n ∧ x = f i := by
  unfold mapN at h
  obtain ⟨i, hi, rfl⟩ := List.mem_map.1 h
  exact ⟨i, List.mem_range.1 hi, rfl⟩
def InMid (xs ds : List Int) (j : Nat) : Prop := -524288 ≤ xs.getD j 0 ∧ xs.getD j 0 ≤ 524288 ∧ -131072 ≤ ds.getD j 0 ∧ ds.getD j 0 ≤ 131072
theorem middle {xs ds X Y : List Int} (hd : ds.length = xs.length) (hn : xs.length ≤ 1024) (hall : ∀ j, j < xs.length → InMid xs ds j) (hX : mapN (fun i => xs.getD i 0 + ds.getD i 0) xs.length = X) (hY : mapN (fun i => xs.getD i 0 + 2 * ds.getD i 0) xs.length = Y) :
    B20 xs ∧ B20 X ∧ B20 Y ∧ X.length = xs.length ∧ Y.length = xs.length ∧ margin (less xs Y) (betweenOff xs Y) X = 0 ∧ margin (less xs Y) (betweenOff xs Y) xs = 4 * far xs X ∧ 0 ≤ far xs X ∧ far xs X ≤ 4503599627370496 := by
  have lX : X.length = xs.length := by rw [← hX, mapN_length]
  have lY : Y.length = xs.length := by rw [← hY, mapN_length]
  have bx : B20 xs := fun x hx => by
    obtain ⟨j, hj, rfl⟩ := List.getElem_of_mem hx
    obtain ⟨h1, h2, _, _⟩ := hall j hj
    simp [List.getD, hj] at h1 h2
    omega
  have bX : B20 X := fun x hx => by
    rw [← hX] at hx
    obtain ⟨i, hi, rfl⟩ := mapN_mem hx
    obtain ⟨h1, h2, h3, h4⟩ := hall i hi
    omega
  have bY : B20 Y := fun x hx => by
    rw [← hY] at hx
    obtain ⟨i, hi, rfl⟩ := mapN_mem hx
    obtain ⟨h1, h2, h3, h4⟩ := hall i hi
    omega
  have e1 := btw_margin bx bY bX hn lY lX
  have e2 := btw_margin bx bY bx hn lY rfl
  rw [far_self] at e2
  have e3 : far X Y = far X xs := by
    unfold far farN
    rw [lX, lY]
    exact sumTo_congr _ fun i hi => by rw [← hX, ← hY, mapN_get _ _ _ (by omega), mapN_get _ _ _ (by omega)]; grind
  have e4 : far xs Y = 4 * far xs X := by
    unfold far farN
    rw [lX, lY, ← sumTo_mul]
    exact sumTo_congr _ fun i hi => by rw [← hX, ← hY, mapN_get _ _ _ (by omega), mapN_get _ _ _ (by omega)]; grind
  exact ⟨bx, bX, bY, lX, lY, by omega, by omega, far_nonneg _ _, (far_bd bx bX hn).2⟩

set_option maxHeartbeats 1600000 in
set_option maxRecDepth 100000 in
theorem PlaneMiddle_law (A : Option Addr) (c : Nat) (xs : List Int) (B : Option Addr) (d : Nat) (ds : List Int) (w : World)
    (hA : Rd w .i32 A xs) (rA : ∀ n ∈ xs, (Lit.int .i32 n).wf = true) (nA : A = none → xs = [] ∧ c = 0) (lA : xs.length * 4 ≤ 140737488351232)
    (hB : Rd w .i32 B ds) (rB : ∀ n ∈ ds, (Lit.int .i32 n).wf = true) (nB : B = none → ds = [] ∧ d = 0) (lB : ds.length * 4 ≤ 140737488351232)
    : Calls Try.prog 5 #[.slice A xs.length c, .slice B ds.length d] w fun e w' => e = .returned (.bool true) ∧ Below w.heap.size w w' := by
  replace rA := Lib.hid (r32_of_wf rA)
  have KA := Lib.hid hA
  clear hA nA
  replace rB := Lib.hid (r32_of_wf rB)
  have KB := Lib.hid hB
  clear hB nB
  have hxl : (xs.length : Int) ≤ 9223372036854775807 := by omega
  by_cases h1 : xs.length < 1
  · have h1' : decide ((xs.length : Int) < 1) = true := by simp; omega
    go_enter Try.func5, Try.ntmps5
    go_wp2_with fail
    refine (awake_calls _).mono ?_
    rintro e w1 ⟨rfl, hb1⟩
    go_wp2_with fail
    go_ret
    exact ⟨rfl, hb1⟩
  have h1' : decide ((xs.length : Int) < 1) = false := by simp; omega
  by_cases h2 : 1024 < xs.length
  · have h2' : decide (1024 < (xs.length : Int)) = true := by simp; omega
    go_enter Try.func5, Try.ntmps5
    go_wp2_with fail
    refine (awake_calls _).mono ?_
    rintro e w1 ⟨rfl, hb1⟩
    go_wp2_with fail
    go_ret
    exact ⟨rfl, hb1⟩
  have h2' : decide (1024 < (xs.length : Int)) = false := by simp; omega
  by_cases h3 : ¬ ds.length = xs.length
  · have h3' : ((ds.length : Int) != (xs.length : Int)) = true := by simp; omega
    clear h3
    go_enter Try.func5, Try.ntmps5
    go_wp2_with fail
    refine (awake_calls _).mono ?_
    rintro e w1 ⟨rfl, hb1⟩
    go_wp2_with fail
    go_ret
    exact ⟨rfl, hb1⟩
  replace h3 := Decidable.not_not.1 h3
  have h3' : ((ds.length : Int) != (xs.length : Int)) = false := by simp; omega
  have H3 := Lib.hid h3
  clear h3
  replace h1 : 1 ≤ xs.length := by omega
  replace h2 : xs.length ≤ 1024 := by omega
  obtain ⟨f1, hf1⟩ : ∃ f : Nat → Int, f = fun i => xs.getD i 0 + ds.getD i 0 := ⟨_, rfl⟩
  obtain ⟨f2, hf2⟩ : ∃ f : Nat → Int, f = fun i => xs.getD i 0 + 2 * ds.getD i 0 := ⟨_, rfl⟩
  have HF1 := Lib.hid hf1
  have HF2 := Lib.hid hf2
  clear hf1 hf2
  go_enter Try.func5, Try.ntmps5
  have k_w : Below w.heap.size w w := Below.refl _ _
  go_wp2_with fail
  refine (awake_calls _  ).mono ?_
  rintro e w1 ⟨he, hbn⟩
  subst he
  have k_w_w1 : Below w.heap.size w w1 := k_w.trans (hbn.mono k_w.size)
  clear k_w
  clear hbn
  go_wp2_with fail
  have hz1 := k_w_w1.size
  go_loopg [6, 7, 8] xs.length (fun kq v6 v7 v8 w' => kq ≤ xs.length ∧ v8 = .int .i64 ((xs.length - kq : Nat)) ∧ Own w' w1.heap.size 21 .i32 v6 (mapN f1 (xs.length - kq)) ∧ Own w' w1.heap.size 21 .i32 v7 (mapN f2 (xs.length - kq)) ∧ Below w1.heap.size w1 w' ∧ Apart v6 v7 ∧ ∀ j, j < xs.length - kq → InMid xs ds j)
  case atStart => exact ⟨Nat.le_refl _, by simp, by rw [Nat.sub_self]; exact World.ownsRow_nil _ _ _ _, by rw [Nat.sub_self]; exact World.ownsRow_nil _ _ _ _, Below.refl _ _, Apart.nil _, fun j hj => by omega⟩
  case round =>
    obtain ⟨hk, rfl, HX, HY, HB, HAP, hall⟩ := hrel
    have HX' := Lib.hid HX
    have HY' := Lib.hid HY
    have HBH := Lib.hid HB
    have HA' := Lib.hid HAP
    have HALL := Lib.hid hall
    have hwz := HB.size
    clear HX HY HB HAP hall
    cases gk with
    | zero =>
      simp only [Nat.sub_zero] at HX' HY' HALL ⊢
      have kw : Below w.heap.size w wr := k_w_w1.trans (HBH.out.mono hz1)
      obtain ⟨X, hX⟩ : ∃ X, mapN f1 xs.length = X := ⟨_, rfl⟩
      obtain ⟨Y, hY⟩ : ∃ Y, mapN f2 xs.length = Y := ⟨_, rfl⟩
      have hM := middle (X := X) (Y := Y) H3.out h2 HALL.out (by rw [← hX, HF1.out]) (by rw [← hY, HF2.out])
      obtain ⟨g1, g2, g3, g4, g5, g6, g7, g8, g9⟩ := hM
      rw [hX] at HX'
      rw [hY] at HY'
      have RX := Lib.hid g2.r32
      have RY := Lib.hid g3.r32
      have RL : Hid (R32 (less xs Y)) := R32.less _ _
      obtain ⟨L, hL⟩ : ∃ L, less xs Y = L := ⟨_, rfl⟩
      obtain ⟨off, hO⟩ : ∃ p, betweenOff xs Y = p := ⟨_, rfl⟩
      obtain ⟨p, hp⟩ : ∃ p, far xs X = p := ⟨_, rfl⟩
      rw [hL, hO] at g6 g7
      rw [hL] at RL
      rw [hp] at g7 g8 g9
      have EL := Lib.hid hL
      have EO := Lib.hid hO
      have M1 := Lib.hid g6
      have M2 := Lib.hid g7
      have D1 : Hid (wrap64 (far xs X) = p) := by rw [hp, Hid, wrap64_id _ (by omega)]
      have S1 : Hid (decide (0 ≤ margin L off X) = true) := by rw [g6]; rfl
      have x1 : ((0 : Int) == 0) = true := by simp
      have x2 : (4 * p == 4 * p) = true := by simp
      have hs : xs.length ≤ 35184372088832 := by omega
      clear hX hY hL hO hp g1 g2 g3 g4 g5 g6 g7
      obtain ⟨AX, cx, hv, hcx, hRX⟩ := HX'.out.shape
      subst hv
      obtain ⟨AY, cy, hv, hcy, hRY⟩ := HY'.out.shape
      subst hv
      have KX := Lib.hid hRX
      have KY := Lib.hid hRY
      clear hRX hRY hcx hcy
      have z_w_wr := kw.size
      have k_wr : Below wr.heap.size wr wr := Below.refl _ _
      go_wp2_with fail
      refine (Between_calls A AY c cy xs Y _ (KA.out.below kw) (KY.out.below k_wr) rA.out RY.out hs).mono ?_
      rintro e w2 ⟨v4, he, ho, hbn⟩
      rw [EO.out] at he
      subst he
      rw [EL.out] at ho
      obtain ⟨AL, cL, hv, hcv, hRV⟩ := ho.shape
      subst hv
      have KL := Lib.hid hRV
      clear ho hRV hcv
      have k_w_w2 : Below w.heap.size w w2 := kw.trans (hbn.mono kw.size)
      have k_wr_w2 : Below wr.heap.size wr w2 := k_wr.trans (hbn.mono k_wr.size)
      clear kw
      clear k_wr
      clear hbn
      have z_w_w2 := k_w_w2.size
      have z_wr_w2 := k_wr_w2.size
      have k_w2 : Below w2.heap.size w2 w2 := Below.refl _ _
      go_wp2_with fail
      obtain ⟨w3, hw⟩ : ∃ W, w2.alloc (.cells #[.slice AL L.length cL, .int .i64 off] 30) = W := ⟨_, rfl⟩
      rw [hw]
      have hbn : Below w2.heap.size w2 w3 := by rw [← hw]; exact below_alloc1 (Below.refl _ _) _
      have b3 : w3.heap[w2.heap.size]? = some (.cells #[.slice AL L.length cL, .int .i64 off] 30 (0, 0)) := by rw [← hw]; exact heap_alloc_new _ _
      clear hw
      have k_w_w3 : Below w.heap.size w w3 := k_w_w2.trans (hbn.mono k_w_w2.size)
      have k_wr_w3 : Below wr.heap.size wr w3 := k_wr_w2.trans (hbn.mono k_wr_w2.size)
      have k_w2_w3 : Below w2.heap.size w2 w3 := k_w2.trans (hbn.mono k_w2.size)
      clear k_w_w2
      clear k_wr_w2
      clear k_w2
      clear hbn
      have b2 := b3
      clear b3
      have h_p0 : w3.cell? ⟨w2.heap.size, 0, none⟩ = some (.slice AL L.length cL) := by simp [World.cell?, b2]
      have h_p1 : w3.cell? ⟨w2.heap.size, 1, none⟩ = some (.int .i64 off) := by simp [World.cell?, b2]
      have b_p := Lib.hid b2
      clear b2
      go_wp2_with fail
      refine (Margin_calls AL AX cL cx L X off _ (KL.out.below k_w2_w3) (KX.out.below k_wr_w3) RL.out RX.out).mono ?_
      rintro e w4 ⟨he, hbn⟩
      rw [M1.out] at he
      subst he
      have k_w_w4 : Below w.heap.size w w4 := k_w_w3.trans (hbn.mono k_w_w3.size)
      have k_wr_w4 : Below wr.heap.size wr w4 := k_wr_w3.trans (hbn.mono k_wr_w3.size)
      have k_w2_w4 : Below w2.heap.size w2 w4 := k_w2_w3.trans (hbn.mono k_w2_w3.size)
      clear k_w_w3
      clear k_wr_w3
      clear k_w2_w3
      have b2 := obj_below hbn b_p.out (obj_lt b_p.out)
      clear b_p h_p0 h_p1
      have h_p0 : w4.cell? ⟨w2.heap.size, 0, none⟩ = some (.slice AL L.length cL) := by simp [World.cell?, b2]
      have h_p1 : w4.cell? ⟨w2.heap.size, 1, none⟩ = some (.int .i64 off) := by simp [World.cell?, b2]
      have b_p := Lib.hid b2
      clear b2
      clear hbn
      go_wp2_with fail
      refine (Side_calls AL AX cL cx L X off _ (KL.out.below k_w2_w4) (KX.out.below k_wr_w4) RL.out RX.out).mono ?_
      rintro e w5 ⟨he, hbn⟩
      rw [S1.out] at he
      subst he
      have k_w_w5 : Below w.heap.size w w5 := k_w_w4.trans (hbn.mono k_w_w4.size)
      have k_wr_w5 : Below wr.heap.size wr w5 := k_wr_w4.trans (hbn.mono k_wr_w4.size)
      have k_w2_w5 : Below w2.heap.size w2 w5 := k_w2_w4.trans (hbn.mono k_w2_w4.size)
      clear k_w_w4
      clear k_wr_w4
      clear k_w2_w4
      have b2 := obj_below hbn b_p.out (obj_lt b_p.out)
      clear b_p h_p0 h_p1
      have h_p0 : w5.cell? ⟨w2.heap.size, 0, none⟩ = some (.slice AL L.length cL) := by simp [World.cell?, b2]
      have h_p1 : w5.cell? ⟨w2.heap.size, 1, none⟩ = some (.int .i64 off) := by simp [World.cell?, b2]
      have b_p := Lib.hid b2
      clear b2
      clear hbn
      go_wp2_with fail
      refine (Margin_calls AL A cL c L xs off _ (KL.out.below k_w2_w5) (KA.out.below k_w_w5) RL.out rA.out).mono ?_
      rintro e w6 ⟨he, hbn⟩
      rw [M2.out] at he
      subst he
      have k_w_w6 : Below w.heap.size w w6 := k_w_w5.trans (hbn.mono k_w_w5.size)
      have k_wr_w6 : Below wr.heap.size wr w6 := k_wr_w5.trans (hbn.mono k_wr_w5.size)
      have k_w2_w6 : Below w2.heap.size w2 w6 := k_w2_w5.trans (hbn.mono k_w2_w5.size)
      clear k_w_w5
      clear k_wr_w5
      clear k_w2_w5
      have b2 := obj_below hbn b_p.out (obj_lt b_p.out)
      clear b_p h_p0 h_p1
      have h_p0 : w6.cell? ⟨w2.heap.size, 0, none⟩ = some (.slice AL L.length cL) := by simp [World.cell?, b2]
      have h_p1 : w6.cell? ⟨w2.heap.size, 1, none⟩ = some (.int .i64 off) := by simp [World.cell?, b2]
      have b_p := Lib.hid b2
      clear b2
      clear hbn
      go_wp2_with fail
      refine (Far_b A AX c cx xs X _ (KA.out.below k_w_w6) (KX.out.below k_wr_w6) rA.out RX.out).mono ?_
      rintro e w7 ⟨he, hbn⟩
      rw [D1.out] at he
      subst he
      have k_w_w7 : Below w.heap.size w w7 := k_w_w6.trans (hbn.mono k_w_w6.size)
      have k_wr_w7 : Below wr.heap.size wr w7 := k_wr_w6.trans (hbn.mono k_wr_w6.size)
      have k_w2_w7 : Below w2.heap.size w2 w7 := k_w2_w6.trans (hbn.mono k_w2_w6.size)
      clear k_w_w6
      clear k_wr_w6
      clear k_w2_w6
      have b2 := obj_below hbn b_p.out (obj_lt b_p.out)
      clear b_p h_p0 h_p1
      have h_p0 : w7.cell? ⟨w2.heap.size, 0, none⟩ = some (.slice AL L.length cL) := by simp [World.cell?, b2]
      have h_p1 : w7.cell? ⟨w2.heap.size, 1, none⟩ = some (.int .i64 off) := by simp [World.cell?, b2]
      have b_p := Lib.hid b2
      clear b2
      clear hbn
      go_wp2_with fail
      go_ret
      exact ⟨rfl, k_w_w7⟩
    | succ k1 =>
      obtain ⟨i, hi⟩ : ∃ i, xs.length - (k1 + 1) = i := ⟨_, rfl⟩
      have hi2 : xs.length - k1 = i + 1 := by omega
      have HI := Lib.hid hi2
      have hlt : i < xs.length := by omega
      have hlt2 : i < ds.length := by have := H3.out; omega
      rw [hi] at HX' HY' HALL ⊢
      obtain ⟨ad, rfl, hca⟩ := (KA.out.below k_w_w1).2 i hlt
      obtain ⟨bd, rfl, hcb⟩ := (KB.out.below k_w_w1).2 i hlt2
      have ha0 := World.block_lt_of_cell? w1 _ hca
      have hb0 := World.block_lt_of_cell? w1 _ hcb
      have hca' : wr.cell? (ad.add i) = _ := cell_below HBH.out hca ha0
      have hcb' : wr.cell? (bd.add i) = _ := cell_below HBH.out hcb hb0
      have HS1 := Lib.hid (mapN_succ f1 i)
      have HS2 := Lib.hid (mapN_succ f2 i)
      have HL1 := Lib.hid (mapN_length f1 i)
      have HL2 := Lib.hid (mapN_length f2 i)
      have hf1 : f1 i = xs.getD i 0 + ds.getD i 0 := by rw [HF1.out]
      have hf2 : f2 i = xs.getD i 0 + 2 * ds.getD i 0 := by rw [HF2.out]
      obtain ⟨x, hx⟩ : ∃ x, xs.getD i 0 = x := ⟨_, rfl⟩
      obtain ⟨y, hy⟩ : ∃ y, ds.getD i 0 = y := ⟨_, rfl⟩
      rw [hx, hy] at hf1 hf2
      rw [hx] at hca hca'
      rw [hy] at hcb hcb'
      have HG1 := Lib.hid hf1
      have HG2 := Lib.hid hf2
      have HXX := Lib.hid hx
      have HYY := Lib.hid hy
      clear hi hi2 hf1 hf2 hx hy
      by_cases o1 : x < -524288
      · have o1' : decide (x < -524288) = true := decide_eq_true o1
        go_wp2_with fail
        go_ret
        exact ⟨rfl, k_w_w1.trans (HBH.out.mono hz1)⟩
      have o1' : decide (x < -524288) = false := decide_eq_false o1
      by_cases o2 : 524288 < x
      · have o2' : decide (524288 < x) = true := decide_eq_true o2
        go_wp2_with fail
        go_ret
        exact ⟨rfl, k_w_w1.trans (HBH.out.mono hz1)⟩
      have o2' : decide (524288 < x) = false := decide_eq_false o2
      by_cases o3 : y < -131072
      · have o3' : decide (y < -131072) = true := decide_eq_true o3
        go_wp2_with fail
        go_ret
        exact ⟨rfl, k_w_w1.trans (HBH.out.mono hz1)⟩
      have o3' : decide (y < -131072) = false := decide_eq_false o3
      by_cases o4 : 131072 < y
      · have o4' : decide (131072 < y) = true := decide_eq_true o4
        go_wp2_with fail
        go_ret
        exact ⟨rfl, k_w_w1.trans (HBH.out.mono hz1)⟩
      have o4' : decide (131072 < y) = false := decide_eq_false o4
      have hwx := i32_w (x + y)
      have hw2 := i32_w (2 * y)
      have hwy := i32_w (x + 2 * y)
      rw [wrap32_id _ (by omega)] at hwx hwy hw2
      go_wp2_with fail
      go_region_held3 (fun w' => w'.cell? (ad.add i) = some (.int .i32 x) ∧ w'.cell? (bd.add i) = some (.int .i32 y))
        (first
          | go_keep
          | (exact ⟨cell_below hbel2 hca ha0, cell_below hbel2 hcb hb0⟩)
          | (exact ⟨cell_below hbel1 hca ha0, cell_below hbel1 hcb hb0⟩))
        (first
          | (refine step_app _ (by rfl) (.tmp 57) (.tmp 67) 22 21 (by rfl) (.int .i32 0) 1 4 Try.underlying22 info_i32 rfl (by omega) (by omega) w1.heap.size u6 i (nums .i32 (mapN f1 i)) (by rfl) _ 1 1 (by rfl) (by repeat (first | exact HX'.out.row HL1.out | apply own_drew1 | apply own_alloc1)) w1 (by repeat (first | exact HBH.out | apply below_drew1 | apply below_alloc1)) (by simp; omega) [.int .i32 (x + y)] (by rfl) (by repeat (first | exact RdC.one' _ _ _ _ (by simp) | apply RdC.drew1 | apply RdC.alloc1)) (by simp [Value.oneCell']) (by omega) ?_; intro v1 w2 hown1 hgrow1 hbel1 hat1 hnil1)
          | (refine step_app _ (by rfl) (.tmp 69) (.tmp 80) 22 21 (by rfl) (.int .i32 0) 1 4 Try.underlying22 info_i32 rfl (by omega) (by omega) w1.heap.size u7 i (nums .i32 (mapN f2 i)) (by rfl) _ 1 1 (by rfl) (by repeat (first | exact row_only (by repeat (first | exact HY'.out.row HL2.out | apply own_drew1 | apply own_alloc1)) hgrow1 (fun b h1 h2 => HA'.out b h2 h1) | apply own_drew1 | apply own_alloc1)) w1 (by repeat (first | exact hbel1 | apply below_drew1 | apply below_alloc1)) (by have := hbel1.size; first | omega | (simp; omega)) [.int .i32 (x + 2 * y)] (by rfl) (by repeat (first | exact RdC.one' _ _ _ _ (by simp) | exact RdC.only (by repeat (first | exact RdC.one' _ _ _ _ (by simp) | apply RdC.drew1 | apply RdC.alloc1)) hgrow1 (fun h => by have := (HX'.out.lt _ h).2; omega) | apply RdC.drew1 | apply RdC.alloc1)) (by simp [Value.oneCell']) (by omega) ?_; intro v2 w3 hown2 hgrow2 hbel2 hat2 hnil2))
      all_goals
        have HO2 := Lib.hid (row_only (w1 := w3) (by repeat (first | exact hown1 | apply own_drew1 | apply own_alloc1)) hgrow2 (fun b h1 h2 => by
          have hs8 := HX'.out.lt
          have hs9 := HY'.out.lt
          rcases hat1 with hat | hat
          · rw [hat] at h1; exact HA'.out b h1 h2
          · rw [hat] at h1; injection h1 with h1; have := (hs9 b h2).2; simp at h1; omega))
        have HAP := Lib.hid (Apart.step HA'.out (fun b hb => (HX'.out.lt b hb).2) (fun b hb => (HY'.out.lt b hb).2) hat1 (by simp; try omega) hat2 (by have := hgrow1.size; simp at this ⊢; omega) (fun b hb => by have := row_lt hown1 b hb; first | exact this | (simp; omega)))
        have HO3 := Lib.hid hown2
        clear hown1 hown2 hat1 hat2 hnil1 hnil2 hgrow1 hgrow2
        go_wp2
        go_roundg k1
        case measure => omega
        case rel =>
          rw [HI.out, HS1.out, HS2.out, HG1.out, HG2.out]
          refine ⟨by omega, rfl, Own.of_row HO2.out HL1.out, Own.of_row HO3.out HL2.out, hbel2, HAP.out, fun j hj => ?_⟩
          rcases Nat.lt_or_ge j i with h | h
          · exact HALL.out j h
          · obtain rfl : j = i := by omega
            unfold InMid
            rw [HXX.out, HYY.out]
            omega
end Go.Proofs.Ytgjcajffkhjlbaa
