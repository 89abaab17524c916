/-
  The statement VecShifts as a walk: it answers true and leaves all memory that was there as it was. Condition: the arguments read as lists of int32 within the form's reach.
-/
import Derived.Test.YtgjcajffkhjlbaaLaw03
import Derived.Test.YtgjcajffkhjlbaaOpen
import Derived.Test.YtgjcajffkhjlbaaVecMath
namespace Go.Proofs.Ytgjcajffkhjlbaa
open Go.RowKit
set_option linter.unusedVariables false
set_option linter.unusedSimpArgs false

def shiftN (xs zs : List Int) (n : Nat) : List Int := (List.range n).map fun i => wrap32 (xs.getD i 0 + zs.getD i 0)
theorem shiftN_length (xs ys : List Int) (n : Nat) : (shiftN xs ys n).length = n := by simp [shiftN]
theorem shiftN_succ (xs ys : List Int) (i : Nat) : shiftN xs ys (i + 1) = shiftN xs ys i ++ [wrap32 (xs.getD i 0 + ys.getD i 0)] := by simp [shiftN, List.range_succ]
theorem shiftN_get (xs zs : List Int) (n i : Nat) (h : i < n) : (shiftN xs zs n).getD i 0 = wrap32 (xs.getD i 0 + zs.getD i 0) := by simp [shiftN, List.getD, h]
theorem R32.shift (xs zs : List Int) (n : Nat) : R32 (shiftN xs zs n) := fun x hx => by
  unfold shiftN at hx
  obtain ⟨i, _, rfl⟩ := List.mem_map.1 hx
  exact wrap32_bd _
theorem less_ext {X Y L : List Int} (hl : L.length = min X.length Y.length) (h : ∀ i, i < L.length → wrap32 (X.getD i 0 - Y.getD i 0) = L.getD i 0) : less X Y = L := by
  refine ext32 (by rw [less_length, hl]) fun j hj => ?_
  rw [less_length] at hj
  unfold less
  rw [lessN_get _ _ _ _ hj]
  exact h j (by omega)
theorem shifted {xs ys zs X Y : List Int} (h1 : ys.length = xs.length) (h2 : zs.length = xs.length) (bx : B20 xs) (by_ : B20 ys) (bz : B20 zs) (hX : shiftN xs zs xs.length = X) (hY : shiftN ys zs xs.length = Y) :
    far X Y = far xs ys ∧ less X Y = less xs ys ∧ less X zs = xs := by
  have lX : X.length = xs.length := by rw [← hX, shiftN_length]
  have lY : Y.length = xs.length := by rw [← hY, shiftN_length]
  have gX : ∀ i, i < xs.length → X.getD i 0 = xs.getD i 0 + zs.getD i 0 := fun i hi => by
    have b1 := bx.at i
    have b2 := bz.at i
    rw [← hX, shiftN_get _ _ _ _ hi, wrap32_id _ (by omega)]
  have gY : ∀ i, i < xs.length → Y.getD i 0 = ys.getD i 0 + zs.getD i 0 := fun i hi => by
    have b1 := by_.at i
    have b2 := bz.at i
    rw [← hY, shiftN_get _ _ _ _ hi, wrap32_id _ (by omega)]
  refine ⟨?_, ?_, ?_⟩
  · unfold far farN
    rw [lX, lY, h1]
    exact sumTo_congr _ fun i hi => by rw [gX i (by omega), gY i (by omega)]; congr 1 <;> omega
  · refine less_ext (by rw [less_length, lX, lY, h1]) fun i hi => ?_
    rw [less_length, h1, Nat.min_self] at hi
    have b1 := bx.at i
    have b2 := by_.at i
    rw [gX i hi, gY i hi, less_get bx by_ i (by omega), wrap32_id _ (by omega)]
    omega
  · refine less_ext (by rw [lX, h2, Nat.min_self]) fun i hi => ?_
    have b1 := bx.at i
    rw [gX i hi, wrap32_id _ (by omega)]
    omega
set_option maxHeartbeats 1600000 in
set_option maxRecDepth 100000 in
theorem VecShifts_law (A : Option Addr) (c : Nat) (xs : List Int) (B : Option Addr) (d : Nat) (ys : List Int) (C : Option Addr) (f : Nat) (zs : List Int) (w : World)
    (hA : Rd w .i32 A xs) (rA : ∀ n ∈ xs, (Lit.int .i32 n).wf = true) (nA : A = none → xs = [] ∧ c = 0) (lA : xs.length * 4 ≤ 140737488351232)
    (hB : Rd w .i32 B ys) (rB : ∀ n ∈ ys, (Lit.int .i32 n).wf = true) (nB : B = none → ys = [] ∧ d = 0) (lB : ys.length * 4 ≤ 140737488351232)
    (hC : Rd w .i32 C zs) (rC : ∀ n ∈ zs, (Lit.int .i32 n).wf = true) (nC : C = none → zs = [] ∧ f = 0) (lC : zs.length * 4 ≤ 140737488351232)
    : Calls Try.prog 9 #[.slice A xs.length c, .slice B ys.length d, .slice C zs.length f] w fun e w' => e = .returned (.bool true) ∧ Below w.heap.size w w' := by
  replace rA := Lib.hid (r32_of_wf rA)
  have KA := Lib.hid hA
  clear hA nA
  replace rB := Lib.hid (r32_of_wf rB)
  have KB := Lib.hid hB
  clear hB nB
  replace rC := Lib.hid (r32_of_wf rC)
  have KC := Lib.hid hC
  clear hC nC
  obtain ⟨c1, E1'⟩ : ∃ p, checkV xs (xs.length : Int) = p := ⟨_, rfl⟩
  obtain ⟨c2, E2'⟩ : ∃ p, checkV ys (xs.length : Int) = p := ⟨_, rfl⟩
  obtain ⟨c3, E3'⟩ : ∃ p, checkV zs (xs.length : Int) = p := ⟨_, rfl⟩
  have E1 := Lib.hid E1'
  have E2 := Lib.hid E2'
  have E3 := Lib.hid E3'
  clear E1' E2' E3'
  go_enter Try.func9, Try.ntmps9
  have k_w : Below w.heap.size w w := Below.refl _ _
  go_wp2_with fail
  refine (awake_calls _  ).mono ?_
  rintro e w1 ⟨he, hbn⟩
  subst he
  have k_w_w1 : Below w.heap.size w w1 := k_w.trans (hbn.mono k_w.size)
  clear k_w
  clear hbn
  go_wp2_with fail
  refine (Check_calls A c xs (xs.length : Int) _ (KA.out.below k_w_w1) ).mono ?_
  rintro e _ ⟨he, rfl⟩
  rw [E1.out] at he
  subst he
  by_cases hc1 : ¬ c1 = 0
  · have t1 : (c1 != 0) = true := by simp [hc1]
    clear hc1
    go_wp2_with fail
    go_ret
    exact ⟨rfl, k_w_w1⟩
  replace hc1 := Decidable.not_not.1 hc1
  have t1 : (c1 != 0) = false := by simp [hc1]
  have c10 := Lib.hid hc1
  clear hc1
  go_wp2_with fail
  refine (Check_calls B d ys (xs.length : Int) _ (KB.out.below k_w_w1) ).mono ?_
  rintro e _ ⟨he, rfl⟩
  rw [E2.out] at he
  subst he
  by_cases hc2 : ¬ c2 = 0
  · have t2 : (c2 != 0) = true := by simp [hc2]
    clear hc2
    go_wp2_with fail
    go_ret
    exact ⟨rfl, k_w_w1⟩
  replace hc2 := Decidable.not_not.1 hc2
  have t2 : (c2 != 0) = false := by simp [hc2]
  have c20 := Lib.hid hc2
  clear hc2
  go_wp2_with fail
  refine (Check_calls C f zs (xs.length : Int) _ (KC.out.below k_w_w1) ).mono ?_
  rintro e _ ⟨he, rfl⟩
  rw [E3.out] at he
  subst he
  by_cases hc3 : ¬ c3 = 0
  · have t3 : (c3 != 0) = true := by simp [hc3]
    clear hc3
    go_wp2_with fail
    go_ret
    exact ⟨rfl, k_w_w1⟩
  replace hc3 := Decidable.not_not.1 hc3
  have t3 : (c3 != 0) = false := by simp [hc3]
  have c30 := Lib.hid hc3
  clear hc3
  have H : Hid (1 ≤ xs.length ∧ xs.length ≤ 1024 ∧ ys.length = xs.length ∧ zs.length = xs.length ∧ B20 xs ∧ B20 ys ∧ B20 zs) := by
    have h1 := checkV_zero (E1.out.trans c10.out)
    have h2 := checkV_zero (E2.out.trans c20.out)
    have h3 := checkV_zero (E3.out.trans c30.out)
    exact ⟨by omega, by omega, by omega, by omega, h1.2.2.2, h2.2.2.2, h3.2.2.2⟩
  have hn : xs.length ≤ 1024 := H.out.2.1
  go_wp2_with fail
  have hz1 := k_w_w1.size
  go_loopg [8, 9, 10] xs.length (fun kq v8 v9 v10 w' => kq ≤ xs.length ∧ v10 = .int .i64 ((xs.length - kq : Nat)) ∧ Own w' w1.heap.size 21 .i32 v8 (shiftN xs zs (xs.length - kq)) ∧ Own w' w1.heap.size 21 .i32 v9 (shiftN ys zs (xs.length - kq)) ∧ Below w1.heap.size w1 w' ∧ Apart v8 v9)
  case atStart => exact ⟨Nat.le_refl _, by simp, by rw [Nat.sub_self]; exact World.ownsRow_nil _ _ _ _, by rw [Nat.sub_self]; exact World.ownsRow_nil _ _ _ _, Below.refl _ _, Apart.nil _⟩
  case round =>
    obtain ⟨hk, rfl, HX, HY, HB, HAP⟩ := hrel
    have HX' := Lib.hid HX
    have HY' := Lib.hid HY
    have HBH := Lib.hid HB
    have HA' := Lib.hid HAP
    have hwz := HB.size
    clear HX HY HB HAP
    cases gk with
    | zero =>
      simp only [Nat.sub_zero] at HX' HY' ⊢
      have kw : Below w.heap.size w wr := k_w_w1.trans (HBH.out.mono hz1)
      obtain ⟨X, hX⟩ : ∃ X, shiftN xs zs xs.length = X := ⟨_, rfl⟩
      obtain ⟨Y, hY⟩ : ∃ Y, shiftN ys zs xs.length = Y := ⟨_, rfl⟩
      have hF := shifted H.out.2.2.1 H.out.2.2.2.1 H.out.2.2.2.2.1 H.out.2.2.2.2.2.1 H.out.2.2.2.2.2.2 hX hY
      have RX : Hid (R32 X) := by rw [← hX]; exact R32.shift _ _ _
      have RY : Hid (R32 Y) := by rw [← hY]; exact R32.shift _ _ _
      rw [hX] at HX'
      rw [hY] at HY'
      have HF := Lib.hid hF
      have hl1 : X.length ≤ 35184372088832 := by rw [← hX, shiftN_length]; omega
      have hl2 : xs.length ≤ 35184372088832 := by omega
      clear hX hY hF
      obtain ⟨p1, hp1⟩ : ∃ p, wrap64 (far X Y) = p := ⟨_, rfl⟩
      have E4 := Lib.hid hp1
      have E5 : Hid (wrap64 (far xs ys) = p1) := by rw [← hp1, HF.out.1]; rfl
      have t4 : (p1 == p1) = true := by simp
      obtain ⟨L, hL⟩ : ∃ L, less xs ys = L := ⟨_, rfl⟩
      have E6 := Lib.hid hL
      have E7 : Hid (less X Y = L) := by rw [← hL]; exact HF.out.2.1
      have E8 : Hid (less X zs = xs) := HF.out.2.2
      clear hp1 hL
      obtain ⟨AX, cx, hv, hcx, hRX⟩ := HX'.out.shape
      subst hv
      obtain ⟨AY, cy, hv, hcy, hRY⟩ := HY'.out.shape
      subst hv
      have KX := Lib.hid hRX
      have KY := Lib.hid hRY
      clear hRX hRY hcx hcy
      have k_wr : Below wr.heap.size wr wr := Below.refl _ _
      go_wp2_with fail
      refine (Far_b AX AY cx cy X Y _ (KX.out.below k_wr) (KY.out.below k_wr) RX.out RY.out).mono ?_
      rintro e w2 ⟨he, hbn⟩
      rw [E4.out] at he
      subst he
      have k_w_w2 : Below w.heap.size w w2 := kw.trans (hbn.mono kw.size)
      have k_wr_w2 : Below wr.heap.size wr w2 := k_wr.trans (hbn.mono k_wr.size)
      clear kw
      clear k_wr
      clear hbn
      go_wp2_with fail
      refine (Far_b A B c d xs ys _ (KA.out.below k_w_w2) (KB.out.below k_w_w2) rA.out rB.out).mono ?_
      rintro e w3 ⟨he, hbn⟩
      rw [E5.out] at he
      subst he
      have k_w_w3 : Below w.heap.size w w3 := k_w_w2.trans (hbn.mono k_w_w2.size)
      have k_wr_w3 : Below wr.heap.size wr w3 := k_wr_w2.trans (hbn.mono k_wr_w2.size)
      clear k_w_w2
      clear k_wr_w2
      clear hbn
      go_wp2_with fail
      refine (Less_calls AX AY cx cy X Y _ (KX.out.below k_wr_w3) (KY.out.below k_wr_w3) hl1).mono ?_
      rintro e w4 ⟨v4, he, ho, hbn, hblk⟩
      subst he
      rw [E7.out] at ho
      obtain ⟨Am, cm, hv, hcv, hRV⟩ := ho.shape
      subst hv
      have Km := Lib.hid hRV
      clear ho hblk hRV hcv
      have k_w_w4 : Below w.heap.size w w4 := k_w_w3.trans (hbn.mono k_w_w3.size)
      have k_wr_w4 : Below wr.heap.size wr w4 := k_wr_w3.trans (hbn.mono k_wr_w3.size)
      clear k_w_w3
      clear k_wr_w3
      clear hbn
      have k_w4 : Below w4.heap.size w4 w4 := Below.refl _ _
      go_wp2_with fail
      refine (Less_calls A B c d xs ys _ (KA.out.below k_w_w4) (KB.out.below k_w_w4) hl2).mono ?_
      rintro e w5 ⟨v4, he, ho, hbn, hblk⟩
      subst he
      rw [E6.out] at ho
      obtain ⟨An, cn, hv, hcv, hRV⟩ := ho.shape
      subst hv
      have Kn := Lib.hid hRV
      clear ho hblk hRV hcv
      have k_w_w5 : Below w.heap.size w w5 := k_w_w4.trans (hbn.mono k_w_w4.size)
      have k_wr_w5 : Below wr.heap.size wr w5 := k_wr_w4.trans (hbn.mono k_wr_w4.size)
      have k_w4_w5 : Below w4.heap.size w4 w5 := k_w4.trans (hbn.mono k_w4.size)
      clear k_w_w4
      clear k_wr_w4
      clear k_w4
      clear hbn
      have k_w5 : Below w5.heap.size w5 w5 := Below.refl _ _
      go_wp2_with fail
      refine (Same_b Am An cm cn L L _ (Km.out.below k_w4_w5) (Kn.out.below k_w5) ).mono ?_
      rintro e w6 ⟨he, hbn⟩
      subst he
      have k_w_w6 : Below w.heap.size w w6 := k_w_w5.trans (hbn.mono k_w_w5.size)
      have k_wr_w6 : Below wr.heap.size wr w6 := k_wr_w5.trans (hbn.mono k_wr_w5.size)
      have k_w4_w6 : Below w4.heap.size w4 w6 := k_w4_w5.trans (hbn.mono k_w4_w5.size)
      have k_w5_w6 : Below w5.heap.size w5 w6 := k_w5.trans (hbn.mono k_w5.size)
      clear k_w_w5
      clear k_wr_w5
      clear k_w4_w5
      clear k_w5
      clear hbn
      rw [decide_eq_true (rfl : L = L)]
      go_wp2_with fail
      refine (Less_calls AX C cx f X zs _ (KX.out.below k_wr_w6) (KC.out.below k_w_w6) hl1).mono ?_
      rintro e w7 ⟨v4, he, ho, hbn, hblk⟩
      subst he
      rw [E8.out] at ho
      obtain ⟨Ao, co, hv, hcv, hRV⟩ := ho.shape
      subst hv
      have Ko := Lib.hid hRV
      clear ho hblk hRV hcv
      have k_w_w7 : Below w.heap.size w w7 := k_w_w6.trans (hbn.mono k_w_w6.size)
      have k_wr_w7 : Below wr.heap.size wr w7 := k_wr_w6.trans (hbn.mono k_wr_w6.size)
      have k_w4_w7 : Below w4.heap.size w4 w7 := k_w4_w6.trans (hbn.mono k_w4_w6.size)
      have k_w5_w7 : Below w5.heap.size w5 w7 := k_w5_w6.trans (hbn.mono k_w5_w6.size)
      clear k_w_w6
      clear k_wr_w6
      clear k_w4_w6
      clear k_w5_w6
      clear hbn
      have k_w7 : Below w7.heap.size w7 w7 := Below.refl _ _
      go_wp2_with fail
      refine (Same_b Ao A co c xs xs _ (Ko.out.below k_w7) (KA.out.below k_w_w7) ).mono ?_
      rintro e w8 ⟨he, hbn⟩
      subst he
      have k_w_w8 : Below w.heap.size w w8 := k_w_w7.trans (hbn.mono k_w_w7.size)
      have k_wr_w8 : Below wr.heap.size wr w8 := k_wr_w7.trans (hbn.mono k_wr_w7.size)
      have k_w4_w8 : Below w4.heap.size w4 w8 := k_w4_w7.trans (hbn.mono k_w4_w7.size)
      have k_w5_w8 : Below w5.heap.size w5 w8 := k_w5_w7.trans (hbn.mono k_w5_w7.size)
      have k_w7_w8 : Below w7.heap.size w7 w8 := k_w7.trans (hbn.mono k_w7.size)
      clear k_w_w7
      clear k_wr_w7
      clear k_w4_w7
      clear k_w5_w7
      clear k_w7
      clear hbn
      rw [decide_eq_true (rfl : xs = xs)]
      go_wp2_with fail
      go_ret
      exact ⟨rfl, k_w_w8⟩
    | succ k1 =>
      obtain ⟨i, hi⟩ : ∃ i, xs.length - (k1 + 1) = i := ⟨_, rfl⟩
      have hi2 : xs.length - k1 = i + 1 := by omega
      have HI := Lib.hid hi2
      have hlt : i < xs.length := by omega
      have hlt2 : i < ys.length := by have := H.out.2.2.1; omega
      have hlt3 : i < zs.length := by have := H.out.2.2.2.1; omega
      rw [hi] at HX' HY' ⊢
      obtain ⟨ad, rfl, hca⟩ := ((KA.out.below k_w_w1)).2 i hlt
      obtain ⟨bd, rfl, hcb⟩ := ((KB.out.below k_w_w1)).2 i hlt2
      obtain ⟨cd, rfl, hcc⟩ := ((KC.out.below k_w_w1)).2 i hlt3
      have ha0 := World.block_lt_of_cell? w1 _ hca
      have hb0 := World.block_lt_of_cell? w1 _ hcb
      have hc0 := World.block_lt_of_cell? w1 _ hcc
      have hca' : wr.cell? (ad.add i) = _ := cell_below HBH.out hca ha0
      have hcb' : wr.cell? (bd.add i) = _ := cell_below HBH.out hcb hb0
      have hcc' : wr.cell? (cd.add i) = _ := cell_below HBH.out hcc hc0
      have HS1 := Lib.hid (shiftN_succ xs zs i)
      have HS2 := Lib.hid (shiftN_succ ys zs i)
      have HL1 := Lib.hid (shiftN_length xs zs i)
      have HL2 := Lib.hid (shiftN_length ys zs i)
      have hbx := H.out.2.2.2.2.1.at i
      have hby := H.out.2.2.2.2.2.1.at i
      have hbz := H.out.2.2.2.2.2.2.at i
      clear hi hi2
      generalize xs.getD i 0 = x at *
      generalize ys.getD i 0 = y at *
      generalize zs.getD i 0 = z at *
      have hwx := i32_w (x + z)
      have hwy := i32_w (y + z)
      rw [wrap32_id _ (by omega)] at hwx hwy
      go_wp2_with fail
      go_region_held3 (fun w' => w'.cell? (ad.add i) = some (.int .i32 x) ∧ w'.cell? (bd.add i) = some (.int .i32 y) ∧ w'.cell? (cd.add i) = some (.int .i32 z))
        (first
          | go_keep
          | (exact ⟨cell_below hbel2 hca ha0, cell_below hbel2 hcb hb0, cell_below hbel2 hcc hc0⟩)
          | (exact ⟨cell_below hbel1 hca ha0, cell_below hbel1 hcb hb0, cell_below hbel1 hcc hc0⟩))
        (first
          | (refine step_app _ (by rfl) (.tmp 36) (.tmp 46) 22 21 (by rfl) (.int .i32 0) 1 4 Try.underlying22 info_i32 rfl (by omega) (by omega) w1.heap.size u8 i (nums .i32 (shiftN xs zs i)) (by rfl) _ 1 1 (by rfl) (by repeat (first | exact HX'.out.row HL1.out | apply own_drew1 | apply own_alloc1)) w1 (by repeat (first | exact HBH.out | apply below_drew1 | apply below_alloc1)) (by simp; omega) [.int .i32 (x + z)] (by rfl) (by repeat (first | exact RdC.one' _ _ _ _ (by simp) | apply RdC.drew1 | apply RdC.alloc1)) (by simp [Value.oneCell']) (by omega) ?_; intro v1 w2 hown1 hgrow1 hbel1 hat1 hnil1)
          | (refine step_app _ (by rfl) (.tmp 48) (.tmp 58) 22 21 (by rfl) (.int .i32 0) 1 4 Try.underlying22 info_i32 rfl (by omega) (by omega) w1.heap.size u9 i (nums .i32 (shiftN ys zs i)) (by rfl) _ 1 1 (by rfl) (by repeat (first | exact row_only (by repeat (first | exact HY'.out.row HL2.out | apply own_drew1 | apply own_alloc1)) hgrow1 (fun b h1 h2 => HA'.out b h2 h1) | apply own_drew1 | apply own_alloc1)) w1 (by repeat (first | exact hbel1 | apply below_drew1 | apply below_alloc1)) (by have := hbel1.size; first | omega | (simp; omega)) [.int .i32 (y + z)] (by rfl) (by repeat (first | exact RdC.one' _ _ _ _ (by simp) | exact RdC.only (by repeat (first | exact RdC.one' _ _ _ _ (by simp) | apply RdC.drew1 | apply RdC.alloc1)) hgrow1 (fun h => by have := (HX'.out.lt _ h).2; omega) | apply RdC.drew1 | apply RdC.alloc1)) (by simp [Value.oneCell']) (by omega) ?_; intro v2 w3 hown2 hgrow2 hbel2 hat2 hnil2))
      all_goals
        have HO2 := Lib.hid (row_only (w1 := w3) (by repeat (first | exact hown1 | apply own_drew1 | apply own_alloc1)) hgrow2 (fun b h1 h2 => by
          have hs8 := HX'.out.lt
          have hs9 := HY'.out.lt
          rcases hat1 with hat | hat
          · rw [hat] at h1; exact HA'.out b h1 h2
          · rw [hat] at h1; injection h1 with h1; have := (hs9 b h2).2; simp at h1; omega))
        have HAP := Lib.hid (Apart.step HA'.out (fun b hb => (HX'.out.lt b hb).2) (fun b hb => (HY'.out.lt b hb).2) hat1 (by simp; try omega) hat2 (by have := hgrow1.size; simp at this ⊢; omega) (fun b hb => by have := row_lt hown1 b hb; first | exact this | (simp; omega)))
        have HO3 := Lib.hid hown2
        clear hown1 hown2 hat1 hat2 hnil1 hnil2 hgrow1 hgrow2
        go_wp2
        go_roundg k1
        case measure => omega
        case rel =>
          rw [HI.out, HS1.out, HS2.out, wrap32_id (x + z) (by omega), wrap32_id (y + z) (by omega)]
          exact ⟨by omega, rfl, Own.of_row HO2.out HL1.out, Own.of_row HO3.out HL2.out, hbel2, HAP.out⟩
end Go.Proofs.Ytgjcajffkhjlbaa
