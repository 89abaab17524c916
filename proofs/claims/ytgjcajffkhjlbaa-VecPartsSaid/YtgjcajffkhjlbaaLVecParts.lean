/-
  The statement VecParts as a walk: it answers true and leaves all memory that was there as it was. Condition: the four arguments read as lists of int32 within the form's reach.
-/
import Derived.Test.YtgjcajffkhjlbaaLaw03
import Derived.Test.YtgjcajffkhjlbaaOpen
namespace Go.Proofs.Ytgjcajffkhjlbaa
open Go.RowKit
set_option linter.unusedVariables false
set_option linter.unusedSimpArgs false

theorem getD_left (xs zs : List Int) (i : Nat) (h : i < xs.length) : (xs ++ zs).getD i 0 = xs.getD i 0 := by simp [List.getD, List.getElem?_append, h]
theorem getD_right (xs zs : List Int) (i : Nat) : (xs ++ zs).getD (xs.length + i) 0 = zs.getD i 0 := by simp [List.getD, List.getElem?_append_right]
theorem dot_append (xs ys zs ws : List Int) (h : xs.length = ys.length) : dot (xs ++ zs) (ys ++ ws) = dot xs ys + dot zs ws := by
  unfold dot dotN
  have e : min (xs ++ zs).length (ys ++ ws).length = min xs.length ys.length + min zs.length ws.length := by simp; omega
  rw [e, sumTo_split]
  congr 1
  · exact sumTo_congr _ fun i hi => by rw [getD_left _ _ _ (by omega), getD_left _ _ _ (by omega)]
  · exact sumTo_congr _ fun i hi => by
      have e1 : min xs.length ys.length = xs.length := by omega
      have e2 : min xs.length ys.length = ys.length := by omega
      conv => lhs; rw [show (xs ++ zs).getD (min xs.length ys.length + i) 0 = zs.getD i 0 by rw [e1]; exact getD_right _ _ _, show (ys ++ ws).getD (min xs.length ys.length + i) 0 = ws.getD i 0 by rw [e2]; exact getD_right _ _ _]
theorem far_append (xs ys zs ws : List Int) (h : xs.length = ys.length) : far (xs ++ zs) (ys ++ ws) = far xs ys + far zs ws := by
  unfold far farN
  have e : min (xs ++ zs).length (ys ++ ws).length = min xs.length ys.length + min zs.length ws.length := by simp; omega
  rw [e, sumTo_split]
  congr 1
  · exact sumTo_congr _ fun i hi => by rw [getD_left _ _ _ (by omega), getD_left _ _ _ (by omega)]
  · exact sumTo_congr _ fun i hi => by
      have e1 : min xs.length ys.length = xs.length := by omega
      have e2 : min xs.length ys.length = ys.length := by omega
      conv => lhs; rw [show (xs ++ zs).getD (min xs.length ys.length + i) 0 = zs.getD i 0 by rw [e1]; exact getD_right _ _ _, show (ys ++ ws).getD (min xs.length ys.length + i) 0 = ws.getD i 0 by rw [e2]; exact getD_right _ _ _]
theorem same_append (xs ys zs ws : List Int) (h : xs.length = ys.length) : decide (xs ++ zs = ys ++ ws) = (decide (xs = ys) && decide (zs = ws)) := by
  by_cases h1 : xs = ys <;> by_cases h2 : zs = ws
  · subst h1 h2; simp
  · subst h1; simp [h2]
  · rw [decide_eq_false (fun e => h1 (List.append_inj e h).1)]; simp [h1]
  · rw [decide_eq_false (fun e => h1 (List.append_inj e h).1)]; simp [h1]
theorem R32.append {xs ys : List Int} (h : R32 xs) (k : R32 ys) : R32 (xs ++ ys) := fun x hx => by
  rcases List.mem_append.1 hx with hx | hx
  · exact h x hx
  · exact k x hx

set_option maxHeartbeats 1600000 in
set_option maxRecDepth 100000 in
theorem VecParts_law (A : Option Addr) (c : Nat) (xs : List Int) (B : Option Addr) (d : Nat) (ys : List Int) (C : Option Addr) (e' : Nat) (zs : List Int) (D : Option Addr) (f' : Nat) (ws : List Int) (w : World)
    (ha : Rd w .i32 A xs) (ra : ∀ n ∈ xs, (Lit.int .i32 n).wf = true) (na : A = none → xs = [] ∧ c = 0) (la : xs.length * 4 ≤ 140737488351232)
    (hb : Rd w .i32 B ys) (rb : ∀ n ∈ ys, (Lit.int .i32 n).wf = true) (nb : B = none → ys = [] ∧ d = 0) (lb : ys.length * 4 ≤ 140737488351232)
    (hc : Rd w .i32 C zs) (rc : ∀ n ∈ zs, (Lit.int .i32 n).wf = true) (nc : C = none → zs = [] ∧ e' = 0) (lc : zs.length * 4 ≤ 140737488351232)
    (hd : Rd w .i32 D ws) (rd : ∀ n ∈ ws, (Lit.int .i32 n).wf = true) (nd : D = none → ws = [] ∧ f' = 0) (ld : ws.length * 4 ≤ 140737488351232) :
    Calls Try.prog 4 #[.slice A xs.length c, .slice B ys.length d, .slice C zs.length e', .slice D ws.length f'] w fun e w' => e = .returned (.bool true) ∧ Below w.heap.size w w' := by
  clear na nb nc nd
  replace ra := Lib.hid (r32_of_wf ra)
  replace rb := Lib.hid (r32_of_wf rb)
  replace rc := Lib.hid (r32_of_wf rc)
  replace rd := Lib.hid (r32_of_wf rd)
  by_cases h1 : xs.length = ys.length
  · by_cases h2 : zs.length = ws.length
    · have t1 : ((xs.length : Int) != (ys.length : Int)) = false := by simp; omega
      have t2 : ((zs.length : Int) != (ws.length : Int)) = false := by simp; omega
      by_cases hf : xs.length ≤ 1100 ∧ zs.length ≤ 1100
      · have hfew := Lib.hid (few_calls A C xs.length zs.length c e')
        rw [decide_eq_true hf] at hfew
        obtain ⟨hf1, hf2⟩ := hf
        have HL1 := Lib.hid h1
        have HL2 := Lib.hid h2
        have hf3 : ys.length ≤ 1100 := by omega
        have hf4 : ws.length ≤ 1100 := by omega
        clear h1 h2
        go_enter Try.func4, Try.ntmps4
        go_wp2_with fail
        refine (awake_calls _).mono ?_
        rintro e w1 ⟨rfl, hb1⟩
        go_wp2_with fail
        refine (hfew.out _).mono ?_
        rintro e _ ⟨rfl, rfl⟩
        go_wp2_with (first
          | (at_builtin; refine wpList_appI _ rfl (.tmp 31) (.tmp 32) 22 21 rfl .i32 4 Try.underlying22 info_i32 (by omega) w1.heap.size _ [] rfl A c xs rfl (Own.empty w1 _ _) w1 ((Below.refl _ _).alloc (Nat.le_refl _) _) (by simp) ((ha.below hb1).alloc _) (by simp; omega) ?_; intro v1 w2 ho1 hgrow1 hbel1 hat1 hnil1; clear hat1 hnil1 hgrow1; rw [List.nil_append] at ho1; have HO1 := Lib.hid ho1; clear ho1; have hb2 : Below w.heap.size w w2 := hb1.trans (hbel1.mono hb1.size))
          | (at_builtin; refine wpList_appI _ rfl (.tmp 33) (.tmp 34) 22 21 rfl .i32 4 Try.underlying22 info_i32 (by omega) w1.heap.size _ xs rfl C e' zs rfl HO1.out w1 hbel1 hbel1.size (hc.below hb2) (by omega) ?_; intro v2 w3 ho2 hgrow2 hbel2 hat2 hnil2; clear hat2 hnil2 hgrow2; have HO2 := Lib.hid ho2; clear ho2; have hb3 : Below w.heap.size w w3 := hb1.trans (hbel2.mono hb1.size))
          | (at_builtin; refine wpList_appI _ rfl (.tmp 36) (.tmp 37) 22 21 rfl .i32 4 Try.underlying22 info_i32 (by omega) w3.heap.size _ [] rfl B d ys rfl (Own.empty w3 _ _) w3 ((Below.refl _ _).alloc (Nat.le_refl _) _) (by simp) ((hb.below hb3).alloc _) (by simp; omega) ?_; intro v3 w4 ho3 hgrow3 hbel3 hat3 hnil3; clear hat3 hnil3 hgrow3; rw [List.nil_append] at ho3; have HO3 := Lib.hid ho3; clear ho3; have hb4 : Below w.heap.size w w4 := hb3.trans (hbel3.mono hb3.size))
          | (at_builtin; refine wpList_appI _ rfl (.tmp 38) (.tmp 39) 22 21 rfl .i32 4 Try.underlying22 info_i32 (by omega) w3.heap.size _ ys rfl D f' ws rfl HO3.out w3 hbel3 hbel3.size (hd.below hb4) (by omega) ?_; intro v4 w5 ho4 hgrow4 hbel4 hat4 hnil4; clear hat4 hnil4 hgrow4; have HO4 := Lib.hid ho4; clear ho4; have hb5 : Below w.heap.size w w5 := hb3.trans (hbel4.mono hb3.size))
          | fail)
        have l1 := HL1.out
        have l2 := HL2.out
        obtain ⟨X, hX⟩ : ∃ X, xs ++ zs = X := ⟨_, rfl⟩
        obtain ⟨Y, hY⟩ : ∃ Y, ys ++ ws = Y := ⟨_, rfl⟩
        have RX : Hid (R32 X) := by rw [← hX]; exact R32.append ra.out rc.out
        have RY : Hid (R32 Y) := by rw [← hY]; exact R32.append rb.out rd.out
        have e1 : dot X Y = dot xs ys + dot zs ws := by rw [← hX, ← hY]; exact dot_append _ _ _ _ l1
        have e2 : far X Y = far xs ys + far zs ws := by rw [← hX, ← hY]; exact far_append _ _ _ _ l1
        have e3 : decide (X = Y) = (decide (xs = ys) && decide (zs = ws)) := by rw [← hX, ← hY]; exact same_append _ _ _ _ l1
        rw [hX] at HO2
        rw [hY] at HO4
        obtain ⟨p1, hp1⟩ : ∃ p, wrap64 (dot X Y) = p := ⟨_, rfl⟩
        obtain ⟨p2, hp2⟩ : ∃ p, wrap64 (dot xs ys) = p := ⟨_, rfl⟩
        obtain ⟨p3, hp3⟩ : ∃ p, wrap64 (dot zs ws) = p := ⟨_, rfl⟩
        obtain ⟨q1, hq1⟩ : ∃ p, wrap64 (far X Y) = p := ⟨_, rfl⟩
        obtain ⟨q2, hq2⟩ : ∃ p, wrap64 (far xs ys) = p := ⟨_, rfl⟩
        obtain ⟨q3, hq3⟩ : ∃ p, wrap64 (far zs ws) = p := ⟨_, rfl⟩
        obtain ⟨b1, hb1'⟩ : ∃ p, decide (X = Y) = p := ⟨_, rfl⟩
        obtain ⟨b2, hb2'⟩ : ∃ p, decide (xs = ys) = p := ⟨_, rfl⟩
        obtain ⟨b3, hb3'⟩ : ∃ p, decide (zs = ws) = p := ⟨_, rfl⟩
        have t3 : (p1 == wrap64 (p2 + p3)) = true := by rw [beq_iff_eq, ← hp1, ← hp2, ← hp3, e1, wrap64_add, wrap64_add']
        have t4 : (q1 == wrap64 (q2 + q3)) = true := by rw [beq_iff_eq, ← hq1, ← hq2, ← hq3, e2, wrap64_add, wrap64_add']
        have t5 : b1 = (b2 && b3) := by rw [← hb1', ← hb2', ← hb3', e3]
        have C1 := Lib.hid hp1
        have C2 := Lib.hid hp2
        have C3 := Lib.hid hp3
        have C4 := Lib.hid hq1
        have C5 := Lib.hid hq2
        have C6 := Lib.hid hq3
        have C7 := Lib.hid hb1'
        have C8 := Lib.hid hb2'
        have C9 := Lib.hid hb3'
        have T5 := Lib.hid t5
        clear hX hY hp1 hp2 hp3 hq1 hq2 hq3 hb1' hb2' hb3' l1 l2 e1 e2 e3 t5
        obtain ⟨A2, c2, rfl, hc2, hR2⟩ := (HO2.out.keep hbel3).shape
        obtain ⟨A4, c4, rfl, hc4, hR4⟩ := HO4.out.shape
        have hR2' := Lib.hid (HO2.out.belowB (B := w3.heap.size) hbel4 (fun b hb => (HO2.out.lt b hb).2)).shape
        clear hR2
        obtain ⟨_, _, hsh, _, hRX⟩ := hR2'.out
        injection hsh with hsh1 hsh2 hsh3
        subst hsh1 hsh3
        have KX := Lib.hid hRX
        have KY := Lib.hid hR4
        have KA := Lib.hid (ha.below hb5)
        have KB := Lib.hid (hb.below hb5)
        have KC := Lib.hid (hc.below hb5)
        have KD := Lib.hid (hd.below hb5)
        clear hRX hR4 hR2' hsh2
        have k5 : Below w5.heap.size w5 w5 := Below.refl _ _
        go_wp2_with fail
        refine (Dot_b A2 A4 c2 c4 X Y _ (KX.out.below k5) (KY.out.below k5) RX.out RY.out).mono ?_
        rintro e w6 ⟨he, hbn⟩
        rw [C1.out] at he
        subst he
        have k6 : Below w5.heap.size w5 w6 := k5.trans (hbn.mono k5.size)
        clear hbn
        go_wp2_with fail
        refine (Dot_b A B c d xs ys _ (KA.out.below k6) (KB.out.below k6) ra.out rb.out).mono ?_
        rintro e w7 ⟨he, hbn⟩
        rw [C2.out] at he
        subst he
        have k7 : Below w5.heap.size w5 w7 := k6.trans (hbn.mono k6.size)
        clear hbn
        go_wp2_with fail
        refine (Dot_b C D e' f' zs ws _ (KC.out.below k7) (KD.out.below k7) rc.out rd.out).mono ?_
        rintro e w8 ⟨he, hbn⟩
        rw [C3.out] at he
        subst he
        have k8 : Below w5.heap.size w5 w8 := k7.trans (hbn.mono k7.size)
        clear hbn
        go_wp2_with fail
        refine (Far_b A2 A4 c2 c4 X Y _ (KX.out.below k8) (KY.out.below k8) RX.out RY.out).mono ?_
        rintro e w9 ⟨he, hbn⟩
        rw [C4.out] at he
        subst he
        have k9 : Below w5.heap.size w5 w9 := k8.trans (hbn.mono k8.size)
        clear hbn
        go_wp2_with fail
        refine (Far_b A B c d xs ys _ (KA.out.below k9) (KB.out.below k9) ra.out rb.out).mono ?_
        rintro e w10 ⟨he, hbn⟩
        rw [C5.out] at he
        subst he
        have k10 : Below w5.heap.size w5 w10 := k9.trans (hbn.mono k9.size)
        clear hbn
        go_wp2_with fail
        refine (Far_b C D e' f' zs ws _ (KC.out.below k10) (KD.out.below k10) rc.out rd.out).mono ?_
        rintro e w11 ⟨he, hbn⟩
        rw [C6.out] at he
        subst he
        have k11 : Below w5.heap.size w5 w11 := k10.trans (hbn.mono k10.size)
        clear hbn
        go_wp2_with fail
        refine (Same_b A2 A4 c2 c4 X Y _ (KX.out.below k11) (KY.out.below k11) ).mono ?_
        rintro e w12 ⟨he, hbn⟩
        rw [C7.out] at he
        subst he
        have k12 : Below w5.heap.size w5 w12 := k11.trans (hbn.mono k11.size)
        clear hbn
        go_wp2_with fail
        refine (Same_b A B c d xs ys _ (KA.out.below k12) (KB.out.below k12) ).mono ?_
        rintro e w13 ⟨he, hbn⟩
        rw [C8.out] at he
        subst he
        have k13 : Below w5.heap.size w5 w13 := k12.trans (hbn.mono k12.size)
        clear hbn
        cases b2 with
        | false =>
          have hb1f : b1 = false := by rw [T5.out]; rfl
          subst hb1f
          go_wp2_with fail
          go_ret
          exact ⟨rfl, hb5.trans (k13.mono hb5.size)⟩
        | true =>
          have hb1f : b1 = b3 := by rw [T5.out]; rfl
          subst hb1f
          go_wp2_with fail
          refine (Same_b C D e' f' zs ws _ (KC.out.below k13) (KD.out.below k13) ).mono ?_
          rintro e w14 ⟨he, hbn⟩
          rw [C9.out] at he
          subst he
          have k14 : Below w5.heap.size w5 w14 := k13.trans (hbn.mono k13.size)
          clear hbn
          have t6 : (b1 == b1) = true := by simp
          go_wp2_with fail
          go_ret
          exact ⟨rfl, hb5.trans (k14.mono hb5.size)⟩
      · have hfew := Lib.hid (few_calls A C xs.length zs.length c e')
        rw [decide_eq_false hf] at hfew
        clear h1 h2
        go_enter Try.func4, Try.ntmps4
        go_wp2_with fail
        refine (awake_calls _).mono ?_
        rintro e w1 ⟨rfl, hb1⟩
        go_wp2_with fail
        refine (hfew.out _).mono ?_
        rintro e _ ⟨rfl, rfl⟩
        go_wp2_with fail
        go_ret
        exact ⟨rfl, hb1⟩
    · have t1 : ((xs.length : Int) != (ys.length : Int)) = false := by simp; omega
      have t2 : ((zs.length : Int) != (ws.length : Int)) = true := by simp; omega
      clear h1 h2
      go_enter Try.func4, Try.ntmps4
      go_wp2_with fail
      refine (awake_calls _).mono ?_
      rintro e w1 ⟨rfl, hb1⟩
      go_wp2_with fail
      go_ret
      exact ⟨rfl, hb1⟩
  · have t1 : ((xs.length : Int) != (ys.length : Int)) = true := by simp; omega
    clear h1
    go_enter Try.func4, Try.ntmps4
    go_wp2_with fail
    refine (awake_calls _).mono ?_
    rintro e w1 ⟨rfl, hb1⟩
    go_wp2_with fail
    go_ret
    exact ⟨rfl, hb1⟩
end Go.Proofs.Ytgjcajffkhjlbaa
