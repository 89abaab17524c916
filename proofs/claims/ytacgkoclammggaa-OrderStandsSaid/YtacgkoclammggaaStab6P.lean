
/-
  The library's symMerge over shelterbelt/shelterbeltref04.Pair. Conditions: the row is the call's own; both sides are in order; what stands ahead may stand ahead.
-/
import Derived.Test.YtacgkoclammggaaStab5P
namespace Go.Proofs.Ytacgkoclammggaa
open Go.RowKit
set_option linter.unusedVariables false
set_option maxRecDepth 100000
set_option linter.unusedSimpArgs false
attribute [local go_sem] Oper.semAt_some

/-- What symMerge makes of two sides that hold no more than N. -/
def SymOkP (bf N : Nat) : Prop := ∀ (lo : Nat) (A : Option Addr) (n c a m b : Nat) (P L R S : List (Int × Int)) (w : World), L.length + R.length ≤ N → OwnF w lo 80 2 twoP (.slice A n c) (P ++ (L ++ (R ++ S))) → P.length = a → a + L.length = m → m + R.length = b → 0 < L.length → 0 < R.length → CmP w bf → ¬ OwnB (.slice A n c) bf → Srt lexP L → Srt lexP R → Ahd BeP L R → n ≤ 1000000 →
    Calls Try.prog 123 #[.slice A n c, .int .i64 (a : Int), .int .i64 (m : Int), .int .i64 (b : Int), cmpP bf] w fun e w' => e = .returned (.tuple #[]) ∧ (∃ Z, Z.Perm (L ++ R) ∧ Srt lexP Z ∧ OwnF w' lo 80 2 twoP (.slice A n c) (P ++ (Z ++ S))) ∧ Only (OwnB (.slice A n c)) w w'
/-- The search's ends: s0 <= s; below s no one on the right comes ahead of its mate on the left; from t on each does. -/
def LoCP (L R : List (Int × Int)) (a m nn s0 s : Nat) : Prop := s = s0 ∨ (s0 < s ∧ ∃ u v, R[nn - s - m]? = some u ∧ L[s - 1 - a]? = some v ∧ lexP u v = false)
def HiCP (L R : List (Int × Int)) (a m nn r0 t : Nat) : Prop := t = r0 ∨ (t < r0 ∧ ∃ u v, R[nn - 1 - t - m]? = some u ∧ L[t - a]? = some v ∧ lexP u v = true)
set_option maxHeartbeats 12800000 in
set_option maxRecDepth 1000000 in
theorem SymCP_calls (bf N : Nat) (ih : SymOkP bf N) (lo : Nat) (A : Option Addr) (n c a m b : Nat) (P L R S : List (Int × Int)) (w : World) (hN : L.length + R.length ≤ N + 1) (h : OwnF w lo 80 2 twoP (.slice A n c) (P ++ (L ++ (R ++ S)))) (ha : P.length = a) (hm : a + L.length = m) (hb : m + R.length = b) (hL : 1 < L.length) (hR : 1 < R.length) (hc : CmP w bf) (hf : ¬ OwnB (.slice A n c) bf) (hsl : Srt lexP L) (hsr : Srt lexP R) (hB : Ahd BeP L R) (hn : n ≤ 1000000) :
    Calls Try.prog 123 #[.slice A n c, .int .i64 (a : Int), .int .i64 (m : Int), .int .i64 (b : Int), cmpP bf] w fun e w' => e = .returned (.tuple #[]) ∧ (∃ Z, Z.Perm (L ++ R) ∧ Srt lexP Z ∧ OwnF w' lo 80 2 twoP (.slice A n c) (P ++ (Z ++ S))) ∧ Only (OwnB (.slice A n c)) w w' := by
  have hlen : b ≤ n := by have := h.len; simp at this; omega
  have HF := Lib.hid hf
  have HC := Lib.hid hc
  have HH := Lib.hid h
  have HSL := Lib.hid hsl
  have HSR := Lib.hid hsr
  have HBE := Lib.hid hB
  have HA := Lib.hid ha
  have IH := Lib.hid ih
  obtain ⟨l, hl⟩ : ∃ l, L.length = l := ⟨_, rfl⟩
  obtain ⟨r, hr⟩ : ∃ r, R.length = r := ⟨_, rfl⟩
  have HLL := Lib.hid hl
  have HRR := Lib.hid hr
  rw [hl] at hm hL hN
  rw [hr] at hb hR hN
  have hwm : IntKind.i64.wrap ((m : Int) - (a : Int)) = (l : Int) := by rw [i64_w, show (m : Int) - (a : Int) = (l : Int) by omega]; exact wrap64_id _ (by omega)
  have hwn : ((l : Int) == 1) = false := by rw [beq_eq_false_iff_ne]; omega
  have hwb : IntKind.i64.wrap ((b : Int) - (m : Int)) = (r : Int) := by rw [i64_w, show (b : Int) - (m : Int) = (r : Int) by omega]; exact wrap64_id _ (by omega)
  have hwr : ((r : Int) == 1) = false := by rw [beq_eq_false_iff_ne]; omega
  obtain ⟨mid, hmid⟩ : ∃ x, (a + b) / 2 = x := ⟨_, rfl⟩
  have hd1 : 2 * mid ≤ a + b := by omega
  have hd2 : a + b ≤ 2 * mid + 1 := by omega
  have hw1 : IntKind.i64.wrap ((a : Int) + (b : Int)) = (a : Int) + (b : Int) := by rw [i64_w]; exact wrap64_id _ (by omega)
  have hw2 : IntKind.u64.wrap ((a : Int) + (b : Int)) = (a : Int) + (b : Int) := by rw [u64_w2P]; exact Int.emod_eq_of_lt (by omega) (by omega)
  have hw3 : ((a : Int) + (b : Int)) / 2 = (mid : Int) := by omega
  have hw4 : IntKind.i64.wrap (mid : Int) = (mid : Int) := by rw [i64_w]; exact wrap64_id _ (by omega)
  have hw6 : IntKind.u64.wrap (mid : Int) = (mid : Int) := by rw [u64_w2P]; exact Int.emod_eq_of_lt (by omega) (by omega)
  obtain ⟨nn, hnn⟩ : ∃ x, mid + m = x := ⟨_, rfl⟩
  have hw7 : IntKind.i64.wrap ((mid : Int) + (m : Int)) = (nn : Int) := by rw [i64_w, show (mid : Int) + (m : Int) = (nn : Int) by omega]; exact wrap64_id _ (by omega)
  obtain ⟨pp, hpp⟩ : ∃ x, nn - 1 = x := ⟨_, rfl⟩
  have hw8 : IntKind.i64.wrap ((nn : Int) - 1) = (pp : Int) := by rw [i64_w, show (nn : Int) - 1 = (pp : Int) by omega]; exact wrap64_id _ (by omega)
  obtain ⟨s0, r0, hsr0, hs0a, hr0m, hs0r0, hrm, hsb⟩ : ∃ s0 r0, ((mid < m ∧ s0 = nn - b ∧ r0 = mid) ∨ (¬ mid < m ∧ s0 = a ∧ r0 = m)) ∧ a ≤ s0 ∧ r0 ≤ m ∧ s0 ≤ r0 ∧ m + r0 ≤ nn ∧ nn ≤ b + s0 := by
    by_cases h : mid < m
    · exact ⟨nn - b, mid, .inl ⟨h, rfl, rfl⟩, by omega, by omega, by omega, by omega, by omega⟩
    · exact ⟨a, m, .inr ⟨h, rfl, rfl⟩, by omega, by omega, by omega, by omega, by omega⟩
  have HSR0 := Lib.hid hsr0
  clear h hc hf hsl hsr hB ha hl hr ih hsr0 hmid
  go_enter Try.func123, Try.ntmps123
  go_upto_if 140 with (fail)
  go_cut [20, 21] (fun s20 s21 wx => s20 = .int .i64 (s0 : Int) ∧ s21 = .int .i64 (r0 : Int) ∧ wx = w)
  case first =>
    as_aux_lemma =>
      rcases HSR0.out with ⟨h1, h2, h3⟩ | ⟨h1, h2, h3⟩
      · have h1z : (mid : Int) < (m : Int) := by omega
        have hws : IntKind.i64.wrap ((nn : Int) - (b : Int)) = (s0 : Int) := by rw [i64_w, show (nn : Int) - (b : Int) = (s0 : Int) by omega]; exact wrap64_id _ (by omega)
        subst h3
        clear h2
        go_wp2_with fail
        go_meet
        exact ⟨rfl, rfl, rfl⟩
      · have h1z : ¬ (mid : Int) < (m : Int) := by omega
        subst h2 h3
        go_wp2_with fail
        go_meet
        exact ⟨rfl, rfl, rfl⟩
  obtain ⟨rfl, rfl, hwc⟩ := hcut
  rw [hwc]
  clear hwc
  go_wp2_with fail
  go_loopg [20, 21] (r0 - s0) (fun kq v20 v21 w' => ∃ s t : Nat, s + kq = t ∧ s0 ≤ s ∧ t ≤ r0 ∧ v20 = .int .i64 (s : Int) ∧ v21 = .int .i64 (t : Int) ∧ LoCP L R a m nn s0 s ∧ HiCP L R a m nn r0 t ∧ Below w.heap.size w w')
  case atStart => exact ⟨s0, r0, by omega, Nat.le_refl _, Nat.le_refl _, rfl, rfl, .inl rfl, .inl rfl, Below.refl _ _⟩
  case round =>
    obtain ⟨s, t, hst, hs0s, htr, rfl, rfl, hlo, hhi, hbw⟩ := hrel
    have HLO := Lib.hid hlo
    have HHI := Lib.hid hhi
    have HBW := Lib.hid hbw
    clear hlo hhi hbw
    cases gk with
    | zero =>
      as_aux_lemma =>
        obtain rfl : s = t := by omega
        have hlt0 : ¬ ((s : Int) < (s : Int)) := by omega
        obtain ⟨e, hee⟩ : ∃ e, nn - s = e := ⟨_, rfl⟩
        have hwe : IntKind.i64.wrap ((nn : Int) - (s : Int)) = (e : Int) := by rw [i64_w, show (nn : Int) - (s : Int) = (e : Int) by omega]; exact wrap64_id _ (by omega)
        obtain ⟨hsm, hme, heb, hse, has, L1, L2, R1, R2, hLc, hRc, hl1, hl2, hr1, hr2, hd, hu⟩ := sym_split HLL.out HRR.out hm hb hnn hd2 hee HSR0.out hs0a hr0m hs0s htr hrm hsb HLO.out HHI.out
        have HD := Lib.hid hd
        have HU := Lib.hid hu
        clear hd hu
        have HO0 := Lib.hid (show OwnF wr lo 80 2 twoP (.slice A n c) (P ++ (L1 ++ (L2 ++ (R1 ++ (R2 ++ S))))) from by
          have h := HH.out.keep HBW.out
          rw [hLc, hRc, List.append_assoc, List.append_assoc] at h
          exact h)
        have HON := Lib.hid (Only.of_below (S := OwnB (.slice A n c)) HBW.out)
        have hN1 : mid ≤ a + N := by omega
        have hN2 : b ≤ mid + N := by omega
        have ham : a ≤ mid := by omega
        have hmb : mid ≤ b := by omega
        have HSLC := Lib.hid (show Srt lexP (L1 ++ L2) by rw [← hLc]; exact HSL.out)
        have HSRC := Lib.hid (show Srt lexP (R1 ++ R2) by rw [← hRc]; exact HSR.out)
        have HBC := Lib.hid (show Ahd BeP (L1 ++ L2) (R1 ++ R2) by rw [← hLc, ← hRc]; exact HBE.out)
        have HLC := Lib.hid hLc
        have HRC := Lib.hid hRc
        clear hLc hRc HLO HHI HBW HH HSL HSR HBE hst hs0s htr hs0a hr0m hs0r0 hrm hsb HSR0 hee hwm hwn hwb hwr hw1 hw2 hw3 hw4 hw6 hw7 hw8 hd1 hd2 hnn hpp hL hR
        obtain ⟨q39, hq39⟩ : ∃ q, decide (s < m ∧ m < e) = q := ⟨_, rfl⟩
        go_upto_region 39 with (fail)
        go_cut [185] (fun sx wx => sx = .bool q39 ∧ wx = wr)
        case first =>
          as_aux_lemma =>
            by_cases h1 : s < m
            · have z1 : (s : Int) < (m : Int) := Int.ofNat_lt.2 (by assumption)
              by_cases h2 : m < e
              · have z2 : (m : Int) < (e : Int) := Int.ofNat_lt.2 (by assumption)
                obtain rfl : q39 = true := by rw [← hq39]; exact decide_eq_true ⟨h1, h2⟩
                clear hq39
                go_wp2_with fail
                go_meet
                exact ⟨rfl, rfl⟩
              · have z2 : ¬ (m : Int) < (e : Int) := fun h => (by assumption : ¬ m < e) (Int.ofNat_lt.1 h)
                obtain rfl : q39 = false := by rw [← hq39]; exact decide_eq_false fun h => h2 h.2
                clear hq39
                go_wp2_with fail
                go_meet
                exact ⟨rfl, rfl⟩
            · have z1 : ¬ (s : Int) < (m : Int) := fun h => (by assumption : ¬ s < m) (Int.ofNat_lt.1 h)
              obtain rfl : q39 = false := by rw [← hq39]; exact decide_eq_false fun h => h1 h.1
              clear hq39
              go_wp2_with fail
              go_meet
              exact ⟨rfl, rfl⟩
        obtain ⟨rfl, hwc⟩ := hcut
        rw [hwc]
        clear hwc hwe hlt0
        go_upto_if 185 with (fail)
        go_cut [] (fun wx => OwnF wx lo 80 2 twoP (.slice A n c) (P ++ (L1 ++ (R1 ++ (L2 ++ (R2 ++ S))))) ∧ Only (OwnB (.slice A n c)) w wx)
        case first =>
          as_aux_lemma =>
            by_cases h1 : s < m
            · by_cases h2 : m < e
              · obtain rfl : q39 = true := by rw [← hq39]; exact decide_eq_true ⟨h1, h2⟩
                clear hq39
                have HRO := Lib.hid (RotateP_calls (cmpP bf) lo A n c s m e (P ++ L1) L2 R1 (R2 ++ S) wr (by have h := HO0.out; simpa using h) (by rw [List.length_append, HA.out]; omega) (by omega) (by omega) (by omega) (by omega) hn)
                go_wp2_with fail
                refine HRO.out.mono ?_
                rintro e' w2 ⟨he, hO2, hon2⟩
                subst he
                go_wp2_with fail
                go_meet
                exact ⟨by simpa using hO2, HON.out.trans hon2⟩
              · obtain rfl : q39 = false := by rw [← hq39]; exact decide_eq_false fun h => h2 h.2
                clear hq39
                have e1 : R1 = [] := List.length_eq_zero_iff.1 (by omega)
                have HR0 := Lib.hid e1
                clear e1
                go_wp2_with fail
                go_meet
                exact ⟨by have h := HO0.out; rw [HR0.out] at h ⊢; exact h, HON.out⟩
            · obtain rfl : q39 = false := by rw [← hq39]; exact decide_eq_false fun h => h1 h.1
              clear hq39
              have e1 : L2 = [] := List.length_eq_zero_iff.1 (by omega)
              have HL0 := Lib.hid e1
              clear e1
              go_wp2_with fail
              go_meet
              exact ⟨by have h := HO0.out; rw [HL0.out] at h ⊢; exact h, HON.out⟩
        clear hq39
        obtain ⟨hO1, hon1⟩ := hcut
        have HO1 := Lib.hid hO1
        have HON1 := Lib.hid hon1
        obtain ⟨w1, hw1'⟩ : ∃ W : World, wc = W := ⟨_, rfl⟩
        rw [hw1'] at HO1 HON1 ⊢
        clear hO1 hon1 hw1' HO0 HON
        obtain ⟨q41, hq41⟩ : ∃ q, decide (a < s ∧ s < mid) = q := ⟨_, rfl⟩
        go_upto_region 41 with (fail)
        go_cut [199] (fun sx wx => sx = .bool q41 ∧ wx = w1)
        case first =>
          as_aux_lemma =>
            by_cases h1 : a < s
            · have z1 : (a : Int) < (s : Int) := Int.ofNat_lt.2 (by assumption)
              by_cases h2 : s < mid
              · have z2 : (s : Int) < (mid : Int) := Int.ofNat_lt.2 (by assumption)
                obtain rfl : q41 = true := by rw [← hq41]; exact decide_eq_true ⟨h1, h2⟩
                clear hq41
                go_wp2_with fail
                go_meet
                exact ⟨rfl, rfl⟩
              · have z2 : ¬ (s : Int) < (mid : Int) := fun h => (by assumption : ¬ s < mid) (Int.ofNat_lt.1 h)
                obtain rfl : q41 = false := by rw [← hq41]; exact decide_eq_false fun h => h2 h.2
                clear hq41
                go_wp2_with fail
                go_meet
                exact ⟨rfl, rfl⟩
            · have z1 : ¬ (a : Int) < (s : Int) := fun h => (by assumption : ¬ a < s) (Int.ofNat_lt.1 h)
              obtain rfl : q41 = false := by rw [← hq41]; exact decide_eq_false fun h => h1 h.1
              clear hq41
              go_wp2_with fail
              go_meet
              exact ⟨rfl, rfl⟩
        obtain ⟨rfl, hwc⟩ := hcut
        rw [hwc]
        clear hwc
        go_upto_if 199 with (fail)
        go_cut [] (fun wx => (∃ Z1, Z1.Perm (L1 ++ R1) ∧ Srt lexP Z1 ∧ OwnF wx lo 80 2 twoP (.slice A n c) (P ++ (Z1 ++ (L2 ++ (R2 ++ S))))) ∧ Only (OwnB (.slice A n c)) w wx)
        case first =>
          as_aux_lemma =>
            have HS1 := Lib.hid (srt_app.1 HSLC.out).1
            have HS2 := Lib.hid (srt_app.1 HSRC.out).1
            by_cases h1 : a < s
            · by_cases h2 : s < mid
              · obtain rfl : q41 = true := by rw [← hq41]; exact decide_eq_true ⟨h1, h2⟩
                clear hq41
                have HRO := Lib.hid (IH.out lo A n c a s mid P L1 R1 (L2 ++ (R2 ++ S)) w1 (by omega) HO1.out HA.out (by omega) (by omega) (by omega) (by omega) (HC.out.only HON1.out HF.out) HF.out HS1.out HS2.out (fun x hx y hy => HBC.out x (by simp [hx]) y (by simp [hy])) hn)
                go_wp2_with fail
                refine HRO.out.mono ?_
                rintro e' w2 ⟨he, hZ, hon2⟩
                subst he
                go_wp2_with fail
                go_meet
                exact ⟨hZ, HON1.out.trans hon2⟩
              · obtain rfl : q41 = false := by rw [← hq41]; exact decide_eq_false fun h => h2 h.2
                clear hq41
                have e1 : R1 = [] := List.length_eq_zero_iff.1 (by omega)
                have HR0 := Lib.hid e1
                clear e1
                go_wp2_with fail
                go_meet
                exact ⟨⟨L1, by rw [HR0.out, List.append_nil], HS1.out, by have h := HO1.out; rw [HR0.out] at h; exact h⟩, HON1.out⟩
            · obtain rfl : q41 = false := by rw [← hq41]; exact decide_eq_false fun h => h1 h.1
              clear hq41
              have e1 : L1 = [] := List.length_eq_zero_iff.1 (by omega)
              have HL0 := Lib.hid e1
              clear e1
              go_wp2_with fail
              go_meet
              exact ⟨⟨R1, by rw [HL0.out, List.nil_append], HS2.out, by have h := HO1.out; rw [HL0.out] at h; exact h⟩, HON1.out⟩
        clear hq41
        obtain ⟨⟨Z1, hp1, hs1, hO2⟩, hon2⟩ := hcut
        have HO2 := Lib.hid hO2
        have HON2 := Lib.hid hon2
        have HP1 := Lib.hid hp1
        have HZ1 := Lib.hid hs1
        have hz1 : a + Z1.length = mid := by rw [hp1.length_eq, List.length_append]; omega
        obtain ⟨w2, hw2'⟩ : ∃ W : World, wc = W := ⟨_, rfl⟩
        rw [hw2'] at HO2 HON2 ⊢
        clear hO2 hon2 hp1 hs1 hw2' HO1 HON1
        have HS1 := Lib.hid (srt_app.1 HSLC.out).2.1
        have HS2 := Lib.hid (srt_app.1 HSRC.out).2.1
        have HEND := Lib.hid (show ∀ Z2, Z2.Perm (L2 ++ R2) → Srt lexP Z2 → (Z1 ++ Z2).Perm (L ++ R) ∧ Srt lexP (Z1 ++ Z2) from fun Z2 h1 h2 => by
          refine ⟨?_, srt_cross lexP_wo HSLC.out HSRC.out HP1.out h1 HZ1.out h2 HD.out HU.out⟩
          rw [HLC.out, HRC.out]
          refine (HP1.out.append h1).trans ?_
          have e1 : (L1 ++ R1) ++ (L2 ++ R2) = L1 ++ ((R1 ++ L2) ++ R2) := by simp
          have e2 : (L1 ++ L2) ++ (R1 ++ R2) = L1 ++ ((L2 ++ R1) ++ R2) := by simp
          rw [e1, e2]
          exact List.Perm.append_left _ (List.Perm.append_right _ List.perm_append_comm))
        obtain ⟨q43, hq43⟩ : ∃ q, decide (mid < e ∧ e < b) = q := ⟨_, rfl⟩
        go_upto_region 43 with (fail)
        go_cut [213] (fun sx wx => sx = .bool q43 ∧ wx = w2)
        case first =>
          as_aux_lemma =>
            by_cases h1 : mid < e
            · have z1 : (mid : Int) < (e : Int) := Int.ofNat_lt.2 (by assumption)
              by_cases h2 : e < b
              · have z2 : (e : Int) < (b : Int) := Int.ofNat_lt.2 (by assumption)
                obtain rfl : q43 = true := by rw [← hq43]; exact decide_eq_true ⟨h1, h2⟩
                clear hq43
                go_wp2_with fail
                go_meet
                exact ⟨rfl, rfl⟩
              · have z2 : ¬ (e : Int) < (b : Int) := fun h => (by assumption : ¬ e < b) (Int.ofNat_lt.1 h)
                obtain rfl : q43 = false := by rw [← hq43]; exact decide_eq_false fun h => h2 h.2
                clear hq43
                go_wp2_with fail
                go_meet
                exact ⟨rfl, rfl⟩
            · have z1 : ¬ (mid : Int) < (e : Int) := fun h => (by assumption : ¬ mid < e) (Int.ofNat_lt.1 h)
              obtain rfl : q43 = false := by rw [← hq43]; exact decide_eq_false fun h => h1 h.1
              clear hq43
              go_wp2_with fail
              go_meet
              exact ⟨rfl, rfl⟩
        obtain ⟨rfl, hwc⟩ := hcut
        rw [hwc]
        clear hwc
        by_cases h1 : mid < e
        · by_cases h2 : e < b
          · obtain rfl : q43 = true := by rw [← hq43]; exact decide_eq_true ⟨h1, h2⟩
            clear hq43
            have HRO := Lib.hid (IH.out lo A n c mid e b (P ++ Z1) L2 R2 S w2 (by omega) (by have h := HO2.out; rw [← List.append_assoc] at h; exact h) (by rw [List.length_append, HA.out]; omega) (by omega) (by omega) (by omega) (by omega) (HC.out.only HON2.out HF.out) HF.out HS1.out HS2.out (fun x hx y hy => HBC.out x (by simp [hx]) y (by simp [hy])) hn)
            go_wp2_with fail
            refine HRO.out.mono ?_
            rintro e' w3 ⟨he, ⟨Z2, hp2, hs2, hO3⟩, hon3⟩
            subst he
            have hq := HEND.out Z2 hp2 hs2
            have HQ := Lib.hid hq
            have HO3 := Lib.hid hO3
            have HON3 := Lib.hid (HON2.out.trans hon3)
            clear hq hp2 hs2 hO3 hon3
            go_wp2_with fail
            go_end0
            exact ⟨rfl, ⟨Z1 ++ Z2, HQ.out.1, HQ.out.2, by have h := HO3.out; simpa using h⟩, HON3.out⟩
          · obtain rfl : q43 = false := by rw [← hq43]; exact decide_eq_false fun h => h2 h.2
            clear hq43
            have e1 : R2 = [] := List.length_eq_zero_iff.1 (by omega)
            have HR0 := Lib.hid e1
            clear e1
            go_wp2_with fail
            go_end0
            have hq := HEND.out L2 (by rw [HR0.out, List.append_nil]) HS1.out
            exact ⟨rfl, ⟨Z1 ++ L2, hq.1, hq.2, by have h := HO2.out; rw [HR0.out] at h; simpa using h⟩, HON2.out⟩
        · obtain rfl : q43 = false := by rw [← hq43]; exact decide_eq_false fun h => h1 h.1
          clear hq43
          have e1 : L2 = [] := List.length_eq_zero_iff.1 (by omega)
          have HL0 := Lib.hid e1
          clear e1
          go_wp2_with fail
          go_end0
          have hq := HEND.out R2 (by rw [HL0.out, List.nil_append]) HS2.out
          exact ⟨rfl, ⟨Z1 ++ R2, hq.1, hq.2, by have h := HO2.out; rw [HL0.out] at h; simpa using h⟩, HON2.out⟩
    | succ k1 =>
      as_aux_lemma =>
        have hij2 : s < t := by omega
        have hijz : (s : Int) < (t : Int) := by omega
        obtain ⟨h, hh⟩ : ∃ h, (s + t) / 2 = h := ⟨_, rfl⟩
        have hih : s ≤ h := by omega
        have hhj : h < t := by omega
        have hv1 : IntKind.i64.wrap ((s : Int) + (t : Int)) = (s : Int) + (t : Int) := by rw [i64_w]; exact wrap64_id _ (by omega)
        have hv2 : IntKind.u64.wrap ((s : Int) + (t : Int)) = (s : Int) + (t : Int) := by rw [u64_w2P]; exact Int.emod_eq_of_lt (by omega) (by omega)
        have hv3 : ((s : Int) + (t : Int)) / 2 = (h : Int) := by omega
        have hv4 : IntKind.i64.wrap (h : Int) = (h : Int) := by rw [i64_w]; exact wrap64_id _ (by omega)
        have hv5 : IntKind.i64.wrap ((h : Int) + 1) = (h : Int) + 1 := by rw [i64_w]; exact wrap64_id _ (by omega)
        have hv6 : IntKind.u64.wrap (h : Int) = (h : Int) := by rw [u64_w2P]; exact Int.emod_eq_of_lt (by omega) (by omega)
        obtain ⟨pc, hpc⟩ : ∃ x, pp - h = x := ⟨_, rfl⟩
        have hv7 : IntKind.i64.wrap ((pp : Int) - (h : Int)) = (pc : Int) := by rw [i64_w, show (pp : Int) - (h : Int) = (pc : Int) by omega]; exact wrap64_id _ (by omega)
        have hpm : m ≤ pc := by omega
        have hpb : pc < b := by omega
        have hhm : h - a < L.length := by rw [HLL.out]; omega
        have hpr : pc - m < R.length := by rw [HRR.out]; omega
        obtain ⟨⟨x0, x1⟩, hxe⟩ : ∃ x, R[pc - m] = x := ⟨_, rfl⟩
        obtain ⟨⟨y0, y1⟩, hye⟩ : ∃ y, L[h - a] = y := ⟨_, rfl⟩
        have hx : R[pc - m]? = some (x0, x1) := by rw [List.getElem?_eq_getElem hpr, hxe]
        have hy : L[h - a]? = some (y0, y1) := by rw [List.getElem?_eq_getElem hhm, hye]
        have hHx : (P ++ (L ++ (R ++ S)))[pc]? = some (x0, x1) := by
          rw [List.getElem?_append_right (by rw [HA.out]; omega), HA.out, List.getElem?_append_right (by rw [HLL.out]; omega), HLL.out, List.getElem?_append_left (by rw [HRR.out]; omega), show pc - a - l = pc - m by omega]
          exact hx
        have hHy : (P ++ (L ++ (R ++ S)))[h]? = some (y0, y1) := by
          rw [List.getElem?_append_right (by rw [HA.out]; omega), HA.out, List.getElem?_append_left (by rw [HLL.out]; omega)]
          exact hy
        have hOw := HH.out.keep HBW.out
        obtain ⟨g, hgA, _, hin, hx0, hx1⟩ := OwnF.one rfl hOw hHx
        subst hgA
        obtain ⟨g', hgA, _, han, hy0, hy1⟩ := OwnF.one rfl hOw hHy
        injection hgA with hgA
        injection hgA with hgA
        subst hgA
        have bI : (pc : Int) < (n : Int) := by omega
        have bJ : (h : Int) < (n : Int) := by omega
        have hcm := HC.out.below HBW.out
        obtain ⟨q, hcl⟩ : ∃ q, ltP (x0, x1) (y0, y1) = q := ⟨_, rfl⟩
        have hlq : lexP (x0, x1) (y0, y1) = q := (beP_cl (HBE.out (y0, y1) (List.mem_of_getElem? hy) (x0, x1) (List.mem_of_getElem? hx))).symm.trans hcl
        have HLQ := Lib.hid hlq
        have HX := Lib.hid hx
        have HY := Lib.hid hy
        have hbw : Below wr.heap.size wr wr := Below.refl _ _
        have hq1 : nn - 1 - h - m = pc - m := by omega
        have hq2 : nn - (h + 1) - m = pc - m := by omega
        have HQ1 := Lib.hid hq1
        have HQ2 := Lib.hid hq2
        clear hh hhm hpr hxe hye hx hy hHx hHy hOw hin han hlq hq1 hq2 hpc hpm hpb
        go_wp2_with fail
        first | go_region_held3 (fun w' => w'.cell? ⟨g, pc * 2, none⟩ = some (.int .i64 x0) ∧ w'.cell? ⟨g, pc * 2 + 1, none⟩ = some (.int .i64 x1) ∧ w'.cell? ⟨g, h * 2, none⟩ = some (.int .i64 y0) ∧ w'.cell? ⟨g, h * 2 + 1, none⟩ = some (.int .i64 y1) ∧ CmP w' bf ∧ Below wr.heap.size wr w')
          (first | exact ⟨cell_below (B := wr.heap.size) (w := wr) (by first | ((repeat (first | with_reducible assumption | with_reducible exact Below.refl _ _ | with_reducible apply below_drew1 | with_reducible apply below_alloc1)); done)) hx0 (World.block_lt_of_cell? _ _ hx0), cell_below (B := wr.heap.size) (w := wr) (by first | ((repeat (first | with_reducible assumption | with_reducible exact Below.refl _ _ | with_reducible apply below_drew1 | with_reducible apply below_alloc1)); done)) hx1 (World.block_lt_of_cell? _ _ hx1), cell_below (B := wr.heap.size) (w := wr) (by first | ((repeat (first | with_reducible assumption | with_reducible exact Below.refl _ _ | with_reducible apply below_drew1 | with_reducible apply below_alloc1)); done)) hy0 (World.block_lt_of_cell? _ _ hy0), cell_below (B := wr.heap.size) (w := wr) (by first | ((repeat (first | with_reducible assumption | with_reducible exact Below.refl _ _ | with_reducible apply below_drew1 | with_reducible apply below_alloc1)); done)) hy1 (World.block_lt_of_cell? _ _ hy1), CmP.keepb (B := wr.heap.size) (w := wr) hcm (by first | ((repeat (first | with_reducible assumption | with_reducible exact Below.refl _ _ | with_reducible apply below_drew1 | with_reducible apply below_alloc1)); done)), (by first | ((repeat (first | with_reducible assumption | with_reducible exact Below.refl _ _ | with_reducible apply below_drew1 | with_reducible apply below_alloc1)); done))⟩ | go_keep)
          (first
            | (go_at_call 119; go_split_ands; (with_reducible refine (CmpP_calls bf (x0, x1) (y0, y1) _ ?_).mono ?_); (with_reducible assumption); rintro e w7 ⟨mm, he, hmm, hbq⟩; subst he; rw [hcl] at hmm; have hB : Below wr.heap.size wr w7 := Below.after (by first | ((repeat (first | with_reducible assumption | with_reducible exact Below.refl _ _ | with_reducible apply below_drew1 | with_reducible apply below_alloc1)); done)) hbq)) | fail "held"
        all_goals
          cases q with
          | false =>
            go_wp2_with fail
            go_roundg (t - (h + 1))
            case measure => omega
            case rel => exact ⟨h + 1, t, by omega, by omega, htr, by simp, rfl, .inr ⟨by omega, (x0, x1), (y0, y1), by rw [HQ2.out]; exact HX.out, by rw [show h + 1 - 1 - a = h - a by omega]; exact HY.out, HLQ.out⟩, HHI.out, HBW.out.trans (hB.mono HBW.out.size)⟩
          | true =>
            go_wp2_with fail
            go_roundg (h - s)
            case measure => omega
            case rel => exact ⟨s, h, by omega, hs0s, by omega, rfl, rfl, HLO.out, .inr ⟨by omega, (x0, x1), (y0, y1), by rw [HQ1.out]; exact HX.out, HY.out, HLQ.out⟩, HBW.out.trans (hB.mono HBW.out.size)⟩
end Go.Proofs.Ytacgkoclammggaa
