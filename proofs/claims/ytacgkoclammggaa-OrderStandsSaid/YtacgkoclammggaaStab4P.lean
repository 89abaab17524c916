
/-
  The library's symMerge over shelterbelt/shelterbeltref04.Pair, where one side is one element. Conditions: the row is the call's own; both sides are in order; what stands ahead may stand ahead.
-/
import Derived.Test.YtacgkoclammggaaStab3P
import Derived.Test.YtacgkoclammggaaStabL
namespace Go.Proofs.Ytacgkoclammggaa
open Go.RowKit
set_option linter.unusedVariables false
set_option maxRecDepth 100000
set_option linter.unusedSimpArgs false
attribute [local go_sem] Oper.semAt_some

theorem u64_w2P (n : Int) : IntKind.u64.wrap n = n % 18446744073709551616 := by simp [IntKind.wrap, IntKind.bits, IntKind.signed]
set_option maxHeartbeats 6400000 in
set_option maxRecDepth 1000000 in
theorem SymAP_calls (bf lo : Nat) (A : Option Addr) (n c a m b : Nat) (P R S : List (Int × Int)) (x : Int × Int) (w : World) (h : OwnF w lo 80 2 twoP (.slice A n c) (P ++ ([x] ++ (R ++ S)))) (ha : P.length = a) (hm : a + 1 = m) (hb : m + R.length = b) (hR : 0 < R.length) (hc : CmP w bf) (hf : ¬ OwnB (.slice A n c) bf) (hs : Srt lexP R) (hB : ∀ y ∈ R, BeP x y) (hn : n ≤ 1000000) :
    Calls Try.prog 123 #[.slice A n c, .int .i64 (a : Int), .int .i64 (m : Int), .int .i64 (b : Int), cmpP bf] w fun e w' => e = .returned (.tuple #[]) ∧ (∃ Z, Z.Perm ([x] ++ R) ∧ Srt lexP Z ∧ OwnF w' lo 80 2 twoP (.slice A n c) (P ++ (Z ++ S))) ∧ Only (OwnB (.slice A n c)) w w' := by
  have hlen : b ≤ n := by have := h.len; simp at this; omega
  obtain ⟨y0, y1⟩ := x
  have HF := Lib.hid hf
  have HC := Lib.hid hc
  have HH := Lib.hid h
  have HS := Lib.hid hs
  have HBE := Lib.hid hB
  have HA := Lib.hid ha
  obtain ⟨r, hr⟩ : ∃ r, R.length = r := ⟨_, rfl⟩
  have HR := Lib.hid hr
  rw [hr] at hb hR
  have hwm : IntKind.i64.wrap ((m : Int) - (a : Int)) = 1 := by rw [show (m : Int) - (a : Int) = 1 by omega]; rfl
  have hHi0 : Hi R (fun y => lexP y (y0, y1)) r := fun y hy => by rw [List.getElem?_eq_none (by omega)] at hy; cases hy
  have HHI := Lib.hid hHi0
  have hr1 : R.length ≤ r := by omega
  clear h hc hf hs hB ha hr hHi0 hr1
  go_enter Try.func123, Try.ntmps123
  go_wp2_with fail
  go_loopg [10, 11] r (fun kq v10 v11 w' => ∃ i j : Nat, i + kq = j ∧ m ≤ i ∧ j ≤ b ∧ v10 = .int .i64 (i : Int) ∧ v11 = .int .i64 (j : Int) ∧ Lo R (fun y => lexP y (y0, y1)) (i - m) ∧ Hi R (fun y => lexP y (y0, y1)) (j - m) ∧ Below w.heap.size w w')
  case atStart => exact ⟨m, b, by omega, Nat.le_refl _, Nat.le_refl _, rfl, rfl, .inl (by omega), by rw [show b - m = r by omega]; exact HHI.out, Below.refl _ _⟩
  case round =>
    clear HHI
    obtain ⟨i, j, hij, hmi, hjb, rfl, rfl, hlo, hhi, hbw⟩ := hrel
    have HLO := Lib.hid hlo
    have HHI := Lib.hid hhi
    have HBW := Lib.hid hbw
    clear hlo hhi hbw
    cases gk with
    | zero =>
      obtain rfl : i = j := by omega
      have hlt0 : ¬ ((i : Int) < (i : Int)) := by omega
      obtain ⟨p, hp⟩ : ∃ p, i - m = p := ⟨_, rfl⟩
      have hpr : p ≤ r := by omega
      obtain ⟨e, hee⟩ : ∃ e, a + p = e := ⟨_, rfl⟩
      have hwe : IntKind.i64.wrap ((i : Int) - 1) = (e : Int) := by rw [i64_w, show (i : Int) - 1 = (e : Int) by omega]; exact wrap64_id _ (by omega)
      have heb : e < b := by omega
      rw [hp] at HLO HHI
      have HRP := Lib.hid (show (R.take p).length = p by rw [List.length_take, HR.out]; omega)
      have HO1 := Lib.hid (show OwnF wr lo 80 2 twoP (.slice A n c) (P ++ ((R.take p).take 0 ++ ((y0, y1) :: ((R.take p).drop 0 ++ (R.drop p ++ S))))) from by
        have h := HH.out.keep HBW.out
        simp only [List.take_zero, List.drop_zero, List.nil_append]
        rw [← List.append_assoc (R.take p), List.take_append_drop]
        exact h)
      have HON := Lib.hid (Only.of_below (S := OwnB (.slice A n c)) HBW.out)
      have HE := Lib.hid hee
      clear hp hmi hjb hij HBW HH HC
      go_wp2_with fail
      go_loopg [13] p (fun kq v13 w' => ∃ t k : Nat, t + kq = p ∧ a + t = k ∧ v13 = .int .i64 (k : Int) ∧ OwnF w' lo 80 2 twoP (.slice A n c) (P ++ ((R.take p).take t ++ ((y0, y1) :: ((R.take p).drop t ++ (R.drop p ++ S))))) ∧ Only (OwnB (.slice A n c)) w w')
      case atStart => exact ⟨0, a, by omega, rfl, rfl, HO1.out, HON.out⟩
      case round =>
        clear HO1 HON
        obtain ⟨t, k, htk, hak, rfl, hO, hon⟩ := hrel
        have HON := Lib.hid hon
        clear hon
        cases gk with
        | zero =>
          obtain rfl : t = p := by omega
          obtain rfl : k = e := by omega
          rw [List.take_of_length_le (by rw [HRP.out]; exact Nat.le_refl _), List.drop_of_length_le (by rw [HRP.out]; exact Nat.le_refl _), List.nil_append] at hO
          have HO := Lib.hid hO
          have hlt0 : ¬ ((k : Int) < (k : Int)) := by omega
          clear hO htk hak hee
          go_wp2_with fail
          refine bodyPost_ret (results_none rfl _ _ _) rfl ?_
          refine ⟨rfl, ⟨R.take t ++ (y0, y1) :: R.drop t, ?_, ?_, by simpa using HO.out⟩, HON.out⟩
          · have h := List.perm_middle (a := (y0, y1)) (l₁ := R.take t) (l₂ := R.drop t)
            rw [List.take_append_drop] at h
            exact h
          · refine srt_mid lexP_wo (by rw [List.take_append_drop]; exact HS.out) ((HLO.out.last (by rw [HR.out]; exact hpr)).imp id fun ⟨z, h1, h2⟩ => ⟨z, h1, lexP_wo.asym _ _ h2⟩) HHI.out.head
        | succ k1 =>
          have htp : t < (R.take p).length := by rw [HRP.out]; omega
          have hdr := List.drop_eq_getElem_cons htp
          have htk2 : (R.take p).take (t + 1) = (R.take p).take t ++ [(R.take p)[t]] := by rw [List.take_add_one, List.getElem?_eq_getElem htp]; rfl
          obtain ⟨⟨u0, u1⟩, hu⟩ : ∃ u, (R.take p)[t] = u := ⟨_, rfl⟩
          rw [hu] at hdr htk2
          rw [hdr] at hO
          have HTK := Lib.hid htk2
          have hO2 : OwnF wr lo 80 2 twoP (.slice A n c) ((P ++ (R.take p).take t) ++ (y0, y1) :: ([] ++ (u0, u1) :: ((R.take p).drop (t + 1) ++ (R.drop p ++ S)))) := by
            rw [show (P ++ (R.take p).take t) ++ (y0, y1) :: ([] ++ (u0, u1) :: ((R.take p).drop (t + 1) ++ (R.drop p ++ S))) = P ++ ((R.take p).take t ++ ((y0, y1) :: (((u0, u1) :: (R.take p).drop (t + 1)) ++ (R.drop p ++ S)))) by simp]
            exact hO
          have htl : ((R.take p).take t).length = t := by rw [List.length_take]; omega
          have hX : (P ++ (R.take p).take t).length = k := by rw [List.length_append, HA.out, htl]; exact hak
          obtain ⟨k2, hk2⟩ : ∃ k2, k + 1 = k2 := ⟨_, rfl⟩
          obtain ⟨g, hgA, hgb, hin, hjn, hu0, hu1, hv0, hv1, hfz, hex1, hex2⟩ := OwnF.exch rfl hO2 hX (j := k2) (by simp; omega)
          subst hgA
          have hf1 := hfz (k * 2)
          have hf2 := hfz (k * 2 + 1)
          have hf3 := hfz (k2 * 2)
          have hf4 := hfz (k2 * 2 + 1)
          have bI : (k : Int) < (n : Int) := by omega
          have bJ : (k2 : Int) < (n : Int) := by omega
          have bE : (k : Int) < (e : Int) := by omega
          have hwk : IntKind.i64.wrap ((k : Int) + 1) = (k2 : Int) := by rw [i64_w, show (k : Int) + 1 = (k2 : Int) by omega]; exact wrap64_id _ (by omega)
          have n00a : ¬ k * 2 = k2 * 2 := by omega
          have n00b : ¬ k2 * 2 = k * 2 := by omega
          have n01a : ¬ k * 2 = k2 * 2 + 1 := by omega
          have n01b : ¬ k2 * 2 + 1 = k * 2 := by omega
          have n10a : ¬ k * 2 + 1 = k2 * 2 := by omega
          have n10b : ¬ k2 * 2 = k * 2 + 1 := by omega
          have n11a : ¬ k * 2 + 1 = k2 * 2 + 1 := by omega
          have n11b : ¬ k2 * 2 + 1 = k * 2 + 1 := by omega
          have HEX := Lib.hid hex1
          have hat2 : t + 1 + k1 = p := by omega
          have hak2 : a + (t + 1) = k2 := by omega
          have HAT := Lib.hid hat2
          have HAK := Lib.hid hak2
          clear hfz hex1 hex2 hgb hin hjn hX htl hO2 hO hdr hu htp htk hak hk2 hee hat2 hak2 htk2
          go_wp2_with fail
          go_region
          go_wp2_with fail
          go_roundg k1
          case measure => omega
          case rel =>
            refine ⟨t + 1, k2, HAT.out, HAK.out, rfl, ?_, HON.out.trans (HEX.out.2.trans (Only.of_below (Below.refl _ _).drew))⟩
            have h : OwnF _ lo 80 2 twoP (.slice (some ⟨g, 0, none⟩) n c) _ := own_drew1 HEX.out.1
            rw [show (P ++ (R.take p).take t) ++ (u0, u1) :: ([] ++ (y0, y1) :: ((R.take p).drop (t + 1) ++ (R.drop p ++ S))) = P ++ ((R.take p).take (t + 1) ++ ((y0, y1) :: ((R.take p).drop (t + 1) ++ (R.drop p ++ S)))) by rw [HTK.out]; simp] at h
            exact h
    | succ k1 =>
      have hij2 : i < j := by omega
      have hijz : (i : Int) < (j : Int) := by omega
      obtain ⟨h, hh⟩ : ∃ h, (i + j) / 2 = h := ⟨_, rfl⟩
      have hih : i ≤ h := by omega
      have hhj : h < j := by omega
      have hw1 : IntKind.i64.wrap ((i : Int) + (j : Int)) = (i : Int) + (j : Int) := by rw [i64_w]; exact wrap64_id _ (by omega)
      have hw2 : IntKind.u64.wrap ((i : Int) + (j : Int)) = (i : Int) + (j : Int) := by rw [u64_w2P]; exact Int.emod_eq_of_lt (by omega) (by omega)
      have hw3 : ((i : Int) + (j : Int)) / 2 = (h : Int) := by omega
      have hw4 : IntKind.i64.wrap (h : Int) = (h : Int) := by rw [i64_w]; exact wrap64_id _ (by omega)
      have hw5 : IntKind.i64.wrap ((h : Int) + 1) = (h : Int) + 1 := by rw [i64_w]; exact wrap64_id _ (by omega)
      have hw6 : IntKind.u64.wrap (h : Int) = (h : Int) := by rw [u64_w2P]; exact Int.emod_eq_of_lt (by omega) (by omega)
      have hhm : h - m < R.length := by rw [HR.out]; omega
      obtain ⟨⟨x0, x1⟩, hxe⟩ : ∃ x, R[h - m] = x := ⟨_, rfl⟩
      have hx : R[h - m]? = some (x0, x1) := by rw [List.getElem?_eq_getElem hhm, hxe]
      have hHx : (P ++ ([(y0, y1)] ++ (R ++ S)))[h]? = some (x0, x1) := by
        rw [List.getElem?_append_right (by rw [HA.out]; omega), HA.out, List.getElem?_append_right (by simp; omega), List.getElem?_append_left (by simp; omega), List.length_singleton, show h - a - 1 = h - m by omega]
        exact hx
      have hHa : (P ++ ([(y0, y1)] ++ (R ++ S)))[a]? = some (y0, y1) := by
        rw [List.getElem?_append_right (by rw [HA.out]; omega), HA.out, Nat.sub_self]
        rfl
      have hOw := HH.out.keep HBW.out
      obtain ⟨g, hgA, _, hin, hx0, hx1⟩ := OwnF.one rfl hOw hHx
      subst hgA
      obtain ⟨g', hgA, _, han, hy0, hy1⟩ := OwnF.one rfl hOw hHa
      injection hgA with hgA
      injection hgA with hgA
      subst hgA
      have bI : (h : Int) < (n : Int) := by omega
      have bJ : (a : Int) < (n : Int) := by omega
      have hcm := HC.out.below HBW.out
      obtain ⟨q, hcl⟩ : ∃ q, ltP (x0, x1) (y0, y1) = q := ⟨_, rfl⟩
      have hlq : lexP (x0, x1) (y0, y1) = q := (beP_cl (HBE.out (x0, x1) (List.mem_of_getElem? hx))).symm.trans hcl
      have HLQ := Lib.hid hlq
      have HX := Lib.hid hx
      have hbw : Below wr.heap.size wr wr := Below.refl _ _
      clear hh hhm hxe hx hHx hHa hOw hin han hlq
      go_wp2_with fail
      first | go_region_held3 (fun w' => w'.cell? ⟨g, h * 2, none⟩ = some (.int .i64 x0) ∧ w'.cell? ⟨g, h * 2 + 1, none⟩ = some (.int .i64 x1) ∧ w'.cell? ⟨g, a * 2, none⟩ = some (.int .i64 y0) ∧ w'.cell? ⟨g, a * 2 + 1, none⟩ = some (.int .i64 y1) ∧ CmP w' bf ∧ Below wr.heap.size wr w')
        (first | exact ⟨cell_below (B := wr.heap.size) (w := wr) (by first | ((repeat (first | with_reducible assumption | with_reducible exact Below.refl _ _ | with_reducible apply below_drew1 | with_reducible apply below_alloc1)); done)) hx0 (World.block_lt_of_cell? _ _ hx0), cell_below (B := wr.heap.size) (w := wr) (by first | ((repeat (first | with_reducible assumption | with_reducible exact Below.refl _ _ | with_reducible apply below_drew1 | with_reducible apply below_alloc1)); done)) hx1 (World.block_lt_of_cell? _ _ hx1), cell_below (B := wr.heap.size) (w := wr) (by first | ((repeat (first | with_reducible assumption | with_reducible exact Below.refl _ _ | with_reducible apply below_drew1 | with_reducible apply below_alloc1)); done)) hy0 (World.block_lt_of_cell? _ _ hy0), cell_below (B := wr.heap.size) (w := wr) (by first | ((repeat (first | with_reducible assumption | with_reducible exact Below.refl _ _ | with_reducible apply below_drew1 | with_reducible apply below_alloc1)); done)) hy1 (World.block_lt_of_cell? _ _ hy1), CmP.keepb (B := wr.heap.size) (w := wr) hcm (by first | ((repeat (first | with_reducible assumption | with_reducible exact Below.refl _ _ | with_reducible apply below_drew1 | with_reducible apply below_alloc1)); done)), (by first | ((repeat (first | with_reducible assumption | with_reducible exact Below.refl _ _ | with_reducible apply below_drew1 | with_reducible apply below_alloc1)); done))⟩ | go_keep)
        (first
          | (go_at_call 119; go_split_ands; (with_reducible refine (CmpP_calls bf (x0, x1) (y0, y1) _ ?_).mono ?_); (with_reducible assumption); rintro e w7 ⟨mm, he, hmm, hbq⟩; subst he; rw [hcl] at hmm; have hB : Below wr.heap.size wr w7 := Below.after (by first | ((repeat (first | with_reducible assumption | with_reducible exact Below.refl _ _ | with_reducible apply below_drew1 | with_reducible apply below_alloc1)); done)) hbq)) | fail "held"
      all_goals
        cases q with
        | true =>
          go_wp2_with fail
          go_roundg (j - (h + 1))
          case measure => omega
          case rel => exact ⟨h + 1, j, by omega, by omega, hjb, by simp, rfl, .inr ⟨(x0, x1), by rw [show h + 1 - m - 1 = h - m by omega]; exact HX.out, HLQ.out⟩, HHI.out, HBW.out.trans (hB.mono HBW.out.size)⟩
        | false =>
          go_wp2_with fail
          go_roundg (h - i)
          case measure => omega
          case rel => exact ⟨i, h, by omega, hmi, by omega, rfl, rfl, HLO.out, fun y hy => by rw [HX.out] at hy; injection hy with hy; rw [← hy]; exact HLQ.out, HBW.out.trans (hB.mono HBW.out.size)⟩
end Go.Proofs.Ytacgkoclammggaa
