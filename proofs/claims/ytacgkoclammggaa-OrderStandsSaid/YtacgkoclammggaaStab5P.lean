
/-
  The library's symMerge over shelterbelt/shelterbeltref04.Pair, where the right side is one element. Conditions: the row is the call's own; both sides are in order; what stands ahead may stand ahead.
-/
import Derived.Test.YtacgkoclammggaaStab4P
namespace Go.Proofs.Ytacgkoclammggaa
open Go.RowKit
set_option linter.unusedVariables false
set_option maxRecDepth 100000
set_option linter.unusedSimpArgs false
attribute [local go_sem] Oper.semAt_some

set_option maxHeartbeats 6400000 in
set_option maxRecDepth 1000000 in
theorem SymBP_calls (bf lo : Nat) (A : Option Addr) (n c a m b : Nat) (P L S : List (Int × Int)) (x : Int × Int) (w : World) (h : OwnF w lo 80 2 twoP (.slice A n c) (P ++ (L ++ ([x] ++ S)))) (ha : P.length = a) (hm : a + L.length = m) (hb : m + 1 = b) (hL : 1 < L.length) (hc : CmP w bf) (hf : ¬ OwnB (.slice A n c) bf) (hs : Srt lexP L) (hB : ∀ y ∈ L, BeP y x) (hn : n ≤ 1000000) :
    Calls Try.prog 123 #[.slice A n c, .int .i64 (a : Int), .int .i64 (m : Int), .int .i64 (b : Int), cmpP bf] w fun e w' => e = .returned (.tuple #[]) ∧ (∃ Z, Z.Perm (L ++ [x]) ∧ Srt lexP Z ∧ OwnF w' lo 80 2 twoP (.slice A n c) (P ++ (Z ++ S))) ∧ Only (OwnB (.slice A n c)) w w' := by
  have hlen : b ≤ n := by have := h.len; simp at this; omega
  obtain ⟨x0, x1⟩ := x
  have HF := Lib.hid hf
  have HC := Lib.hid hc
  have HH := Lib.hid h
  have HS := Lib.hid hs
  have HBE := Lib.hid hB
  have HA := Lib.hid ha
  obtain ⟨r, hr⟩ : ∃ r, L.length = r := ⟨_, rfl⟩
  have HR := Lib.hid hr
  rw [hr] at hm hL
  have hwm : IntKind.i64.wrap ((m : Int) - (a : Int)) = (r : Int) := by rw [i64_w, show (m : Int) - (a : Int) = (r : Int) by omega]; exact wrap64_id _ (by omega)
  have hwn : ((r : Int) == 1) = false := by rw [beq_eq_false_iff_ne]; omega
  have hwb : IntKind.i64.wrap ((b : Int) - (m : Int)) = 1 := by rw [show (b : Int) - (m : Int) = 1 by omega]; rfl
  have hHi0 : Hi L (fun y => !lexP (x0, x1) y) r := fun y hy => by rw [List.getElem?_eq_none (by omega)] at hy; cases hy
  have HHI := Lib.hid hHi0
  clear h hc hf hs hB ha hr hHi0
  go_enter Try.func123, Try.ntmps123
  go_wp2_with fail
  go_loopg [14, 15] r (fun kq v14 v15 w' => ∃ i j : Nat, i + kq = j ∧ a ≤ i ∧ j ≤ m ∧ v14 = .int .i64 (i : Int) ∧ v15 = .int .i64 (j : Int) ∧ Lo L (fun y => !lexP (x0, x1) y) (i - a) ∧ Hi L (fun y => !lexP (x0, x1) y) (j - a) ∧ Below w.heap.size w w')
  case atStart => exact ⟨a, m, by omega, Nat.le_refl _, Nat.le_refl _, rfl, rfl, .inl (by omega), by rw [show m - a = r by omega]; exact HHI.out, Below.refl _ _⟩
  case round =>
    clear HHI
    obtain ⟨i, j, hij, hmi, hjb, rfl, rfl, hlo, hhi, hbw⟩ := hrel
    have HLO := Lib.hid hlo
    have HHI := Lib.hid hhi
    have HBW := Lib.hid hbw
    clear hlo hhi hbw
    cases gk with
    | zero =>
      obtain rfl : i = j := by omega
      have hlt0 : ¬ ((i : Int) < (i : Int)) := by omega
      obtain ⟨p, hp⟩ : ∃ p, i - a = p := ⟨_, rfl⟩
      have hpr : p ≤ r := by omega
      obtain ⟨s, hs⟩ : ∃ s, r - p = s := ⟨_, rfl⟩
      rw [hp] at HLO HHI
      have HLP := Lib.hid (show (L.take p).length = p by rw [List.length_take, HR.out]; omega)
      have HLD := Lib.hid (show (L.drop p).length = s by rw [List.length_drop, HR.out]; exact hs)
      have HO1 := Lib.hid (show OwnF wr lo 80 2 twoP (.slice A n c) (P ++ (L.take p ++ ((L.drop p).take s ++ ((x0, x1) :: ((L.drop p).drop s ++ S))))) from by
        have h := HH.out.keep HBW.out
        have e1 : (L.drop p).take s = L.drop p := List.take_of_length_le (by rw [List.length_drop, HR.out]; omega)
        have e2 : (L.drop p).drop s = [] := List.drop_of_length_le (by rw [List.length_drop, HR.out]; omega)
        rw [e1, e2, List.nil_append, ← List.append_assoc (L.take p), List.take_append_drop]
        exact h)
      have HON := Lib.hid (Only.of_below (S := OwnB (.slice A n c)) HBW.out)
      have hips : i + s = m := by omega
      have him : i ≤ m := by omega
      have hia : a + p = i := by omega
      clear hp hs hmi hjb hij HBW HH HC
      go_wp2_with fail
      go_loopg [17] s (fun kq v17 w' => ∃ k : Nat, i + kq = k ∧ kq ≤ s ∧ v17 = .int .i64 (k : Int) ∧ OwnF w' lo 80 2 twoP (.slice A n c) (P ++ (L.take p ++ ((L.drop p).take kq ++ ((x0, x1) :: ((L.drop p).drop kq ++ S))))) ∧ Only (OwnB (.slice A n c)) w w')
      case atStart => exact ⟨m, hips, Nat.le_refl _, rfl, HO1.out, HON.out⟩
      case round =>
        clear HO1 HON
        obtain ⟨k, hik, hks, rfl, hO, hon⟩ := hrel
        have HON := Lib.hid hon
        clear hon
        cases gk with
        | zero =>
          obtain rfl : i = k := by omega
          rw [List.take_zero, List.drop_zero, List.nil_append] at hO
          have HO := Lib.hid hO
          clear hO hik hks hips him
          go_wp2_with fail
          refine bodyPost_ret (results_none rfl _ _ _) rfl ?_
          refine ⟨rfl, ⟨L.take p ++ (x0, x1) :: L.drop p, ?_, ?_, by simpa using HO.out⟩, HON.out⟩
          · have h := List.perm_middle (a := (x0, x1)) (l₁ := L.take p) (l₂ := L.drop p)
            rw [List.take_append_drop] at h
            exact h.trans (List.perm_append_comm (l₁ := [(x0, x1)]) (l₂ := L))
          · refine srt_mid lexP_wo (by rw [List.take_append_drop]; exact HS.out) ((HLO.out.last (by rw [HR.out]; exact hpr)).imp id fun ⟨z, h1, h2⟩ => ⟨z, h1, by simpa using h2⟩) (HHI.out.head.imp id fun ⟨z, h1, h2⟩ => ⟨z, h1, lexP_wo.asym _ _ (by simpa using h2)⟩)
        | succ t =>
          have htp : t < (L.drop p).length := by rw [HLD.out]; omega
          have hdr := List.drop_eq_getElem_cons htp
          have htk2 : (L.drop p).take (t + 1) = (L.drop p).take t ++ [(L.drop p)[t]] := by rw [List.take_add_one, List.getElem?_eq_getElem htp]; rfl
          obtain ⟨⟨u0, u1⟩, hu⟩ : ∃ u, (L.drop p)[t] = u := ⟨_, rfl⟩
          rw [hu] at hdr htk2
          rw [htk2] at hO
          have HDR := Lib.hid hdr
          have hO2 : OwnF wr lo 80 2 twoP (.slice A n c) ((P ++ (L.take p ++ (L.drop p).take t)) ++ (u0, u1) :: ([] ++ (x0, x1) :: ((L.drop p).drop (t + 1) ++ S))) := by
            rw [show (P ++ (L.take p ++ (L.drop p).take t)) ++ (u0, u1) :: ([] ++ (x0, x1) :: ((L.drop p).drop (t + 1) ++ S)) = P ++ (L.take p ++ (((L.drop p).take t ++ [(u0, u1)]) ++ ((x0, x1) :: ((L.drop p).drop (t + 1) ++ S)))) by simp]
            exact hO
          obtain ⟨k1, hk1⟩ : ∃ k1, i + t = k1 := ⟨_, rfl⟩
          have htl : ((L.drop p).take t).length = t := by rw [List.length_take]; omega
          have hX : (P ++ (L.take p ++ (L.drop p).take t)).length = k1 := by rw [List.length_append, List.length_append, HA.out, HLP.out, htl]; omega
          have hkk : k1 + 1 = k := by omega
          obtain ⟨g, hgA, hgb, hin, hjn, hu0, hu1, hv0, hv1, hfz, hex1, hex2⟩ := OwnF.exch rfl hO2 hX (j := k) (by simp; omega)
          subst hgA
          have hf1 := hfz (k1 * 2)
          have hf2 := hfz (k1 * 2 + 1)
          have hf3 := hfz (k * 2)
          have hf4 := hfz (k * 2 + 1)
          have bI : (k1 : Int) < (n : Int) := by omega
          have bJ : (k : Int) < (n : Int) := by omega
          have bE : (i : Int) < (k : Int) := by omega
          have hwk : IntKind.i64.wrap ((k : Int) - 1) = (k1 : Int) := by rw [i64_w, show (k : Int) - 1 = (k1 : Int) by omega]; exact wrap64_id _ (by omega)
          have n00a : ¬ k1 * 2 = k * 2 := by omega
          have n00b : ¬ k * 2 = k1 * 2 := by omega
          have n01a : ¬ k1 * 2 = k * 2 + 1 := by omega
          have n01b : ¬ k * 2 + 1 = k1 * 2 := by omega
          have n10a : ¬ k1 * 2 + 1 = k * 2 := by omega
          have n10b : ¬ k * 2 = k1 * 2 + 1 := by omega
          have n11a : ¬ k1 * 2 + 1 = k * 2 + 1 := by omega
          have n11b : ¬ k * 2 + 1 = k1 * 2 + 1 := by omega
          have HEX := Lib.hid hex2
          have hks2 : t ≤ s := by omega
          have HK1 := Lib.hid hk1
          clear hfz hex1 hex2 hgb hin hjn hX htl hO2 hO hdr hu htp htk2 hik hkk hk1 hips him hks
          go_wp2_with fail
          go_region
          go_wp2_with fail
          go_roundg t
          case measure => omega
          case rel =>
            refine ⟨k1, HK1.out, hks2, rfl, ?_, HON.out.trans (HEX.out.2.trans (Only.of_below (Below.refl _ _).drew))⟩
            have h : OwnF _ lo 80 2 twoP (.slice (some ⟨g, 0, none⟩) n c) _ := own_drew1 HEX.out.1
            rw [show (P ++ (L.take p ++ (L.drop p).take t)) ++ (x0, x1) :: ([] ++ (u0, u1) :: ((L.drop p).drop (t + 1) ++ S)) = P ++ (L.take p ++ ((L.drop p).take t ++ ((x0, x1) :: ((L.drop p).drop t ++ S)))) by rw [HDR.out]; simp] at h
            exact h
    | succ k1 =>
      have hij2 : i < j := by omega
      have hijz : (i : Int) < (j : Int) := by omega
      obtain ⟨h, hh⟩ : ∃ h, (i + j) / 2 = h := ⟨_, rfl⟩
      have hih : i ≤ h := by omega
      have hhj : h < j := by omega
      have hw1 : IntKind.i64.wrap ((i : Int) + (j : Int)) = (i : Int) + (j : Int) := by rw [i64_w]; exact wrap64_id _ (by omega)
      have hw2 : IntKind.u64.wrap ((i : Int) + (j : Int)) = (i : Int) + (j : Int) := by rw [u64_w2P]; exact Int.emod_eq_of_lt (by omega) (by omega)
      have hw3 : ((i : Int) + (j : Int)) / 2 = (h : Int) := by omega
      have hw4 : IntKind.i64.wrap (h : Int) = (h : Int) := by rw [i64_w]; exact wrap64_id _ (by omega)
      have hw5 : IntKind.i64.wrap ((h : Int) + 1) = (h : Int) + 1 := by rw [i64_w]; exact wrap64_id _ (by omega)
      have hw6 : IntKind.u64.wrap (h : Int) = (h : Int) := by rw [u64_w2P]; exact Int.emod_eq_of_lt (by omega) (by omega)
      have hhm : h - a < L.length := by rw [HR.out]; omega
      obtain ⟨⟨y0, y1⟩, hye⟩ : ∃ y, L[h - a] = y := ⟨_, rfl⟩
      have hy : L[h - a]? = some (y0, y1) := by rw [List.getElem?_eq_getElem hhm, hye]
      have hHy : (P ++ (L ++ ([(x0, x1)] ++ S)))[h]? = some (y0, y1) := by
        rw [List.getElem?_append_right (by rw [HA.out]; omega), HA.out, List.getElem?_append_left hhm]
        exact hy
      have hHm : (P ++ (L ++ ([(x0, x1)] ++ S)))[m]? = some (x0, x1) := by
        rw [List.getElem?_append_right (by rw [HA.out]; omega), HA.out, List.getElem?_append_right (by rw [HR.out]; omega), HR.out, show m - a - r = 0 by omega]
        rfl
      have hOw := HH.out.keep HBW.out
      obtain ⟨g, hgA, _, hin, hy0, hy1⟩ := OwnF.one rfl hOw hHy
      subst hgA
      obtain ⟨g', hgA, _, han, hx0, hx1⟩ := OwnF.one rfl hOw hHm
      injection hgA with hgA
      injection hgA with hgA
      subst hgA
      have bI : (h : Int) < (n : Int) := by omega
      have bJ : (m : Int) < (n : Int) := by omega
      have hcm := HC.out.below HBW.out
      obtain ⟨q, hcl⟩ : ∃ q, ltP (x0, x1) (y0, y1) = q := ⟨_, rfl⟩
      have hlq : lexP (x0, x1) (y0, y1) = q := (beP_cl (HBE.out (y0, y1) (List.mem_of_getElem? hy))).symm.trans hcl
      have HLQ := Lib.hid hlq
      have HX := Lib.hid hy
      have hbw : Below wr.heap.size wr wr := Below.refl _ _
      clear hh hhm hye hy hHy hHm hOw hin han hlq
      go_wp2_with fail
      first | go_region_held3 (fun w' => w'.cell? ⟨g, m * 2, none⟩ = some (.int .i64 x0) ∧ w'.cell? ⟨g, m * 2 + 1, none⟩ = some (.int .i64 x1) ∧ w'.cell? ⟨g, h * 2, none⟩ = some (.int .i64 y0) ∧ w'.cell? ⟨g, h * 2 + 1, none⟩ = some (.int .i64 y1) ∧ CmP w' bf ∧ Below wr.heap.size wr w')
        (first | exact ⟨cell_below (B := wr.heap.size) (w := wr) (by first | ((repeat (first | with_reducible assumption | with_reducible exact Below.refl _ _ | with_reducible apply below_drew1 | with_reducible apply below_alloc1)); done)) hx0 (World.block_lt_of_cell? _ _ hx0), cell_below (B := wr.heap.size) (w := wr) (by first | ((repeat (first | with_reducible assumption | with_reducible exact Below.refl _ _ | with_reducible apply below_drew1 | with_reducible apply below_alloc1)); done)) hx1 (World.block_lt_of_cell? _ _ hx1), cell_below (B := wr.heap.size) (w := wr) (by first | ((repeat (first | with_reducible assumption | with_reducible exact Below.refl _ _ | with_reducible apply below_drew1 | with_reducible apply below_alloc1)); done)) hy0 (World.block_lt_of_cell? _ _ hy0), cell_below (B := wr.heap.size) (w := wr) (by first | ((repeat (first | with_reducible assumption | with_reducible exact Below.refl _ _ | with_reducible apply below_drew1 | with_reducible apply below_alloc1)); done)) hy1 (World.block_lt_of_cell? _ _ hy1), CmP.keepb (B := wr.heap.size) (w := wr) hcm (by first | ((repeat (first | with_reducible assumption | with_reducible exact Below.refl _ _ | with_reducible apply below_drew1 | with_reducible apply below_alloc1)); done)), (by first | ((repeat (first | with_reducible assumption | with_reducible exact Below.refl _ _ | with_reducible apply below_drew1 | with_reducible apply below_alloc1)); done))⟩ | go_keep)
        (first
          | (go_at_call 119; go_split_ands; (with_reducible refine (CmpP_calls bf (x0, x1) (y0, y1) _ ?_).mono ?_); (with_reducible assumption); rintro e w7 ⟨mm, he, hmm, hbq⟩; subst he; rw [hcl] at hmm; have hB : Below wr.heap.size wr w7 := Below.after (by first | ((repeat (first | with_reducible assumption | with_reducible exact Below.refl _ _ | with_reducible apply below_drew1 | with_reducible apply below_alloc1)); done)) hbq)) | fail "held"
      all_goals
        cases q with
        | false =>
          go_wp2_with fail
          go_roundg (j - (h + 1))
          case measure => omega
          case rel => exact ⟨h + 1, j, by omega, by omega, hjb, by simp, rfl, .inr ⟨(y0, y1), by rw [show h + 1 - a - 1 = h - a by omega]; exact HX.out, by simp [HLQ.out]⟩, HHI.out, HBW.out.trans (hB.mono HBW.out.size)⟩
        | true =>
          go_wp2_with fail
          go_roundg (h - i)
          case measure => omega
          case rel => exact ⟨i, h, by omega, hmi, by omega, rfl, rfl, HLO.out, fun y hy => by rw [HX.out] at hy; injection hy with hy; rw [← hy]; simp [HLQ.out], HBW.out.trans (hB.mono HBW.out.size)⟩
end Go.Proofs.Ytacgkoclammggaa
