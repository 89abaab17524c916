
/-
  The library's stable sort over shelterbelt/shelterbeltref04.Pair: rotate, the insertion sort. Conditions: the row is the call's own; the closure's variable holds the order; what stands ahead may stand ahead.
-/
import Derived.Test.YtacgkoclammggaaStab1P
namespace Go.Proofs.Ytacgkoclammggaa
open Go.RowKit
set_option linter.unusedVariables false
set_option maxRecDepth 100000
set_option linter.unusedSimpArgs false
attribute [local go_sem] Oper.semAt_some

set_option maxHeartbeats 3200000 in
set_option maxRecDepth 1000000 in
theorem RotateP_calls (cv : Value) (lo : Nat) (A : Option Addr) (n c a m b : Nat) (P L R S : List (Int × Int)) (w : World) (h : OwnF w lo 80 2 twoP (.slice A n c) (P ++ (L ++ (R ++ S)))) (ha : P.length = a) (hm : a + L.length = m) (hb : m + R.length = b) (hL : 0 < L.length) (hR : 0 < R.length) (hn : n ≤ 1000000) :
    Calls Try.prog 125 #[.slice A n c, .int .i64 (a : Int), .int .i64 (m : Int), .int .i64 (b : Int), cv] w fun e w' => e = .returned (.tuple #[]) ∧ OwnF w' lo 80 2 twoP (.slice A n c) (P ++ (R ++ (L ++ S))) ∧ Only (OwnB (.slice A n c)) w w' := by
  have hlen : b ≤ n := by have := h.len; simp at this; omega
  obtain ⟨i0, hi0⟩ : ∃ i, L.length = i := ⟨_, rfl⟩
  obtain ⟨j0, hj0⟩ : ∃ j, R.length = j := ⟨_, rfl⟩
  have hw1 : IntKind.i64.wrap ((m : Int) - (a : Int)) = (i0 : Int) := by rw [i64_w, show (m : Int) - (a : Int) = (i0 : Int) by omega]; exact wrap64_id _ (by omega)
  have hw2 : IntKind.i64.wrap ((b : Int) - (m : Int)) = (j0 : Int) := by rw [i64_w, show (b : Int) - (m : Int) = (j0 : Int) by omega]; exact wrap64_id _ (by omega)
  have him : i0 ≤ m := by omega
  have hpm : P.length = m - i0 := by omega
  have hmj : m + j0 ≤ n := by omega
  have hi1 : 0 < i0 := by omega
  have hj1 : 0 < j0 := by omega
  have HST := Lib.hid (show ∃ P' L' R' S', P' ++ (R' ++ (L' ++ S')) = P ++ (R ++ (L ++ S)) ∧ P'.length = m - i0 ∧ L'.length = i0 ∧ R'.length = j0 ∧ OwnF w lo 80 2 twoP (.slice A n c) (P' ++ (L' ++ (R' ++ S'))) from ⟨P, L, R, S, rfl, hpm, hi0, hj0, h⟩)
  clear h ha hm hb hL hR hi0 hj0 hpm
  go_enter Try.func125, Try.ntmps125
  go_wp2_with fail
  go_loopg [10, 11] (i0 + j0) (fun kq v10 v11 w' => ∃ i j : Nat, kq = i + j ∧ 0 < i ∧ 0 < j ∧ i ≤ m ∧ m + j ≤ n ∧ v10 = .int .i64 (i : Int) ∧ v11 = .int .i64 (j : Int) ∧ (∃ P' L' R' S', P' ++ (R' ++ (L' ++ S')) = P ++ (R ++ (L ++ S)) ∧ P'.length = m - i ∧ L'.length = i ∧ R'.length = j ∧ OwnF w' lo 80 2 twoP (.slice A n c) (P' ++ (L' ++ (R' ++ S')))) ∧ Only (OwnB (.slice A n c)) w w')
  case atStart => exact ⟨i0, j0, rfl, hi1, hj1, him, hmj, rfl, rfl, HST.out, Only.refl _ _⟩
  case round =>
    clear HST hw1 hw2 him hmj hi1 hj1
    obtain ⟨i, j, rfl, hi1, hj1, him, hmj, rfl, rfl, ⟨P', L', R', S', hE, hp, hl, hr, hO⟩, hon⟩ := hrel
    have HON := Lib.hid hon
    have HE := Lib.hid hE
    clear hon hE
    obtain ⟨s, hs⟩ : ∃ s, m - i = s := ⟨_, rfl⟩
    have hws : IntKind.i64.wrap ((m : Int) - (i : Int)) = (s : Int) := by rw [i64_w, show (m : Int) - (i : Int) = (s : Int) by omega]; exact wrap64_id _ (by omega)
    rw [hs] at hp
    rcases Nat.lt_trichotomy i j with hij | hij | hij
    · -- the left one is shorter
      obtain ⟨W, V, hWV, hW, hV⟩ : ∃ W V, R' = W ++ V ∧ W.length = j - i ∧ V.length = i := ⟨R'.take (j - i), R'.drop (j - i), (List.take_append_drop _ _).symm, by rw [List.length_take]; omega, by rw [List.length_drop]; omega⟩
      subst hWV
      obtain ⟨t, ht⟩ : ∃ t, m + j - i = t := ⟨_, rfl⟩
      have hwa : IntKind.i64.wrap ((m : Int) + (j : Int)) = (m : Int) + (j : Int) := by rw [i64_w]; exact wrap64_id _ (by omega)
      have hwt : IntKind.i64.wrap ((m : Int) + (j : Int) - (i : Int)) = (t : Int) := by rw [i64_w, show (m : Int) + (j : Int) - (i : Int) = (t : Int) by omega]; exact wrap64_id _ (by omega)
      obtain ⟨j2, hj2⟩ : ∃ j2, j - i = j2 := ⟨_, rfl⟩
      have hwj : IntKind.i64.wrap ((j : Int) - (i : Int)) = (j2 : Int) := by rw [i64_w, show (j : Int) - (i : Int) = (j2 : Int) by omega]; exact wrap64_id _ (by omega)
      have hne : ¬ (i : Int) = (j : Int) := by omega
      have hng : ¬ (j : Int) < (i : Int) := by omega
      have hsw := fun (W1 : World) (hW1 : OwnF W1 lo 80 2 twoP (.slice A n c) (P' ++ (L' ++ (W ++ (V ++ S'))))) => SwapRangeP_calls cv lo A n c s t i P' L' W V S' W1 hW1 hp hl hV (by omega) hn
      have HSW := Lib.hid (hsw wr (by simpa using hO))
      have HE2 := Lib.hid (show P' ++ (W ++ (V ++ (L' ++ S'))) = P ++ (R ++ (L ++ S)) by rw [← HE.out]; simp)
      have HP := Lib.hid hp
      have HL := Lib.hid hl
      have HW := Lib.hid hW
      have HV := Lib.hid hV
      have HS2 := Lib.hid hs
      have hj2p : 0 < j2 := by omega
      have hmj2 : m + j2 ≤ n := by omega
      have hms : i + j2 < i + j := by omega
      clear hsw hO hr hl hp hW hV ht hs HE
      go_wp2_with fail
      refine HSW.out.mono ?_
      rintro e w2 ⟨he, hO2, hon2⟩
      subst he
      have HO2 := Lib.hid hO2
      have HON2 := Lib.hid (HON.out.trans hon2)
      clear hO2 hon2
      go_wp2_with fail
      go_roundg (i + j2)
      case measure => exact hms
      case rel => exact ⟨i, j2, rfl, hi1, hj2p, him, hmj2, rfl, rfl, ⟨P', V, W, L' ++ S', HE2.out, by rw [HP.out, HS2.out], HV.out, by rw [HW.out]; omega, HO2.out⟩, HON2.out⟩
    · -- both are as long: the last exchange
      subst hij
      have HSW := Lib.hid (SwapRangeP_calls cv lo A n c s m i P' L' [] R' S' wr (by simpa using hO) hp hl hr (by simp; omega) hn)
      clear hO hp hl hr hs
      go_wp2_with fail
      refine HSW.out.mono ?_
      rintro e w2 ⟨he, hO2, hon2⟩
      subst he
      rw [List.nil_append, HE.out] at hO2
      have HO2 := Lib.hid hO2
      have HON2 := Lib.hid (HON.out.trans hon2)
      clear hO2 hon2
      go_wp2_with fail
      go_end0
      exact ⟨rfl, HO2.out, HON2.out⟩
    · -- the right one is shorter
      obtain ⟨U, W, hUW, hU, hW⟩ : ∃ U W, L' = U ++ W ∧ U.length = j ∧ W.length = i - j := ⟨L'.take j, L'.drop j, (List.take_append_drop _ _).symm, by rw [List.length_take]; omega, by rw [List.length_drop]; omega⟩
      subst hUW
      obtain ⟨i2, hi2⟩ : ∃ i2, i - j = i2 := ⟨_, rfl⟩
      have hwi : IntKind.i64.wrap ((i : Int) - (j : Int)) = (i2 : Int) := by rw [i64_w, show (i : Int) - (j : Int) = (i2 : Int) by omega]; exact wrap64_id _ (by omega)
      have hne : ¬ (i : Int) = (j : Int) := by omega
      have hng : (j : Int) < (i : Int) := by omega
      have HSW := Lib.hid (SwapRangeP_calls cv lo A n c s m j P' U W R' S' wr (by simpa using hO) hp hU hr (by omega) hn)
      have HE2 := Lib.hid (show (P' ++ R') ++ (U ++ (W ++ S')) = P ++ (R ++ (L ++ S)) by rw [← HE.out]; simp)
      have HP := Lib.hid (show (P' ++ R').length = m - i2 by rw [List.length_append]; omega)
      have HW := Lib.hid (hW.trans hi2)
      have HU := Lib.hid hU
      have hi2p : 0 < i2 := by omega
      have hi2m : i2 ≤ m := by omega
      have hms : i2 + j < i + j := by omega
      clear hO hr hl hp hW hU hs hi2 HE
      go_wp2_with fail
      refine HSW.out.mono ?_
      rintro e w2 ⟨he, hO2, hon2⟩
      subst he
      have HO2 := Lib.hid (show OwnF w2 lo 80 2 twoP (.slice A n c) ((P' ++ R') ++ (W ++ (U ++ S'))) by simpa using hO2)
      have HON2 := Lib.hid (HON.out.trans hon2)
      clear hO2 hon2
      go_wp2_with fail
      go_roundg (i2 + j)
      case measure => exact hms
      case rel => exact ⟨i2, j, rfl, hi2p, hj1, hi2m, hmj, rfl, rfl, ⟨P' ++ R', W, U, S', HE2.out, HP.out, HW.out, HU.out, HO2.out⟩, HON2.out⟩
end Go.Proofs.Ytacgkoclammggaa
