
/-
  slices.Clone, slices.SortStableFunc, order.by, order.Sort over shelterbelt/shelterbeltref04.Pair: a list in order, those of which neither is first as they stood. Conditions: the slice reads as the list; what stands ahead may stand ahead.
-/
import Derived.Test.YtacgkoclammggaaStab7P
import Derived.Test.YtacgkoclammggaaLaw08
namespace Go.Proofs.Ytacgkoclammggaa
open Go.RowKit
set_option linter.unusedVariables false
set_option maxRecDepth 100000
set_option linter.unusedSimpArgs false
attribute [local go_sem] Oper.semAt_some

set_option maxHeartbeats 3200000 in
set_option maxRecDepth 1000000 in
theorem CloneP_calls (A : Option Addr) (c : Nat) (xs : List (Int × Int)) (w : World) (ha : RdP w .i64 .i64 A xs) (hl : xs.length ≤ 100000) :
    Calls Try.prog 103 #[.slice A xs.length c] w fun e w' => ∃ v, e = .returned v ∧ OwnF w' w.heap.size 80 2 twoP v xs ∧ Below w.heap.size w w' := by
  have KA := Lib.hid ha
  clear ha
  have heq := fun (w : World) (a : Option Addr) (n c : Nat) => Lib.run_eql_slice_nil (P := Try.prog) w 82 80 a n c 0 0 Try.underlying82
  cases A with
  | none =>
    have hx : xs = [] := by
      have h := KA.out.2
      cases xs with
      | nil => rfl
      | cons x xs => obtain ⟨ad, h1, _⟩ := h 0 (by simp); cases h1
    subst hx
    go_enter Try.func103, Try.ntmps103
    go_wp2_with fail
    go_ret
    exact ⟨_, rfl, OwnF.nil _ _ _, Below.refl _ _⟩
  | some ad =>
    go_enter Try.func103, Try.ntmps103
    go_wp2_with (first
      | (at_builtin; refine wpList_appF (q := 2) (f := twoP) _ rfl (.tmp 5) (.tmp 6) 82 80 rfl (.agg #[.int .i64 0, .int .i64 0]) 16 Try.underlying82 infoP rfl (by omega) (by omega) twoP_q twoP_one w.heap.size (.slice (some ⟨w.heap.size, 0, none⟩) 0 0) [] rfl (some ad) c xs rfl (OwnF.empty_at _ _ _ _ rfl (Nat.le_refl _)) w (below_alloc1 (Below.refl _ _) _) (by rw [World.size_alloc]; omega) ((KA.out.below (below_alloc1 (Below.refl _ _) _)).c) (by simp; omega) ?_; intro vW w4 hown hgrow hbel hat hnil; rw [List.nil_append] at hown; obtain ⟨AW, cW, hvW, hcW⟩ := hown.shape; subst hvW; have HW1 := Lib.hid hown; have HB1 := Lib.hid hbel; clear hown hgrow hbel hat hnil))
    go_ret
    exact ⟨_, rfl, HW1.out, HB1.out⟩
theorem ByP_calls (w : World) : Calls Try.prog 105 #[.func (.func 48) #[] #[]] w fun e w' => ∃ bf, e = .returned (cmpP bf) ∧ w.heap.size ≤ bf ∧ CmP w' bf ∧ Below w.heap.size w w' := by
  go_enter Try.func105, Try.ntmps105
  go_wp2_with fail
  go_ret
  exact ⟨_, rfl, Nat.le_refl _, by unfold CmP World.cell?; rw [heap_alloc_new]; rfl, below_alloc1 (Below.refl _ _) _⟩
theorem SsfP_calls (bf lo : Nat) (A : Option Addr) (n c : Nat) (xs : List (Int × Int)) (w : World) (h : OwnF w lo 80 2 twoP (.slice A n c) xs) (hc : CmP w bf) (hf : ¬ OwnB (.slice A n c) bf) (hB : xs.Pairwise BeP) (hn : n ≤ 100000) :
    Calls Try.prog 104 #[.slice A n c, cmpP bf] w fun e w' => e = .returned (.tuple #[]) ∧ (∃ Z, Z.Perm xs ∧ Srt lexP Z ∧ OwnF w' lo 80 2 twoP (.slice A n c) Z) ∧ Only (OwnB (.slice A n c)) w w' := by
  have HST := Lib.hid (StableP_calls bf lo A n c xs w h hc hf hB hn)
  clear h hc hf hB
  go_enter Try.func104, Try.ntmps104
  go_wp2_with fail
  refine HST.out.mono ?_
  rintro e w1 ⟨he, hz, hon⟩
  subst he
  have HZ := Lib.hid hz
  have HON := Lib.hid hon
  clear hz hon
  go_wp2_with fail
  go_end0
  exact ⟨rfl, HZ.out, HON.out⟩
set_option maxHeartbeats 3200000 in
theorem SortSP_calls (A : Option Addr) (c : Nat) (xs : List (Int × Int)) (w : World) (ha : RdP w .i64 .i64 A xs) (hl : xs.length ≤ 100000) (hB : xs.Pairwise BeP) :
    Calls Try.prog 61 #[.func (.func 48) #[] #[], .slice A xs.length c] w fun e w' => ∃ v, e = .returned v ∧ OwnF w' w.heap.size 80 2 twoP v (sortI lexP (0, 0) xs) ∧ Below w.heap.size w w' := by
  have HCL := Lib.hid (CloneP_calls A c xs w ha hl)
  have HBE := Lib.hid hB
  clear ha hB
  go_enter Try.func61, Try.ntmps61
  go_wp2_with fail
  refine HCL.out.mono ?_
  rintro e w1 ⟨v, he, hO, hb1⟩
  subst he
  obtain ⟨A1, c1, rfl, hc1⟩ := hO.shape
  have HO := Lib.hid hO
  have HB1 := Lib.hid hb1
  clear hO hb1 HCL
  go_wp2_with fail
  refine (ByP_calls w1).mono ?_
  rintro e w2 ⟨bf, he, hbf, hcm, hb2⟩
  subst he
  have hfb : ¬ OwnB (.slice A1 xs.length c1) bf := fun h => by have := (HO.out.lt bf h).2; omega
  have HST := Lib.hid (SsfP_calls bf w.heap.size A1 xs.length c1 xs w2 (HO.out.keep hb2) hcm hfb HBE.out hl)
  have HB2 := Lib.hid (HB1.out.trans (hb2.mono HB1.out.size))
  have HLO := Lib.hid (show ∀ k, k < w.heap.size → ¬ OwnB (.slice A1 xs.length c1) k from fun k hk h => by have := (HO.out.lt k h).1; omega)
  clear hcm hfb hb2 hbf
  go_wp2_with fail
  refine HST.out.mono ?_
  rintro e w3 ⟨he, ⟨Z, hz, hs, hO3⟩, hon3⟩
  subst he
  have hZ : Z = sortI lexP (0, 0) xs := srt_uniq lexP_wo lexP_anti hs (sortI_srt lexP_wo xs) (hz.trans (sortI_perm xs).symm)
  rw [hZ] at hO3
  have HO3 := Lib.hid hO3
  have HB3 := Lib.hid (HB2.out.trans (hon3.below HB2.out.size HLO.out))
  clear hO3 hz hs hZ hon3 HST
  go_wp2_with fail
  go_ret
  exact ⟨_, rfl, HO3.out, HB3.out⟩
end Go.Proofs.Ytacgkoclammggaa
