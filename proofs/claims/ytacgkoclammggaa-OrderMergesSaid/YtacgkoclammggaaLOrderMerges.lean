
/-
  The statement OrderMerges: the walk. Conditions: the numbers lie in their kinds' ranges.
-/
import Derived.Test.YtacgkoclammggaaStab10R
import Derived.Test.YtacgkoclammggaaLaw4
namespace Go.Proofs.Ytacgkoclammggaa
open Go.RowKit
set_option linter.unusedVariables false
set_option maxRecDepth 100000
set_option linter.unusedSimpArgs false

theorem merge_sort (a b : List (Int × Int)) : mergeL ltR (sortI ltR (0, 0) a) (sortI ltR (0, 0) b) = sortI ltR (0, 0) (a ++ b) :=
  srt_uniq ltR_wo ltR_anti2 (mergeL_srt ltR_wo _ _ _ (Nat.le_refl _) (sortI_srt ltR_wo a) (sortI_srt ltR_wo b) fun _ _ _ _ => rfl) (sortI_srt ltR_wo _) ((mergeL_perm _ _ _ (Nat.le_refl _)).trans (((sortI_perm a).append (sortI_perm b)).trans (sortI_perm _).symm))
theorem up_sort (a : List (Int × Int)) (i : Nat) (h : i + 1 < (sortI ltR (0, 0) a).length) : UpR (sortI ltR (0, 0) a) i := by
  have hs := sortI_srt (d := (0, 0)) ltR_wo a
  have h2 := List.pairwise_iff_getElem.1 hs i (i + 1) (by omega) h (by omega)
  unfold UpR
  have e1 : (sortI ltR (0, 0) a).getD (i + 1) (0, 0) = (sortI ltR (0, 0) a)[i + 1] := by simp [List.getD, h]
  have e2 : (sortI ltR (0, 0) a).getD i (0, 0) = (sortI ltR (0, 0) a)[i]'(by omega) := by have : i < (sortI ltR (0, 0) a).length := by omega
                                                                                          simp [List.getD, this]
  rw [e1, e2]
  exact h2
set_option maxHeartbeats 6400000 in
set_option maxRecDepth 1000000 in
theorem OrderMerges_law (A : Option Addr) (ca : Nat) (a : List (Int × Int)) (B : Option Addr) (cb : Nat) (b : List (Int × Int)) (C : Option Addr) (cc : Nat) (c : List (Int × Int)) (w : World) (hac : a.length ≤ ca) (ha : RdP w .i64 .i64 A a) (hau : ∀ x ∈ a, (Lit.int .i64 x.1).wf = true ∧ (Lit.int .i64 x.2).wf = true) (hbc : b.length ≤ cb) (hb : RdP w .i64 .i64 B b) (hbu : ∀ x ∈ b, (Lit.int .i64 x.1).wf = true ∧ (Lit.int .i64 x.2).wf = true) (hcc : c.length ≤ cc) (hc : RdP w .i64 .i64 C c) (hcu : ∀ x ∈ c, (Lit.int .i64 x.1).wf = true ∧ (Lit.int .i64 x.2).wf = true) :
    Calls Try.prog 15 #[.slice A a.length ca, .slice B b.length cb, .slice C c.length cc] w fun e w' => e = .returned (.bool true) ∧ Below w.heap.size w w' := by
  have RA0 := Lib.hid ha
  have RB0 := Lib.hid hb
  have RC0 := Lib.hid hc
  clear ha hb hc hau hbu hcu
  obtain ⟨na, hna⟩ : ∃ n, a.length = n := ⟨_, rfl⟩
  obtain ⟨nb, hnb⟩ : ∃ n, b.length = n := ⟨_, rfl⟩
  obtain ⟨nc, hnc⟩ : ∃ n, c.length = n := ⟨_, rfl⟩
  have NA := Lib.hid hna
  have NB := Lib.hid hnb
  have NC := Lib.hid hnc
  rw [hna] at hac ⊢
  rw [hnb] at hbc ⊢
  rw [hnc] at hcc ⊢
  clear hna hnb hnc
  rcases (by omega : 100 < na ∨ (¬ 100 < na ∧ 100 < nb) ∨ (¬ 100 < na ∧ ¬ 100 < nb ∧ 100 < nc) ∨ (¬ 100 < na ∧ ¬ 100 < nb ∧ ¬ 100 < nc)) with h | h | h | h
  · have h_na : decide (100 < (na : Int)) = true := by simp; omega
    go_enter Try.func15, Try.ntmps15
    go_wp2_with fail
    refine (awake4_calls _).mono ?_
    rintro e w1 ⟨he, hb1⟩
    subst he
    go_wp2_with fail
    go_ret
    exact ⟨rfl, hb1⟩
  · have h_na : decide (100 < (na : Int)) = false := by simp; omega
    have h_nb : decide (100 < (nb : Int)) = true := by simp; omega
    go_enter Try.func15, Try.ntmps15
    go_wp2_with fail
    refine (awake4_calls _).mono ?_
    rintro e w1 ⟨he, hb1⟩
    subst he
    go_wp2_with fail
    go_ret
    exact ⟨rfl, hb1⟩
  · have h_na : decide (100 < (na : Int)) = false := by simp; omega
    have h_nb : decide (100 < (nb : Int)) = false := by simp; omega
    have h_nc : decide (100 < (nc : Int)) = true := by simp; omega
    go_enter Try.func15, Try.ntmps15
    go_wp2_with fail
    refine (awake4_calls _).mono ?_
    rintro e w1 ⟨he, hb1⟩
    subst he
    go_wp2_with fail
    go_ret
    exact ⟨rfl, hb1⟩
  · have h_na : decide (100 < (na : Int)) = false := by simp; omega
    have h_nb : decide (100 < (nb : Int)) = false := by simp; omega
    have h_nc : decide (100 < (nc : Int)) = false := by simp; omega
    go_enter Try.func15, Try.ntmps15
    go_wp2_with fail
    refine (awake4_calls _).mono ?_
    rintro e w1 ⟨he, hbn⟩
    subst he
    have BW1 := Lib.hid hbn
    obtain ⟨hna, hnb, hnc⟩ := h
    have RA1 := Lib.hid (RA0.out.below hbn)
    have RB1 := Lib.hid (RB0.out.below hbn)
    have RC1 := Lib.hid (RC0.out.below hbn)
    clear hbn RA0 RB0 RC0
    have hcall := SortSR_calls A ca a w1 RA1.out (by rw [NA.out]; omega) (by simp [List.pairwise_iff_getElem])
    rw [NA.out] at hcall
    have HCALL := Lib.hid hcall
    clear hcall
    go_wp2_with fail
    refine HCALL.out.mono ?_
    rintro e w2 ⟨v, he, hO, hbo⟩
    subst he
    clear HCALL
    obtain ⟨AX, cX, rfl, hcX⟩ := hO.shape
    obtain ⟨LX, hLX⟩ : ∃ X, sortI ltR (0, 0) a = X := ⟨_, rfl⟩
    rw [hLX] at hO hcX ⊢
    obtain ⟨nX, hnX⟩ : ∃ n, LX.length = n := ⟨_, rfl⟩
    rw [hnX] at hO hcX ⊢
    have NX := Lib.hid hnX
    have EX := Lib.hid (show LX = sortI ltR (0, 0) (a) from hLX.symm)
    have hlX : nX ≤ 300 := by rw [← hnX, ← hLX, sortI_length, NA.out]; omega
    have BW2 := Lib.hid (BW1.out.trans (hbo.mono BW1.out.size))
    have RA2 := Lib.hid (RA1.out.below hbo)
    have RB2 := Lib.hid (RB1.out.below hbo)
    have RC2 := Lib.hid (RC1.out.below hbo)
    clear BW1 RA1 RB1 RC1
    have RX2 := Lib.hid (hO.rdp rfl)
    clear hO hbo hLX hnX
    have hcall := SortSR_calls B cb b w2 RB2.out (by rw [NB.out]; omega) (by simp [List.pairwise_iff_getElem])
    rw [NB.out] at hcall
    have HCALL := Lib.hid hcall
    clear hcall
    go_wp2_with fail
    refine HCALL.out.mono ?_
    rintro e w3 ⟨v, he, hO, hbo⟩
    subst he
    clear HCALL
    obtain ⟨AY, cY, rfl, hcY⟩ := hO.shape
    obtain ⟨LY, hLY⟩ : ∃ X, sortI ltR (0, 0) b = X := ⟨_, rfl⟩
    rw [hLY] at hO hcY ⊢
    obtain ⟨nY, hnY⟩ : ∃ n, LY.length = n := ⟨_, rfl⟩
    rw [hnY] at hO hcY ⊢
    have NY := Lib.hid hnY
    have EY := Lib.hid (show LY = sortI ltR (0, 0) (b) from hLY.symm)
    have hlY : nY ≤ 300 := by rw [← hnY, ← hLY, sortI_length, NB.out]; omega
    have BW3 := Lib.hid (BW2.out.trans (hbo.mono BW2.out.size))
    have RA3 := Lib.hid (RA2.out.below hbo)
    have RB3 := Lib.hid (RB2.out.below hbo)
    have RC3 := Lib.hid (RC2.out.below hbo)
    have RX3 := Lib.hid (RX2.out.below hbo)
    clear BW2 RA2 RB2 RC2 RX2
    have RY3 := Lib.hid (hO.rdp rfl)
    clear hO hbo hLY hnY
    have hcall := SortSR_calls C cc c w3 RC3.out (by rw [NC.out]; omega) (by simp [List.pairwise_iff_getElem])
    rw [NC.out] at hcall
    have HCALL := Lib.hid hcall
    clear hcall
    go_wp2_with fail
    refine HCALL.out.mono ?_
    rintro e w4 ⟨v, he, hO, hbo⟩
    subst he
    clear HCALL
    obtain ⟨AZ, cZ, rfl, hcZ⟩ := hO.shape
    obtain ⟨LZ, hLZ⟩ : ∃ X, sortI ltR (0, 0) c = X := ⟨_, rfl⟩
    rw [hLZ] at hO hcZ ⊢
    obtain ⟨nZ, hnZ⟩ : ∃ n, LZ.length = n := ⟨_, rfl⟩
    rw [hnZ] at hO hcZ ⊢
    have NZ := Lib.hid hnZ
    have EZ := Lib.hid (show LZ = sortI ltR (0, 0) (c) from hLZ.symm)
    have hlZ : nZ ≤ 300 := by rw [← hnZ, ← hLZ, sortI_length, NC.out]; omega
    have BW4 := Lib.hid (BW3.out.trans (hbo.mono BW3.out.size))
    have RA4 := Lib.hid (RA3.out.below hbo)
    have RB4 := Lib.hid (RB3.out.below hbo)
    have RC4 := Lib.hid (RC3.out.below hbo)
    have RX4 := Lib.hid (RX3.out.below hbo)
    have RY4 := Lib.hid (RY3.out.below hbo)
    clear BW3 RA3 RB3 RC3 RX3 RY3
    have RZ4 := Lib.hid (hO.rdp rfl)
    clear hO hbo hLZ hnZ
    have hcall := MergeSR_calls AX cX LX AY cY LY w4 RX4.out RY4.out (by rw [NX.out]; omega) (by rw [NY.out]; omega) (by rw [NX.out, NY.out]; omega)
    rw [NX.out, NY.out] at hcall
    have HCALL := Lib.hid hcall
    clear hcall
    go_wp2_with fail
    refine HCALL.out.mono ?_
    rintro e w5 ⟨v, he, hO, hbo⟩
    subst he
    clear HCALL
    obtain ⟨AM, cM, rfl, hcM⟩ := hO.shape
    obtain ⟨LM, hLM⟩ : ∃ X, mergeL ltR LX LY = X := ⟨_, rfl⟩
    rw [hLM] at hO hcM ⊢
    obtain ⟨nM, hnM⟩ : ∃ n, LM.length = n := ⟨_, rfl⟩
    rw [hnM] at hO hcM ⊢
    have NM := Lib.hid hnM
    have EM := Lib.hid (show LM = sortI ltR (0, 0) (a ++ b) from by rw [← hLM, EX.out, EY.out, merge_sort])
    have hlM : nM ≤ 300 := by rw [← hnM, ← hLM, EX.out, EY.out, merge_sort, sortI_length, List.length_append, NA.out, NB.out]; omega
    have BW5 := Lib.hid (BW4.out.trans (hbo.mono BW4.out.size))
    have RA5 := Lib.hid (RA4.out.below hbo)
    have RB5 := Lib.hid (RB4.out.below hbo)
    have RC5 := Lib.hid (RC4.out.below hbo)
    have RX5 := Lib.hid (RX4.out.below hbo)
    have RY5 := Lib.hid (RY4.out.below hbo)
    have RZ5 := Lib.hid (RZ4.out.below hbo)
    clear BW4 RA4 RB4 RC4 RX4 RY4 RZ4
    have RM5 := Lib.hid (hO.rdp rfl)
    clear hO hbo hLM hnM
    obtain ⟨all, hall⟩ : ∃ x, (a ++ b) ++ c = x := ⟨_, rfl⟩
    obtain ⟨n1, hn1⟩ : ∃ x, (a ++ b).length = x := ⟨_, rfl⟩
    obtain ⟨n2, hn2⟩ : ∃ x, all.length = x := ⟨_, rfl⟩
    have HALL := Lib.hid hall
    have HN1 := Lib.hid hn1
    have ND := Lib.hid hn2
    have hl2 : n2 ≤ 300 := by rw [← hn2, ← hall, List.length_append, List.length_append, NA.out, NB.out, NC.out]; omega
    clear hall hn1 hn2
    go_wp2_with (first
      | (at_builtin; refine wpList_appF (q := 2) (f := twoR) _ rfl (.tmp 37) (.tmp 38) 49 41 rfl (.agg #[.int .i64 0, .int .i64 0]) 16 Try.underlying49 infoR rfl (by omega) (by omega) twoR_q twoR_one w5.heap.size (.slice (some ⟨w5.heap.size, 0, none⟩) 0 0) [] rfl A ca a (by rw [NA.out]; rfl) (OwnF.empty_at _ _ _ _ rfl (Nat.le_refl _)) w5 (below_alloc1 (Below.refl _ _) _) (by rw [World.size_alloc]; omega) ((RA5.out.below (below_alloc1 (Below.refl _ _) _)).c) (by have := NA.out; simp; omega) ?_; intro v1 x1 hown _ hbel _ _; rw [List.nil_append] at hown; obtain ⟨A1, c1, hv1, _⟩ := hown.shape; rw [NA.out] at hv1; subst hv1; have HW1 := Lib.hid hown; have HB1 := Lib.hid hbel; clear hown hbel)
      | (at_builtin; refine wpList_appF (q := 2) (f := twoR) _ rfl (.tmp 39) (.tmp 40) 49 41 rfl (.agg #[.int .i64 0, .int .i64 0]) 16 Try.underlying49 infoR rfl (by omega) (by omega) twoR_q twoR_one w5.heap.size (.slice A1 na c1) a rfl B cb b (by rw [NB.out]; rfl) HW1.out w5 HB1.out HB1.out.size ((RB5.out.below HB1.out).c) (by have := NA.out; have := NB.out; omega) ?_; intro v2 x2 hown _ hbel _ _; obtain ⟨A2, c2, hv2, _⟩ := hown.shape; rw [HN1.out] at hv2; subst hv2; have HW2 := Lib.hid hown; have HB2 := Lib.hid hbel; clear hown hbel)
      | (at_builtin; refine wpList_appF (q := 2) (f := twoR) _ rfl (.tmp 41) (.tmp 42) 49 41 rfl (.agg #[.int .i64 0, .int .i64 0]) 16 Try.underlying49 infoR rfl (by omega) (by omega) twoR_q twoR_one w5.heap.size (.slice A2 n1 c2) (a ++ b) rfl C cc c (by rw [NC.out]; rfl) HW2.out w5 HB2.out HB2.out.size ((RC5.out.below HB2.out).c) (by have := NA.out; have := NB.out; have := NC.out; simp; omega) ?_; intro v3 w6 hown _ hbel _ _; rw [HALL.out] at hown; obtain ⟨A3, c3, hv3, hc3⟩ := hown.shape; rw [ND.out] at hv3 hc3; subst hv3; have HW3 := Lib.hid hown; have HB3 := Lib.hid hbel; clear hown hbel))
    have hbo := HB3.out
    have BW6 := Lib.hid (BW5.out.trans (hbo.mono BW5.out.size))
    have RA6 := Lib.hid (RA5.out.below hbo)
    have RB6 := Lib.hid (RB5.out.below hbo)
    have RC6 := Lib.hid (RC5.out.below hbo)
    have RX6 := Lib.hid (RX5.out.below hbo)
    have RY6 := Lib.hid (RY5.out.below hbo)
    have RZ6 := Lib.hid (RZ5.out.below hbo)
    have RM6 := Lib.hid (RM5.out.below hbo)
    clear BW5 RA5 RB5 RC5 RX5 RY5 RZ5 RM5
    have RD6 := Lib.hid (HW3.out.rdp rfl)
    clear hbo HB1 HB2 HB3 HW1 HW2 HW3
    have hcall := SortSR_calls A3 c3 all w6 RD6.out (by rw [ND.out]; omega) (by simp [List.pairwise_iff_getElem])
    rw [ND.out] at hcall
    have HCALL := Lib.hid hcall
    clear hcall
    go_wp2_with fail
    refine HCALL.out.mono ?_
    rintro e w7 ⟨v, he, hO, hbo⟩
    subst he
    clear HCALL
    obtain ⟨AT, cT, rfl, hcT⟩ := hO.shape
    obtain ⟨LT, hLT⟩ : ∃ X, sortI ltR (0, 0) all = X := ⟨_, rfl⟩
    rw [hLT] at hO hcT ⊢
    obtain ⟨nT, hnT⟩ : ∃ n, LT.length = n := ⟨_, rfl⟩
    rw [hnT] at hO hcT ⊢
    have NT := Lib.hid hnT
    have ET := Lib.hid (show LT = sortI ltR (0, 0) (all) from hLT.symm)
    have hlT : nT ≤ 300 := by rw [← hnT, ← hLT, sortI_length, ND.out]; omega
    have BW7 := Lib.hid (BW6.out.trans (hbo.mono BW6.out.size))
    have RA7 := Lib.hid (RA6.out.below hbo)
    have RB7 := Lib.hid (RB6.out.below hbo)
    have RC7 := Lib.hid (RC6.out.below hbo)
    have RX7 := Lib.hid (RX6.out.below hbo)
    have RY7 := Lib.hid (RY6.out.below hbo)
    have RZ7 := Lib.hid (RZ6.out.below hbo)
    have RM7 := Lib.hid (RM6.out.below hbo)
    have RD7 := Lib.hid (RD6.out.below hbo)
    clear BW6 RA6 RB6 RC6 RX6 RY6 RZ6 RM6 RD6
    have RT7 := Lib.hid (hO.rdp rfl)
    clear hO hbo hLT hnT
    have hcall := SortedSR_calls AM cM LM w7 RM7.out (by rw [NM.out]; omega)
    rw [NM.out] at hcall
    have HCALL := Lib.hid hcall
    clear hcall
    go_wp2_with fail
    refine HCALL.out.mono ?_
    rintro e w8 ⟨⟨bq, he, hbe⟩, hbo⟩
    subst he
    have hbt : bq = true := hbe.2 fun i hi => by have h := up_sort (a ++ b) i (by rw [← EM.out, NM.out]; exact hi); rw [← EM.out] at h; exact h
    subst hbt
    clear HCALL hbe
    have hnM : nM = na + nb := by rw [← NM.out, EM.out, sortI_length, List.length_append, NA.out, NB.out]
    have hwab : IntKind.i64.wrap ((na : Int) + (nb : Int)) = (nM : Int) := by rw [i64_w, show (na : Int) + (nb : Int) = (nM : Int) by omega]; exact wrap64_id _ (by omega)
    clear hnM
    have BW8 := Lib.hid (BW7.out.trans (hbo.mono BW7.out.size))
    have RA8 := Lib.hid (RA7.out.below hbo)
    have RB8 := Lib.hid (RB7.out.below hbo)
    have RC8 := Lib.hid (RC7.out.below hbo)
    have RX8 := Lib.hid (RX7.out.below hbo)
    have RY8 := Lib.hid (RY7.out.below hbo)
    have RZ8 := Lib.hid (RZ7.out.below hbo)
    have RM8 := Lib.hid (RM7.out.below hbo)
    have RD8 := Lib.hid (RD7.out.below hbo)
    have RT8 := Lib.hid (RT7.out.below hbo)
    clear BW7 RA7 RB7 RC7 RX7 RY7 RZ7 RM7 RD7 RT7
    clear hbo
    have hcall := MergeSR_calls AM cM LM AZ cZ LZ w8 RM8.out RZ8.out (by rw [NM.out]; omega) (by rw [NZ.out]; omega) (by rw [NM.out, NZ.out]; omega)
    rw [NM.out, NZ.out] at hcall
    have HCALL := Lib.hid hcall
    clear hcall
    go_wp2_with fail
    refine HCALL.out.mono ?_
    rintro e w9 ⟨v, he, hO, hbo⟩
    subst he
    clear HCALL
    obtain ⟨AP, cP, rfl, hcP⟩ := hO.shape
    obtain ⟨LP, hLP⟩ : ∃ X, mergeL ltR LM LZ = X := ⟨_, rfl⟩
    rw [hLP] at hO hcP ⊢
    obtain ⟨nP, hnP⟩ : ∃ n, LP.length = n := ⟨_, rfl⟩
    rw [hnP] at hO hcP ⊢
    have NP := Lib.hid hnP
    have EP := Lib.hid (show LP = sortI ltR (0, 0) (all) from by rw [← hLP, EM.out, EZ.out, merge_sort, HALL.out])
    have hlP : nP ≤ 300 := by rw [← hnP, ← hLP, EM.out, EZ.out, merge_sort, HALL.out, sortI_length, ND.out]; omega
    have BW9 := Lib.hid (BW8.out.trans (hbo.mono BW8.out.size))
    have RA9 := Lib.hid (RA8.out.below hbo)
    have RB9 := Lib.hid (RB8.out.below hbo)
    have RC9 := Lib.hid (RC8.out.below hbo)
    have RX9 := Lib.hid (RX8.out.below hbo)
    have RY9 := Lib.hid (RY8.out.below hbo)
    have RZ9 := Lib.hid (RZ8.out.below hbo)
    have RM9 := Lib.hid (RM8.out.below hbo)
    have RD9 := Lib.hid (RD8.out.below hbo)
    have RT9 := Lib.hid (RT8.out.below hbo)
    clear BW8 RA8 RB8 RC8 RX8 RY8 RZ8 RM8 RD8 RT8
    have RP9 := Lib.hid (hO.rdp rfl)
    clear hO hbo hLP hnP
    have hsm := SameR_calls AP AT cP cT LP LT w9 RP9.out RT9.out
    rw [decide_eq_true (show LP = LT by rw [EP.out, ET.out]), NP.out, NT.out] at hsm
    have HSM := Lib.hid hsm
    clear hsm
    go_wp2_with fail
    refine HSM.out.mono ?_
    rintro e _ ⟨he, q1, rfl⟩
    subst he
    clear HSM
    obtain ⟨w10, hw10⟩ : ∃ W, w9.drewN q1 = W := ⟨_, rfl⟩
    have hbo : Below w9.heap.size w9 w10 := by rw [← hw10]; exact below_drewN_self _ _
    rw [hw10]
    clear hw10
    have BW10 := Lib.hid (BW9.out.trans (hbo.mono BW9.out.size))
    have RA10 := Lib.hid (RA9.out.below hbo)
    have RB10 := Lib.hid (RB9.out.below hbo)
    have RC10 := Lib.hid (RC9.out.below hbo)
    have RX10 := Lib.hid (RX9.out.below hbo)
    have RY10 := Lib.hid (RY9.out.below hbo)
    have RZ10 := Lib.hid (RZ9.out.below hbo)
    have RM10 := Lib.hid (RM9.out.below hbo)
    have RD10 := Lib.hid (RD9.out.below hbo)
    have RT10 := Lib.hid (RT9.out.below hbo)
    have RP10 := Lib.hid (RP9.out.below hbo)
    clear BW9 RA9 RB9 RC9 RX9 RY9 RZ9 RM9 RD9 RT9 RP9
    clear hbo
    have hcall := MergeSR_calls AY cY LY AZ cZ LZ w10 RY10.out RZ10.out (by rw [NY.out]; omega) (by rw [NZ.out]; omega) (by rw [NY.out, NZ.out]; omega)
    rw [NY.out, NZ.out] at hcall
    have HCALL := Lib.hid hcall
    clear hcall
    go_wp2_with fail
    refine HCALL.out.mono ?_
    rintro e w11 ⟨v, he, hO, hbo⟩
    subst he
    clear HCALL
    obtain ⟨AQ, cQ, rfl, hcQ⟩ := hO.shape
    obtain ⟨LQ, hLQ⟩ : ∃ X, mergeL ltR LY LZ = X := ⟨_, rfl⟩
    rw [hLQ] at hO hcQ ⊢
    obtain ⟨nQ, hnQ⟩ : ∃ n, LQ.length = n := ⟨_, rfl⟩
    rw [hnQ] at hO hcQ ⊢
    have NQ := Lib.hid hnQ
    have EQ := Lib.hid (show LQ = sortI ltR (0, 0) (b ++ c) from by rw [← hLQ, EY.out, EZ.out, merge_sort])
    have hlQ : nQ ≤ 300 := by rw [← hnQ, ← hLQ, EY.out, EZ.out, merge_sort, sortI_length, List.length_append, NB.out, NC.out]; omega
    have BW11 := Lib.hid (BW10.out.trans (hbo.mono BW10.out.size))
    have RA11 := Lib.hid (RA10.out.below hbo)
    have RB11 := Lib.hid (RB10.out.below hbo)
    have RC11 := Lib.hid (RC10.out.below hbo)
    have RX11 := Lib.hid (RX10.out.below hbo)
    have RY11 := Lib.hid (RY10.out.below hbo)
    have RZ11 := Lib.hid (RZ10.out.below hbo)
    have RM11 := Lib.hid (RM10.out.below hbo)
    have RD11 := Lib.hid (RD10.out.below hbo)
    have RT11 := Lib.hid (RT10.out.below hbo)
    have RP11 := Lib.hid (RP10.out.below hbo)
    clear BW10 RA10 RB10 RC10 RX10 RY10 RZ10 RM10 RD10 RT10 RP10
    have RQ11 := Lib.hid (hO.rdp rfl)
    clear hO hbo hLQ hnQ
    have hcall := MergeSR_calls AX cX LX AQ cQ LQ w11 RX11.out RQ11.out (by rw [NX.out]; omega) (by rw [NQ.out]; omega) (by rw [NX.out, NQ.out]; omega)
    rw [NX.out, NQ.out] at hcall
    have HCALL := Lib.hid hcall
    clear hcall
    go_wp2_with fail
    refine HCALL.out.mono ?_
    rintro e w12 ⟨v, he, hO, hbo⟩
    subst he
    clear HCALL
    obtain ⟨AV, cV, rfl, hcV⟩ := hO.shape
    obtain ⟨LV, hLV⟩ : ∃ X, mergeL ltR LX LQ = X := ⟨_, rfl⟩
    rw [hLV] at hO hcV ⊢
    obtain ⟨nV, hnV⟩ : ∃ n, LV.length = n := ⟨_, rfl⟩
    rw [hnV] at hO hcV ⊢
    have NV := Lib.hid hnV
    have EV := Lib.hid (show LV = sortI ltR (0, 0) (all) from by rw [← hLV, EX.out, EQ.out, merge_sort, ← List.append_assoc, HALL.out])
    have hlV : nV ≤ 300 := by rw [← hnV, ← hLV, EX.out, EQ.out, merge_sort, ← List.append_assoc, HALL.out, sortI_length, ND.out]; omega
    have BW12 := Lib.hid (BW11.out.trans (hbo.mono BW11.out.size))
    have RA12 := Lib.hid (RA11.out.below hbo)
    have RB12 := Lib.hid (RB11.out.below hbo)
    have RC12 := Lib.hid (RC11.out.below hbo)
    have RX12 := Lib.hid (RX11.out.below hbo)
    have RY12 := Lib.hid (RY11.out.below hbo)
    have RZ12 := Lib.hid (RZ11.out.below hbo)
    have RM12 := Lib.hid (RM11.out.below hbo)
    have RD12 := Lib.hid (RD11.out.below hbo)
    have RT12 := Lib.hid (RT11.out.below hbo)
    have RP12 := Lib.hid (RP11.out.below hbo)
    have RQ12 := Lib.hid (RQ11.out.below hbo)
    clear BW11 RA11 RB11 RC11 RX11 RY11 RZ11 RM11 RD11 RT11 RP11 RQ11
    have RV12 := Lib.hid (hO.rdp rfl)
    clear hO hbo hLV hnV
    have hsm := SameR_calls AV AT cV cT LV LT w12 RV12.out RT12.out
    rw [decide_eq_true (show LV = LT by rw [EV.out, ET.out]), NV.out, NT.out] at hsm
    have HSM := Lib.hid hsm
    clear hsm
    go_wp2_with fail
    refine HSM.out.mono ?_
    rintro e _ ⟨he, q2, rfl⟩
    subst he
    clear HSM
    go_wp2_with fail
    go_ret
    exact ⟨rfl, BW12.out.trans ((below_drewN_self _ q2).mono BW12.out.size)⟩
end Go.Proofs.Ytacgkoclammggaa
