
/-
  The statement TopkParts: the plain law and the walk. Conditions: the numbers lie in their kinds' ranges.
-/
import Derived.Test.YtacgkoclammggaaLaw08
import Derived.Test.YtacgkoclammggaaRef4R
namespace Go.Proofs.Ytacgkoclammggaa
open Go.RowKit
set_option linter.unusedVariables false
set_option maxRecDepth 100000
set_option linter.unusedSimpArgs false

/-! ### the plain law -/
section
variable {α : Type} {lt : α → α → Bool} {d : α}
theorem sort_perm (hw : WO lt) (ha : ∀ a b, lt a b = false → lt b a = false → a = b) {l m : List α} (h : l.Perm m) : sortI lt d l = sortI lt d m :=
  srt_uniq hw ha (sortI_srt hw l) (sortI_srt hw m) ((sortI_perm l).trans (h.trans (sortI_perm m).symm))
theorem sort_lates (hw : WO lt) (ha : ∀ a b, lt a b = false → lt b a = false → a = b) {k : Nat} {es : List α} (R : List α) (h : ∀ x ∈ R, k ≤ es.countP (fun a => !lt x a)) : (sortI lt d (es ++ R)).take k = (sortI lt d es).take k := by
  have key : ∀ R : List α, (∀ x ∈ R, k ≤ es.countP (fun a => !lt x a)) → (sortI lt d (es ++ R)).take k = (sortI lt d es).take k := fun R => by
    refine rev_ind (P := fun R => (∀ x ∈ R, k ≤ es.countP (fun a => !lt x a)) → (sortI lt d (es ++ R)).take k = (sortI lt d es).take k) (fun _ => by simp) (fun R x ih h => ?_) R
    rw [← List.append_assoc, sort_late hw ha (es := es ++ R) (x := x) (Nat.le_trans (h x (by simp)) (by rw [List.countP_append]; omega))]
    exact ih fun y hy => h y (by simp [hy])
  exact key R h
/-- Of one list the first few are enough. -/
theorem sort_cut (hw : WO lt) (ha : ∀ a b, lt a b = false → lt b a = false → a = b) (k : Nat) (l m : List α) : (sortI lt d (m ++ (sortI lt d l).take k)).take k = (sortI lt d (m ++ l)).take k := by
  obtain ⟨T, hT⟩ : ∃ T, sortI lt d l = T := ⟨_, rfl⟩
  have hp : T.Perm l := by rw [← hT]; exact sortI_perm _
  have hs : Srt lt T := by rw [← hT]; exact sortI_srt hw _
  rw [hT, sort_perm hw ha (List.Perm.append_left m hp.symm)]
  conv => rhs; rw [← List.take_append_drop k T, ← List.append_assoc]
  refine (sort_lates hw ha (T.drop k) fun x hx => ?_).symm
  have hkT : k ≤ T.length := by
    by_cases h : k ≤ T.length
    · exact h
    · rw [List.drop_eq_nil_of_le (by omega)] at hx
      cases hx
  have hcr : ∀ a ∈ T.take k, lt x a = false := fun a ha' => by
    have h3 : Srt lt (T.take k ++ T.drop k) := by rw [List.take_append_drop]; exact hs
    exact (List.pairwise_append.1 h3).2.2 a ha' x hx
  rw [List.countP_append]
  have : (T.take k).countP (fun a => !lt x a) = (T.take k).length := by
    rw [List.countP_eq_length]
    intro a ha'
    simp [hcr a ha']
  rw [this, List.length_take]
  omega
theorem sort_parts (hw : WO lt) (ha : ∀ a b, lt a b = false → lt b a = false → a = b) (k : Nat) (l m : List α) : (sortI lt d ((sortI lt d l).take k ++ (sortI lt d m).take k)).take k = (sortI lt d (l ++ m)).take k := by
  rw [sort_cut hw ha k m, sort_perm hw ha (List.perm_append_comm (l₁ := (sortI lt d l).take k) (l₂ := m)), sort_cut hw ha k l, sort_perm hw ha (List.perm_append_comm (l₁ := m) (l₂ := l))]
end
set_option maxHeartbeats 3200000 in
set_option maxRecDepth 1000000 in
theorem TopkParts_law (A : Option Addr) (c : Nat) (l : List (Int × Int)) (B : Option Addr) (d : Nat) (m : List (Int × Int)) (k : Int) (w : World) (hcl : l.length ≤ c) (ha : RdP w .i64 .i64 A l) (hu : ∀ x ∈ l, (Lit.int .i64 x.1).wf = true ∧ (Lit.int .i64 x.2).wf = true) (hdm : m.length ≤ d) (hb : RdP w .i64 .i64 B m) (hv : ∀ x ∈ m, (Lit.int .i64 x.1).wf = true ∧ (Lit.int .i64 x.2).wf = true) (hk : (Lit.int .u8 k).wf = true) :
    Calls Try.prog 9 #[.slice A l.length c, .slice B m.length d, .int .u8 k] w fun e w' => e = .returned (.bool true) ∧ Below w.heap.size w w' := by
  have KA := Lib.hid ha
  have KB := Lib.hid hb
  clear ha hb hu hv
  by_cases h0 : 100 < l.length
  · have h0' : decide (100 < (l.length : Int)) = true := by simp; omega
    go_enter Try.func9, Try.ntmps9
    go_wp2_with fail
    refine (awake8_calls _).mono ?_
    rintro e w1 ⟨he, hb1⟩
    subst he
    go_wp2_with fail
    go_ret
    exact ⟨rfl, hb1⟩
  have h0' : decide (100 < (l.length : Int)) = false := by simp; omega
  by_cases h1 : 100 < m.length
  · have h1' : decide (100 < (m.length : Int)) = true := by simp; omega
    go_enter Try.func9, Try.ntmps9
    go_wp2_with fail
    refine (awake8_calls _).mono ?_
    rintro e w1 ⟨he, hb1⟩
    subst he
    go_wp2_with fail
    go_ret
    exact ⟨rfl, hb1⟩
  have h1' : decide (100 < (m.length : Int)) = false := by simp; omega
  have hwk := wrap_u8 hk
  go_enter Try.func9, Try.ntmps9
  have hbb : Below w.heap.size w w := Below.refl _ _
  have BW_0 := Lib.hid hbb
  have LA_0 := Lib.hid KA.out
  have LB_0 := Lib.hid KB.out
  clear KA KB hbb
  go_wp2_with fail
  refine (awake8_calls _).mono ?_
  rintro e w1 ⟨he, hb1⟩
  subst he
  have BW_1 := Lib.hid (BW_0.out.trans (hb1.mono BW_0.out.size))
  clear BW_0
  have LA_1 := Lib.hid (LA_0.out.below hb1)
  clear LA_0
  have LB_1 := Lib.hid (LB_0.out.below hb1)
  clear LB_0
  clear hb1
  obtain ⟨all, hall⟩ : ∃ Z0, l ++ m = Z0 := ⟨_, rfl⟩
  have hall2 : all.length ≤ 200 := by rw [← hall]; simp; omega
  have Eall := Lib.hid hall
  clear hall
  go_wp2_with (first
    | (at_builtin; refine wpList_appF (q := 2) (f := twoR) _ rfl (.tmp 24) (.tmp 25) 49 41 rfl (.agg #[.int .i64 0, .int .i64 0]) 16 Try.underlying49 infoR rfl (by omega) (by omega) twoR_q twoR_one w1.heap.size (.slice (some ⟨w1.heap.size, 0, none⟩) 0 0) [] rfl A c l rfl (OwnF.empty_at _ _ _ _ rfl (Nat.le_refl _)) w1 (below_alloc1 (Below.refl _ _) _) (by rw [World.size_alloc]; omega) ((LA_1.out.below (below_alloc1 (Below.refl _ _) _)).c) (by simp; omega) ?_; intro v1 w2 hown hgrow hbel hat hnil; obtain ⟨A1, c1, hv1, _⟩ := hown.shape; rw [List.nil_append] at hv1 hown; subst hv1; have HW1 := Lib.hid hown; have HB1 := Lib.hid hbel; clear hown hgrow hbel hat hnil)
    | (at_builtin; refine wpList_appF (q := 2) (f := twoR) _ rfl (.tmp 26) (.tmp 27) 49 41 rfl (.agg #[.int .i64 0, .int .i64 0]) 16 Try.underlying49 infoR rfl (by omega) (by omega) twoR_q twoR_one w1.heap.size (.slice A1 l.length c1) l rfl B d m rfl HW1.out w1 HB1.out HB1.out.size ((LB_1.out.below HB1.out).c) (by omega) ?_; intro v2 w3 hown hgrow hbel hat hnil; rw [Eall.out] at hown; obtain ⟨A2, c2, hv2, hc2⟩ := hown.shape; subst hv2; have HW2 := Lib.hid hown; have HB2 := Lib.hid hbel; clear hown hgrow hbel hat hnil HW1 HB1))
  have BW_2 := Lib.hid (BW_1.out.trans (HB2.out.mono BW_1.out.size))
  clear BW_1
  have LA_2 := Lib.hid (LA_1.out.below HB2.out)
  clear LA_1
  have LB_2 := Lib.hid (LB_1.out.below HB2.out)
  clear LB_1
  have ALL_0 := Lib.hid HW2.out
  clear HW2 HB2
  go_wp2_with fail
  refine (Values_calls A l.length c w3).mono ?_
  rintro e w4 ⟨he, hw⟩
  subst he
  have hbn : Below w3.heap.size w3 w4 := by rw [hw]; exact below_alloc1 (Below.refl _ _) _
  have hbv : w4.heap[w3.heap.size]? = some (.cells #[.slice A l.length c] 49 (0, 0)) := by rw [hw]; exact heap_alloc_new _ _
  clear hw
  have BW_3 := Lib.hid (BW_2.out.trans (hbn.mono BW_2.out.size))
  clear BW_2
  have LA_3 := Lib.hid (LA_2.out.below hbn)
  clear LA_2
  have LB_3 := Lib.hid (LB_2.out.below hbn)
  clear LB_2
  have ALL_1 := Lib.hid (ALL_0.out.keep hbn)
  clear ALL_0
  go_wp2_with fail
  refine (Of_calls k w3.heap.size A c l w4 hbv LA_3.out (by omega)).mono ?_
  rintro e w5 ⟨vO, he, hO, hbo⟩
  subst he
  obtain ⟨AX, cX, rfl, hcX⟩ := hO.shape
  obtain ⟨X, hX⟩ : ∃ X, (sortI ltR (0, 0) l).take k.toNat = X := ⟨_, rfl⟩
  have hlX : X.length ≤ l.length := by rw [← hX, List.length_take, sortI_length]; omega
  rw [hX] at hO hcX ⊢
  have EX := Lib.hid hX
  clear hX hbn hbv
  have BW_4 := Lib.hid (BW_3.out.trans (hbo.mono BW_3.out.size))
  clear BW_3
  have LA_4 := Lib.hid (LA_3.out.below hbo)
  clear LA_3
  have LB_4 := Lib.hid (LB_3.out.below hbo)
  clear LB_3
  have ALL_2 := Lib.hid (ALL_1.out.keep hbo)
  clear ALL_1
  have OX_0 := Lib.hid hO
  clear hO hbo
  go_wp2_with fail
  refine (Values_calls B m.length d w5).mono ?_
  rintro e w6 ⟨he, hw⟩
  subst he
  have hbn : Below w5.heap.size w5 w6 := by rw [hw]; exact below_alloc1 (Below.refl _ _) _
  have hbv : w6.heap[w5.heap.size]? = some (.cells #[.slice B m.length d] 49 (0, 0)) := by rw [hw]; exact heap_alloc_new _ _
  clear hw
  have BW_5 := Lib.hid (BW_4.out.trans (hbn.mono BW_4.out.size))
  clear BW_4
  have LA_5 := Lib.hid (LA_4.out.below hbn)
  clear LA_4
  have LB_5 := Lib.hid (LB_4.out.below hbn)
  clear LB_4
  have ALL_3 := Lib.hid (ALL_2.out.keep hbn)
  clear ALL_2
  have OX_1 := Lib.hid (OX_0.out.keep hbn)
  clear OX_0
  go_wp2_with fail
  refine (Of_calls k w5.heap.size B d m w6 hbv LB_5.out (by omega)).mono ?_
  rintro e w7 ⟨vO, he, hO, hbo⟩
  subst he
  obtain ⟨AY, cY, rfl, hcY⟩ := hO.shape
  obtain ⟨Y, hY⟩ : ∃ X, (sortI ltR (0, 0) m).take k.toNat = X := ⟨_, rfl⟩
  have hlY : Y.length ≤ m.length := by rw [← hY, List.length_take, sortI_length]; omega
  rw [hY] at hO hcY ⊢
  have EY := Lib.hid hY
  clear hY hbn hbv
  have BW_6 := Lib.hid (BW_5.out.trans (hbo.mono BW_5.out.size))
  clear BW_5
  have LA_6 := Lib.hid (LA_5.out.below hbo)
  clear LA_5
  have LB_6 := Lib.hid (LB_5.out.below hbo)
  clear LB_5
  have ALL_4 := Lib.hid (ALL_3.out.keep hbo)
  clear ALL_3
  have OX_2 := Lib.hid (OX_1.out.keep hbo)
  clear OX_1
  have OY_0 := Lib.hid hO
  clear hO hbo
  have RX_0 := Lib.hid (OX_2.out.rdp rfl)
  have RY_0 := Lib.hid (OY_0.out.rdp rfl)
  have RALL_0 := Lib.hid (ALL_4.out.rdp rfl)
  clear OX_2
  clear OY_0
  clear ALL_4
  clear LA_6
  clear LB_6
  obtain ⟨bo, hall⟩ : ∃ Z0, X ++ Y = Z0 := ⟨_, rfl⟩
  have hbo2 : bo.length ≤ 200 := by rw [← hall]; simp; omega
  have Ebo := Lib.hid hall
  clear hall
  go_wp2_with (first
    | (at_builtin; refine wpList_appF (q := 2) (f := twoR) _ rfl (.tmp 37) (.tmp 38) 49 41 rfl (.agg #[.int .i64 0, .int .i64 0]) 16 Try.underlying49 infoR rfl (by omega) (by omega) twoR_q twoR_one w7.heap.size (.slice (some ⟨w7.heap.size, 0, none⟩) 0 0) [] rfl AX cX X rfl (OwnF.empty_at _ _ _ _ rfl (Nat.le_refl _)) w7 (below_alloc1 (Below.refl _ _) _) (by rw [World.size_alloc]; omega) ((RX_0.out.below (below_alloc1 (Below.refl _ _) _)).c) (by simp; omega) ?_; intro v1 w8 hown hgrow hbel hat hnil; obtain ⟨A1, c1, hv1, _⟩ := hown.shape; rw [List.nil_append] at hv1 hown; subst hv1; have HW1 := Lib.hid hown; have HB1 := Lib.hid hbel; clear hown hgrow hbel hat hnil)
    | (at_builtin; refine wpList_appF (q := 2) (f := twoR) _ rfl (.tmp 39) (.tmp 40) 49 41 rfl (.agg #[.int .i64 0, .int .i64 0]) 16 Try.underlying49 infoR rfl (by omega) (by omega) twoR_q twoR_one w7.heap.size (.slice A1 X.length c1) X rfl AY cY Y rfl HW1.out w7 HB1.out HB1.out.size ((RY_0.out.below HB1.out).c) (by omega) ?_; intro v2 w9 hown hgrow hbel hat hnil; rw [Ebo.out] at hown; obtain ⟨A3, c3, hv2, hc3⟩ := hown.shape; subst hv2; have HW2 := Lib.hid hown; have HB2 := Lib.hid hbel; clear hown hgrow hbel hat hnil HW1 HB1))
  have BW_7 := Lib.hid (BW_6.out.trans (HB2.out.mono BW_6.out.size))
  clear BW_6
  have RX_1 := Lib.hid (RX_0.out.below HB2.out)
  clear RX_0
  have RY_1 := Lib.hid (RY_0.out.below HB2.out)
  clear RY_0
  have RALL_1 := Lib.hid (RALL_0.out.below HB2.out)
  clear RALL_0
  have BO_0 := Lib.hid HW2.out
  clear HW2 HB2
  have RBO_0 := Lib.hid (BO_0.out.rdp rfl)
  clear BO_0
  clear RX_1
  clear RY_1
  go_wp2_with fail
  refine (Values_calls A3 bo.length c3 w9).mono ?_
  rintro e w10 ⟨he, hw⟩
  subst he
  have hbn : Below w9.heap.size w9 w10 := by rw [hw]; exact below_alloc1 (Below.refl _ _) _
  have hbv : w10.heap[w9.heap.size]? = some (.cells #[.slice A3 bo.length c3] 49 (0, 0)) := by rw [hw]; exact heap_alloc_new _ _
  clear hw
  have BW_8 := Lib.hid (BW_7.out.trans (hbn.mono BW_7.out.size))
  clear BW_7
  have RALL_2 := Lib.hid (RALL_1.out.below hbn)
  clear RALL_1
  have RBO_1 := Lib.hid (RBO_0.out.below hbn)
  clear RBO_0
  go_wp2_with fail
  refine (Of_calls k w9.heap.size A3 c3 bo w10 hbv RBO_1.out (by omega)).mono ?_
  rintro e w11 ⟨vO, he, hO, hbo⟩
  subst he
  obtain ⟨AP, cP, rfl, hcP⟩ := hO.shape
  obtain ⟨P, hP⟩ : ∃ X, (sortI ltR (0, 0) bo).take k.toNat = X := ⟨_, rfl⟩
  have hlP : P.length ≤ bo.length := by rw [← hP, List.length_take, sortI_length]; omega
  rw [hP] at hO hcP ⊢
  have EP := Lib.hid hP
  clear hP hbn hbv
  have BW_9 := Lib.hid (BW_8.out.trans (hbo.mono BW_8.out.size))
  clear BW_8
  have RALL_3 := Lib.hid (RALL_2.out.below hbo)
  clear RALL_2
  have RBO_2 := Lib.hid (RBO_1.out.below hbo)
  clear RBO_1
  have OP_0 := Lib.hid hO
  clear hO hbo
  clear RBO_2
  go_wp2_with fail
  refine (Values_calls A2 all.length c2 w11).mono ?_
  rintro e w12 ⟨he, hw⟩
  subst he
  have hbn : Below w11.heap.size w11 w12 := by rw [hw]; exact below_alloc1 (Below.refl _ _) _
  have hbv : w12.heap[w11.heap.size]? = some (.cells #[.slice A2 all.length c2] 49 (0, 0)) := by rw [hw]; exact heap_alloc_new _ _
  clear hw
  have BW_10 := Lib.hid (BW_9.out.trans (hbn.mono BW_9.out.size))
  clear BW_9
  have RALL_4 := Lib.hid (RALL_3.out.below hbn)
  clear RALL_3
  have OP_1 := Lib.hid (OP_0.out.keep hbn)
  clear OP_0
  go_wp2_with fail
  refine (Of_calls k w11.heap.size A2 c2 all w12 hbv RALL_4.out (by omega)).mono ?_
  rintro e w13 ⟨vO, he, hO, hbo⟩
  subst he
  obtain ⟨AQ, cQ, rfl, hcQ⟩ := hO.shape
  obtain ⟨Q, hQ⟩ : ∃ X, (sortI ltR (0, 0) all).take k.toNat = X := ⟨_, rfl⟩
  have hlQ : Q.length ≤ all.length := by rw [← hQ, List.length_take, sortI_length]; omega
  rw [hQ] at hO hcQ ⊢
  have EQ := Lib.hid hQ
  clear hQ hbn hbv
  have BW_11 := Lib.hid (BW_10.out.trans (hbo.mono BW_10.out.size))
  clear BW_10
  have RALL_5 := Lib.hid (RALL_4.out.below hbo)
  clear RALL_4
  have OP_2 := Lib.hid (OP_1.out.keep hbo)
  clear OP_1
  have OQ_0 := Lib.hid hO
  clear hO hbo
  have hPQ : P = Q := by
    rw [← EP.out, ← EQ.out, ← Ebo.out, ← Eall.out, ← EX.out, ← EY.out]
    exact sort_parts ltR_wo ltR_anti2 k.toNat l m
  subst hPQ
  have hsm := SameR_calls AP AQ cP cQ P P _ (OP_2.out.rdp rfl) (OQ_0.out.rdp rfl)
  rw [decide_eq_true (rfl : P = P)] at hsm
  go_wp2_with fail
  refine hsm.mono ?_
  rintro e _ ⟨he, q, rfl⟩
  subst he
  go_wp2_with fail
  go_ret
  exact ⟨rfl, BW_11.out.trans ((below_drewN_self _ q).mono BW_11.out.size)⟩
end Go.Proofs.Ytacgkoclammggaa
