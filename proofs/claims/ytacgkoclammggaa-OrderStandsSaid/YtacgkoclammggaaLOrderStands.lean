
/-
  The statement OrderStands: the walk. Conditions: the numbers lie in their kinds' ranges.
-/
import Derived.Test.YtacgkoclammggaaStab10P
import Derived.Test.YtacgkoclammggaaLaw4
import Derived.Test.YtacgkoclammggaaLexP
namespace Go.Proofs.Ytacgkoclammggaa
open Go.RowKit
set_option linter.unusedVariables false
set_option maxRecDepth 100000
set_option linter.unusedSimpArgs false

/-! ### the plain law -/
theorem prs_append (o : Nat) (a b : List Int) : prs o (a ++ b) = prs o a ++ prs (o + a.length) b := by
  simp [prs, List.zipIdx_append, Nat.add_comm]
theorem prs_mem {o : Nat} {l : List Int} {x : Int × Int} (h : x ∈ prs o l) : (o : Int) ≤ x.2 ∧ x.2 < ((o + l.length : Nat) : Int) := by
  obtain ⟨i, hi, e⟩ := List.mem_iff_getElem.1 h
  have h1 := prs_at o l i
  rw [prs_length] at hi
  rw [List.getElem?_eq_getElem (by rw [prs_length]; exact hi), List.getElem?_eq_getElem hi] at h1
  simp only [Option.map_some, Option.some.injEq] at h1
  rw [← e, h1]
  simp only
  omega
theorem stands_merge (a b : List Int) : mergeL ltP (sortI lexP (0, 0) (prs 0 a)) (sortI lexP (0, 0) (prs a.length b)) = sortI lexP (0, 0) (prs 0 a ++ prs a.length b) :=
  srt_uniq lexP_wo lexP_anti (mergeL_srt lexP_wo _ _ _ (Nat.le_refl _) (sortI_srt lexP_wo _) (sortI_srt lexP_wo _) fun x hx y hy => lexP_late (by
    have h1 := prs_mem ((sortI_perm _).subset hx)
    have h2 := prs_mem ((sortI_perm _).subset hy)
    omega)) (sortI_srt lexP_wo _) ((mergeL_perm _ _ _ (Nat.le_refl _)).trans (((sortI_perm _).append (sortI_perm _)).trans (sortI_perm _).symm))
theorem stands_all (a b : List Int) : sortI ltP (0, 0) (prs 0 a ++ prs a.length b) = sortI lexP (0, 0) (prs 0 a ++ prs a.length b) := by
  have h := prs_append 0 a b
  rw [Nat.zero_add] at h
  rw [← h]
  exact sort_lex (prs_sorted 0 _)
theorem up_lex (p : List (Int × Int)) (i : Nat) (h : i + 1 < (sortI lexP (0, 0) p).length) : UpP (sortI lexP (0, 0) p) i := by
  have hs := sortI_srt (d := (0, 0)) lexP_wo p
  have h2 := List.pairwise_iff_getElem.1 hs i (i + 1) (by omega) h (by omega)
  unfold UpP
  have e1 : (sortI lexP (0, 0) p).getD (i + 1) (0, 0) = (sortI lexP (0, 0) p)[i + 1] := by simp [List.getD, h]
  have hil : i < (sortI lexP (0, 0) p).length := by omega
  have e2 : (sortI lexP (0, 0) p).getD i (0, 0) = (sortI lexP (0, 0) p)[i]'hil := by simp [List.getD, hil]
  rw [e1, e2]
  rw [lexP_no] at h2
  rw [ltP_no]
  omega
theorem up_prs (a : List Int) (i : Nat) (h : i + 1 < a.length) : UpP (prs 0 a) i ↔ a.getD i 0 ≤ a.getD (i + 1) 0 := by
  unfold UpP
  have key : ∀ j, j < a.length → ((prs 0 a).getD j (0, 0)).1 = a.getD j 0 := fun j hj => by
    simp only [List.getD, prs_at]
    rw [List.getElem?_eq_getElem hj]
    rfl
  rw [ltP_no, key (i + 1) h, key i (by omega)]
  omega
/-! ### whether none falls -/
def RisePost (xs : List Int) (n : Nat) (e : Ending) : Prop := ∃ b, e = .returned (.bool b) ∧ (b = true ↔ ∀ i, i + 1 < n → xs.getD i 0 ≤ xs.getD (i + 1) 0)
set_option maxHeartbeats 3200000 in
theorem rises_calls (A : Option Addr) (c : Nat) (xs : List Int) (w : World) (ha : Rd w .i64 A xs) (hl : xs.length ≤ 100000) :
    Calls Try.prog 64 #[.slice A xs.length c] w fun e w' => RisePost xs xs.length e ∧ ∃ n, w' = w.drewN n := by
  have KA := Lib.hid ha
  clear ha
  obtain ⟨n, hn⟩ : ∃ n, xs.length = n := ⟨_, rfl⟩
  have HN := Lib.hid hn
  rw [hn] at hl ⊢
  clear hn
  go_enter Try.func64, Try.ntmps64
  go_wp2_with fail
  go_loopg [3] n (fun kq v2 w' => ∃ j : Nat, v2 = .int .i64 ((j + 1 : Nat) : Int) ∧ j + kq = n ∧ (∀ i, i < j → i + 1 < n → xs.getD i 0 ≤ xs.getD (i + 1) 0) ∧ ∃ q, w' = w.drewN q)
  case atStart => exact ⟨0, rfl, by omega, fun i h => by omega, 0, rfl⟩
  case round =>
    obtain ⟨j, rfl, hjk, hup, q, rfl⟩ := hrel
    have HUP := Lib.hid hup
    clear hup
    by_cases h0 : j + 1 < n
    · obtain ⟨k1, rfl⟩ : ∃ k1, gk = k1 + 1 := ⟨gk - 1, by omega⟩
      have b1 : ((j + 1 : Nat) : Int) < (n : Int) := by omega
      have b0 : (j : Int) < (n : Int) := by omega
      have hwj : IntKind.i64.wrap (((j + 1 : Nat) : Int) - 1) = (j : Int) := by rw [i64_w, show ((j + 1 : Nat) : Int) - 1 = (j : Int) by omega]; exact wrap64_id _ (by omega)
      obtain ⟨ad, rfl, hx⟩ := KA.out.2 (j + 1) (by rw [HN.out]; exact h0)
      obtain ⟨ad', had, hy⟩ := KA.out.2 j (by rw [HN.out]; omega)
      injection had with had
      subst had
      obtain ⟨x, hx0⟩ : ∃ x, xs.getD (j + 1) 0 = x := ⟨_, rfl⟩
      obtain ⟨y, hy0⟩ : ∃ y, xs.getD j 0 = y := ⟨_, rfl⟩
      rw [hx0] at hx
      rw [hy0] at hy
      have HX := Lib.hid hx0
      have HY := Lib.hid hy0
      obtain ⟨j1, hj1⟩ : ∃ j1, j + 1 = j1 := ⟨_, rfl⟩
      have HJ1 := Lib.hid hj1
      have hwi : IntKind.i64.wrap ((j1 : Int) + 1) = ((j1 + 1 : Nat) : Int) := by rw [i64_w]; exact wrap64_id _ (by omega)
      rw [hj1] at hx b1 hwj ⊢
      clear hx0 hy0 hj1
      by_cases hf : x < y
      · go_wp2_with fail
        go_quiet (fail)
        go_wp2_with fail
        go_ret
        exact ⟨⟨false, rfl, (fun h => by cases h), fun h => by have h2 := h j (by have := HJ1.out; omega); rw [HX.out, HY.out] at h2; omega⟩, ⟨_, World.drewN_drewN ..⟩⟩
      · go_wp2_with fail
        go_quiet (fail)
        go_wp2_with fail
        go_roundg k1
        case measure => omega
        case rel =>
          refine ⟨j1, by rfl, by have := HJ1.out; omega, fun i hi hi2 => ?_, ⟨_, rfl⟩⟩
          have := HJ1.out
          rcases Nat.lt_or_ge i j with h | h
          · exact HUP.out i h hi2
          · obtain rfl : i = j := by omega
            rw [HX.out, HY.out]
            omega
    · have b1 : ¬ ((j + 1 : Nat) : Int) < (n : Int) := by omega
      go_wp2_with fail
      go_ret
      exact ⟨⟨true, rfl, fun _ i hi => HUP.out i (by omega) hi, fun _ => rfl⟩, _, rfl⟩
set_option maxHeartbeats 6400000 in
set_option maxRecDepth 1000000 in
theorem OrderStands_law (A : Option Addr) (ca : Nat) (a : List Int) (B : Option Addr) (cb : Nat) (b : List Int) (w : World) (hac : a.length ≤ ca) (ha : Rd w .i64 A a) (hau : ∀ n ∈ a, (Lit.int .i64 n).wf = true) (hna : A = none → a = [] ∧ ca = 0) (hsa : a.length * 8 ≤ 140737488351232) (hbc : b.length ≤ cb) (hb : Rd w .i64 B b) (hbu : ∀ n ∈ b, (Lit.int .i64 n).wf = true) (hnb : B = none → b = [] ∧ cb = 0) (hsb : b.length * 8 ≤ 140737488351232) :
    Calls Try.prog 14 #[.slice A a.length ca, .slice B b.length cb] w fun e w' => e = .returned (.bool true) ∧ Below w.heap.size w w' := by
  have RA0 := Lib.hid ha
  have RB0 := Lib.hid hb
  clear ha hb hau hbu hsa hsb hna hnb
  obtain ⟨na, hna⟩ : ∃ n, a.length = n := ⟨_, rfl⟩
  obtain ⟨nb, hnb⟩ : ∃ n, b.length = n := ⟨_, rfl⟩
  have NA := Lib.hid hna
  have NB := Lib.hid hnb
  rw [hna] at hac ⊢
  rw [hnb] at hbc ⊢
  clear hna hnb
  rcases (by omega : 100 < na ∨ (¬ 100 < na ∧ 100 < nb) ∨ (¬ 100 < na ∧ ¬ 100 < nb)) with h | h | h
  · have h_na : decide (100 < (na : Int)) = true := by simp; omega
    go_enter Try.func14, Try.ntmps14
    go_wp2_with fail
    refine (awake4_calls _).mono ?_
    rintro e w1 ⟨he, hb1⟩
    subst he
    go_wp2_with fail
    go_ret
    exact ⟨rfl, hb1⟩
  · have h_na : decide (100 < (na : Int)) = false := by simp; omega
    have h_nb : decide (100 < (nb : Int)) = true := by simp; omega
    go_enter Try.func14, Try.ntmps14
    go_wp2_with fail
    refine (awake4_calls _).mono ?_
    rintro e w1 ⟨he, hb1⟩
    subst he
    go_wp2_with fail
    go_ret
    exact ⟨rfl, hb1⟩
  · have h_na : decide (100 < (na : Int)) = false := by simp; omega
    have h_nb : decide (100 < (nb : Int)) = false := by simp; omega
    go_enter Try.func14, Try.ntmps14
    go_wp2_with fail
    refine (awake4_calls _).mono ?_
    rintro e w1 ⟨he, hbn⟩
    subst he
    have BW1 := Lib.hid hbn
    obtain ⟨hna, hnb⟩ := h
    have RA1 := Lib.hid (RA0.out.below hbn)
    have RB1 := Lib.hid (RB0.out.below hbn)
    clear hbn RA0 RB0
    go_wp2_with fail
    go_loopg [5, 7] na (fun kq vl vi w' => kq ≤ na ∧ vi = .int .i64 ((na - kq : Nat) : Int) ∧ OwnF w' w1.heap.size 80 2 twoP vl (prs 0 (a.take (na - kq))) ∧ Below w1.heap.size w1 w')
    case atStart => exact ⟨Nat.le_refl _, by simp, by simp [prs]; exact OwnF.nil _ _ _, Below.refl _ _⟩
    case round =>
      obtain ⟨hkq, rfl, hO, hB⟩ := hrel
      have HB := Lib.hid hB
      clear hB
      cases gk with
      | succ k1 =>
        obtain ⟨i, hi⟩ : ∃ i, na - (k1 + 1) = i := ⟨_, rfl⟩
        have hi2 : na - k1 = i + 1 := by omega
        have HI := Lib.hid hi2
        have hiN : i < na := by omega
        have bi : (i : Int) < (na : Int) := by omega
        rw [hi] at hO ⊢
        clear hi hi2
        obtain ⟨P, hP⟩ : ∃ P, prs 0 (a.take i) = P := ⟨_, rfl⟩
        have hPl : P.length = i := by rw [← hP, prs_length, List.length_take, NA.out]; omega
        obtain ⟨x, hx⟩ : ∃ x, a.getD i 0 = x := ⟨_, rfl⟩
        obtain ⟨pl, hpl⟩ : ∃ pl : Int, ((0 + i : Nat) : Int) = pl := ⟨_, rfl⟩
        have hP1 : prs 0 (a.take (i + 1)) = P ++ [(x, pl)] := by
          rw [List.take_add_one, getF (d := (0 : Int)) (by rw [NA.out]; exact hiN), hx, Option.toList_some, prs_snoc, hP, List.length_take, NA.out, Nat.min_eq_left (by omega), hpl]
        rw [hP] at hO
        obtain ⟨Ao, co, rfl, hoc⟩ := hO.shape
        rw [hPl] at hO hoc ⊢
        obtain ⟨ad, rfl, hca⟩ := (RA1.out.below HB.out).2 i (by rw [NA.out]; exact hiN)
        rw [hx] at hca
        obtain rfl : pl = (i : Int) := by omega
        have HO := Lib.hid hO
        have HP1 := Lib.hid hP1
        have HPL := Lib.hid hPl
        have hzw := HB.out.size
        clear hP hP1 hPl hx hO
        go_wp2_with (first
          | (at_builtin; refine wpList_appF (q := 2) (f := twoP) _ rfl (.tmp 28) (.tmp 35) 82 80 rfl (.agg #[.int .i64 0, .int .i64 0]) 16 Try.underlying82 infoP rfl (by omega) (by omega) twoP_q twoP_one w1.heap.size (.slice Ao i co) P rfl (some ⟨wr.heap.size, 0, none⟩) 1 [(x, (i : Int))] rfl (HO.out.alloc1 _) w1 (below_alloc1 HB.out _) (by rw [World.size_alloc]; omega) (RdC.block (cs := #[.int .i64 x, .int .i64 (i : Int)]) (heap_alloc_new _ _)) (by have := HPL.out; simp; omega) ?_; intro v6 W5 hown hgrow hbel hat hnil; obtain ⟨A6, c6, hv6, _⟩ := hown.shape; subst hv6; have HO6 := Lib.hid hown; have HB6 := Lib.hid hbel; clear hown hgrow hbel hat hnil))
        go_roundg k1
        case measure => omega
        case rel => exact ⟨by omega, by rw [HI.out]; simp, by rw [HI.out, HP1.out]; have h := HO6.out; rw [List.length_append, List.length_singleton] at h; exact h, HB6.out⟩
      | zero =>
        simp only [Nat.sub_zero] at hO ⊢
        rw [List.take_of_length_le (by rw [NA.out]; exact Nat.le_refl _)] at hO
        have hlt0 : ¬ ((na : Int) < (na : Int)) := by omega
        rename World => w2
        obtain ⟨Al, cl, rfl, hlc⟩ := hO.shape
        obtain ⟨l, hl⟩ : ∃ l, prs 0 a = l := ⟨_, rfl⟩
        have hll : l.length = na := by rw [← hl, prs_length, NA.out]
        rw [hl] at hO hlc ⊢
        rw [hll] at hO hlc ⊢
        have EL := Lib.hid hl
        have NL := Lib.hid hll
        have RL := Lib.hid (hO.rdp rfl)
        have RB2 := Lib.hid (RB1.out.below HB.out)
        have RA2 := Lib.hid (RA1.out.below HB.out)
        have BW2 := Lib.hid (BW1.out.trans (HB.out.mono BW1.out.size))
        clear hO hl hll RB1 RA1 BW1 HB hlt0 hkq
        go_wp2_with fail
        go_loopg [6, 8] nb (fun kq vl vi w' => kq ≤ nb ∧ vi = .int .i64 ((nb - kq : Nat) : Int) ∧ OwnF w' w2.heap.size 80 2 twoP vl (prs na (b.take (nb - kq))) ∧ Below w2.heap.size w2 w')
        case atStart => exact ⟨Nat.le_refl _, by simp, by simp [prs]; exact OwnF.nil _ _ _, Below.refl _ _⟩
        case round =>
          obtain ⟨hkq, rfl, hO, hB⟩ := hrel
          have HB := Lib.hid hB
          clear hB
          cases gk with
          | succ k1 =>
            obtain ⟨i, hi⟩ : ∃ i, nb - (k1 + 1) = i := ⟨_, rfl⟩
            have hi2 : nb - k1 = i + 1 := by omega
            have HI := Lib.hid hi2
            have hiN : i < nb := by omega
            have bi : (i : Int) < (nb : Int) := by omega
            rw [hi] at hO ⊢
            clear hi hi2
            obtain ⟨P, hP⟩ : ∃ P, prs na (b.take i) = P := ⟨_, rfl⟩
            have hPl : P.length = i := by rw [← hP, prs_length, List.length_take, NB.out]; omega
            obtain ⟨x, hx⟩ : ∃ x, b.getD i 0 = x := ⟨_, rfl⟩
            obtain ⟨pl, hpl⟩ : ∃ pl : Int, ((na + i : Nat) : Int) = pl := ⟨_, rfl⟩
            have hP1 : prs na (b.take (i + 1)) = P ++ [(x, pl)] := by
              rw [List.take_add_one, getF (d := (0 : Int)) (by rw [NB.out]; exact hiN), hx, Option.toList_some, prs_snoc, hP, List.length_take, NB.out, Nat.min_eq_left (by omega), hpl]
            rw [hP] at hO
            obtain ⟨Ao, co, rfl, hoc⟩ := hO.shape
            rw [hPl] at hO hoc ⊢
            obtain ⟨ad, rfl, hca⟩ := (RB2.out.below HB.out).2 i (by rw [NB.out]; exact hiN)
            rw [hx] at hca
            have hwp : IntKind.i64.wrap ((na : Int) + (i : Int)) = pl := by rw [i64_w, show (na : Int) + (i : Int) = pl by omega]; exact wrap64_id _ (by omega)
            have HO := Lib.hid hO
            have HP1 := Lib.hid hP1
            have HPL := Lib.hid hPl
            have hzw := HB.out.size
            clear hP hP1 hPl hx hO hpl
            go_wp2_with (first
              | (at_builtin; refine wpList_appF (q := 2) (f := twoP) _ rfl (.tmp 43) (.tmp 53) 82 80 rfl (.agg #[.int .i64 0, .int .i64 0]) 16 Try.underlying82 infoP rfl (by omega) (by omega) twoP_q twoP_one w2.heap.size (.slice Ao i co) P rfl (some ⟨wr.heap.size, 0, none⟩) 1 [(x, pl)] rfl (HO.out.alloc1 _) w2 (below_alloc1 HB.out _) (by rw [World.size_alloc]; omega) (RdC.block (cs := #[.int .i64 x, .int .i64 pl]) (heap_alloc_new _ _)) (by have := HPL.out; simp; omega) ?_; intro v6 W5 hown hgrow hbel hat hnil; obtain ⟨A6, c6, hv6, _⟩ := hown.shape; subst hv6; have HO6 := Lib.hid hown; have HB6 := Lib.hid hbel; clear hown hgrow hbel hat hnil))
            go_roundg k1
            case measure => omega
            case rel => exact ⟨by omega, by rw [HI.out]; simp, by rw [HI.out, HP1.out]; have h := HO6.out; rw [List.length_append, List.length_singleton] at h; exact h, HB6.out⟩
          | zero =>
            simp only [Nat.sub_zero] at hO ⊢
            rw [List.take_of_length_le (by rw [NB.out]; exact Nat.le_refl _)] at hO
            have hlt0 : ¬ ((nb : Int) < (nb : Int)) := by omega
            rename World => w3
            obtain ⟨Am, cm, rfl, hmc⟩ := hO.shape
            obtain ⟨m, hm⟩ : ∃ m, prs na b = m := ⟨_, rfl⟩
            have hml : m.length = nb := by rw [← hm, prs_length, NB.out]
            rw [hm] at hO hmc ⊢
            rw [hml] at hO hmc ⊢
            have EM := Lib.hid hm
            have NM := Lib.hid hml
            have RM3 := Lib.hid (hO.rdp rfl)
            have RL3 := Lib.hid (RL.out.below HB.out)
            have RA3 := Lib.hid (RA2.out.below HB.out)
            have BW3 := Lib.hid (BW2.out.trans (HB.out.mono BW2.out.size))
            have hl100 : na ≤ 100 := by omega
            have hm100 : nb ≤ 100 := by omega
            have SL := Lib.hid (show l.Pairwise BeP by rw [← EL.out]; exact prs_sorted 0 a)
            have SM := Lib.hid (show m.Pairwise BeP by rw [← EM.out]; exact prs_sorted na b)
            clear hO hm hml RL RA2 RB2 BW2 HB hlt0 hkq
            have hcall := SortSP_calls Al cl l w3 RL3.out (by rw [NL.out]; omega) SL.out
            rw [NL.out] at hcall
            have HCALL := Lib.hid hcall
            clear hcall
            go_wp2_with fail
            refine HCALL.out.mono ?_
            rintro e w4 ⟨v, he, hO, hbo⟩
            subst he
            clear HCALL
            obtain ⟨AX, cX, rfl, hcX⟩ := hO.shape
            obtain ⟨LX, hLX⟩ : ∃ X, sortI lexP (0, 0) l = X := ⟨_, rfl⟩
            rw [hLX] at hO hcX ⊢
            obtain ⟨nX, hnX⟩ : ∃ n, LX.length = n := ⟨_, rfl⟩
            rw [hnX] at hO hcX ⊢
            have NX := Lib.hid hnX
            have EX := Lib.hid (show LX = sortI lexP (0, 0) l from hLX.symm)
            have hlX : nX ≤ 300 := by rw [← hnX, ← hLX, sortI_length, NL.out]; omega
            have BW4 := Lib.hid (BW3.out.trans (hbo.mono BW3.out.size))
            have RA4 := Lib.hid (RA3.out.below hbo)
            have RL4 := Lib.hid (RL3.out.below hbo)
            have RM4 := Lib.hid (RM3.out.below hbo)
            clear BW3 RA3 RL3 RM3
            have RX4 := Lib.hid (hO.rdp rfl)
            clear hO hbo hLX hnX
            have hcall := SortSP_calls Am cm m w4 RM4.out (by rw [NM.out]; omega) SM.out
            rw [NM.out] at hcall
            have HCALL := Lib.hid hcall
            clear hcall
            go_wp2_with fail
            refine HCALL.out.mono ?_
            rintro e w5 ⟨v, he, hO, hbo⟩
            subst he
            clear HCALL
            obtain ⟨AY, cY, rfl, hcY⟩ := hO.shape
            obtain ⟨LY, hLY⟩ : ∃ X, sortI lexP (0, 0) m = X := ⟨_, rfl⟩
            rw [hLY] at hO hcY ⊢
            obtain ⟨nY, hnY⟩ : ∃ n, LY.length = n := ⟨_, rfl⟩
            rw [hnY] at hO hcY ⊢
            have NY := Lib.hid hnY
            have EY := Lib.hid (show LY = sortI lexP (0, 0) m from hLY.symm)
            have hlY : nY ≤ 300 := by rw [← hnY, ← hLY, sortI_length, NM.out]; omega
            have BW5 := Lib.hid (BW4.out.trans (hbo.mono BW4.out.size))
            have RA5 := Lib.hid (RA4.out.below hbo)
            have RL5 := Lib.hid (RL4.out.below hbo)
            have RM5 := Lib.hid (RM4.out.below hbo)
            have RX5 := Lib.hid (RX4.out.below hbo)
            clear BW4 RA4 RL4 RM4 RX4
            have RY5 := Lib.hid (hO.rdp rfl)
            clear hO hbo hLY hnY
            have hcall := SortP_calls Al cl l w5 RL5.out (by rw [NL.out]; omega)
            rw [NL.out] at hcall
            have HCALL := Lib.hid hcall
            clear hcall
            go_wp2_with fail
            refine HCALL.out.mono ?_
            rintro e w6 ⟨v, he, hO, hbo⟩
            subst he
            clear HCALL
            obtain ⟨AT, cT, rfl, hcT⟩ := hO.shape
            obtain ⟨LT, hLT⟩ : ∃ X, sortI ltP (0, 0) l = X := ⟨_, rfl⟩
            rw [hLT] at hO hcT ⊢
            obtain ⟨nT, hnT⟩ : ∃ n, LT.length = n := ⟨_, rfl⟩
            rw [hnT] at hO hcT ⊢
            have NT := Lib.hid hnT
            have ET := Lib.hid (show LT = sortI lexP (0, 0) l from by rw [← hLT]; exact sort_lex SL.out)
            have hlT : nT ≤ 300 := by rw [← hnT, ← hLT, sortI_length, NL.out]; omega
            have BW6 := Lib.hid (BW5.out.trans (hbo.mono BW5.out.size))
            have RA6 := Lib.hid (RA5.out.below hbo)
            have RL6 := Lib.hid (RL5.out.below hbo)
            have RM6 := Lib.hid (RM5.out.below hbo)
            have RX6 := Lib.hid (RX5.out.below hbo)
            have RY6 := Lib.hid (RY5.out.below hbo)
            clear BW5 RA5 RL5 RM5 RX5 RY5
            have RT6 := Lib.hid (hO.rdp rfl)
            clear hO hbo hLT hnT
            have hsm := SameP_calls AX AT cX cT LX LT w6 RX6.out RT6.out
            rw [decide_eq_true (show LX = LT by rw [EX.out, ET.out]), NX.out, NT.out] at hsm
            have HSM := Lib.hid hsm
            clear hsm
            go_wp2_with fail
            refine HSM.out.mono ?_
            rintro e _ ⟨he, q1, rfl⟩
            subst he
            clear HSM
            obtain ⟨w7, hw⟩ : ∃ W, w6.drewN q1 = W := ⟨_, rfl⟩
            have hbo : Below w6.heap.size w6 w7 := by rw [← hw]; exact below_drewN_self _ _
            rw [hw]
            clear hw
            have BW7 := Lib.hid (BW6.out.trans (hbo.mono BW6.out.size))
            have RA7 := Lib.hid (RA6.out.below hbo)
            have RL7 := Lib.hid (RL6.out.below hbo)
            have RM7 := Lib.hid (RM6.out.below hbo)
            have RX7 := Lib.hid (RX6.out.below hbo)
            have RY7 := Lib.hid (RY6.out.below hbo)
            have RT7 := Lib.hid (RT6.out.below hbo)
            clear BW6 RA6 RL6 RM6 RX6 RY6 RT6
            clear hbo
            have hcall := SortP_calls Am cm m w7 RM7.out (by rw [NM.out]; omega)
            rw [NM.out] at hcall
            have HCALL := Lib.hid hcall
            clear hcall
            go_wp2_with fail
            refine HCALL.out.mono ?_
            rintro e w8 ⟨v, he, hO, hbo⟩
            subst he
            clear HCALL
            obtain ⟨AU, cU, rfl, hcU⟩ := hO.shape
            obtain ⟨LU, hLU⟩ : ∃ X, sortI ltP (0, 0) m = X := ⟨_, rfl⟩
            rw [hLU] at hO hcU ⊢
            obtain ⟨nU, hnU⟩ : ∃ n, LU.length = n := ⟨_, rfl⟩
            rw [hnU] at hO hcU ⊢
            have NU := Lib.hid hnU
            have EU := Lib.hid (show LU = sortI lexP (0, 0) m from by rw [← hLU]; exact sort_lex SM.out)
            have hlU : nU ≤ 300 := by rw [← hnU, ← hLU, sortI_length, NM.out]; omega
            have BW8 := Lib.hid (BW7.out.trans (hbo.mono BW7.out.size))
            have RA8 := Lib.hid (RA7.out.below hbo)
            have RL8 := Lib.hid (RL7.out.below hbo)
            have RM8 := Lib.hid (RM7.out.below hbo)
            have RX8 := Lib.hid (RX7.out.below hbo)
            have RY8 := Lib.hid (RY7.out.below hbo)
            have RT8 := Lib.hid (RT7.out.below hbo)
            clear BW7 RA7 RL7 RM7 RX7 RY7 RT7
            have RU8 := Lib.hid (hO.rdp rfl)
            clear hO hbo hLU hnU
            have hsm := SameP_calls AY AU cY cU LY LU w8 RY8.out RU8.out
            rw [decide_eq_true (show LY = LU by rw [EY.out, EU.out]), NY.out, NU.out] at hsm
            have HSM := Lib.hid hsm
            clear hsm
            go_wp2_with fail
            refine HSM.out.mono ?_
            rintro e _ ⟨he, q2, rfl⟩
            subst he
            clear HSM
            obtain ⟨w9, hw⟩ : ∃ W, w8.drewN q2 = W := ⟨_, rfl⟩
            have hbo : Below w8.heap.size w8 w9 := by rw [← hw]; exact below_drewN_self _ _
            rw [hw]
            clear hw
            have BW9 := Lib.hid (BW8.out.trans (hbo.mono BW8.out.size))
            have RA9 := Lib.hid (RA8.out.below hbo)
            have RL9 := Lib.hid (RL8.out.below hbo)
            have RM9 := Lib.hid (RM8.out.below hbo)
            have RX9 := Lib.hid (RX8.out.below hbo)
            have RY9 := Lib.hid (RY8.out.below hbo)
            have RT9 := Lib.hid (RT8.out.below hbo)
            have RU9 := Lib.hid (RU8.out.below hbo)
            clear BW8 RA8 RL8 RM8 RX8 RY8 RT8 RU8
            clear hbo
            have hcall := SortedSP_calls AX cX LX w9 RX9.out (by rw [NX.out]; omega)
            rw [NX.out] at hcall
            have HCALL := Lib.hid hcall
            clear hcall
            go_wp2_with fail
            refine HCALL.out.mono ?_
            rintro e w10 ⟨⟨bq, he, hbe⟩, hbo⟩
            subst he
            have hbt : bq = true := hbe.2 fun i hi => by have h := up_lex l i (by rw [← EX.out, NX.out]; exact hi); rw [← EX.out] at h; exact h
            subst hbt
            clear HCALL hbe
            have BW10 := Lib.hid (BW9.out.trans (hbo.mono BW9.out.size))
            have RA10 := Lib.hid (RA9.out.below hbo)
            have RL10 := Lib.hid (RL9.out.below hbo)
            have RM10 := Lib.hid (RM9.out.below hbo)
            have RX10 := Lib.hid (RX9.out.below hbo)
            have RY10 := Lib.hid (RY9.out.below hbo)
            have RT10 := Lib.hid (RT9.out.below hbo)
            have RU10 := Lib.hid (RU9.out.below hbo)
            clear BW9 RA9 RL9 RM9 RX9 RY9 RT9 RU9
            clear hbo
            have hcall := SortedSP_calls Al cl l w10 RL10.out (by rw [NL.out]; omega)
            rw [NL.out] at hcall
            have HCALL := Lib.hid hcall
            clear hcall
            go_wp2_with fail
            refine HCALL.out.mono ?_
            rintro e w11 ⟨⟨bq, he, hbe⟩, hbo⟩
            subst he
            have HBE := Lib.hid hbe
            clear HCALL hbe
            have BW11 := Lib.hid (BW10.out.trans (hbo.mono BW10.out.size))
            have RA11 := Lib.hid (RA10.out.below hbo)
            have RL11 := Lib.hid (RL10.out.below hbo)
            have RM11 := Lib.hid (RM10.out.below hbo)
            have RX11 := Lib.hid (RX10.out.below hbo)
            have RY11 := Lib.hid (RY10.out.below hbo)
            have RT11 := Lib.hid (RT10.out.below hbo)
            have RU11 := Lib.hid (RU10.out.below hbo)
            clear BW10 RA10 RL10 RM10 RX10 RY10 RT10 RU10
            clear hbo
            have hcall := rises_calls A ca a w11 RA11.out (by rw [NA.out]; omega)
            rw [NA.out] at hcall
            have HCALL := Lib.hid hcall
            clear hcall
            go_wp2_with fail
            refine HCALL.out.mono ?_
            rintro e _ ⟨⟨br, he, hbe⟩, q3, rfl⟩
            subst he
            have hbr : br = bq := by
              rw [Bool.eq_iff_iff, hbe, HBE.out]
              exact forall_congr' fun i => forall_congr' fun hi => by rw [← EL.out]; exact (up_prs a i (by rw [NA.out]; exact hi)).symm
            subst hbr
            clear HCALL hbe HBE
            obtain ⟨w12, hw⟩ : ∃ W, w11.drewN q3 = W := ⟨_, rfl⟩
            have hbo : Below w11.heap.size w11 w12 := by rw [← hw]; exact below_drewN_self _ _
            rw [hw]
            clear hw
            have BW12 := Lib.hid (BW11.out.trans (hbo.mono BW11.out.size))
            have RA12 := Lib.hid (RA11.out.below hbo)
            have RL12 := Lib.hid (RL11.out.below hbo)
            have RM12 := Lib.hid (RM11.out.below hbo)
            have RX12 := Lib.hid (RX11.out.below hbo)
            have RY12 := Lib.hid (RY11.out.below hbo)
            have RT12 := Lib.hid (RT11.out.below hbo)
            have RU12 := Lib.hid (RU11.out.below hbo)
            clear BW11 RA11 RL11 RM11 RX11 RY11 RT11 RU11
            clear hbo
            obtain ⟨all, hall⟩ : ∃ x, l ++ m = x := ⟨_, rfl⟩
            obtain ⟨n2, hn2⟩ : ∃ x, all.length = x := ⟨_, rfl⟩
            have HALL := Lib.hid hall
            have ND := Lib.hid hn2
            have hl2 : n2 ≤ 300 := by rw [← hn2, ← hall, List.length_append, NL.out, NM.out]; omega
            clear hall hn2
            go_wp2_with (first
              | (at_builtin; refine wpList_appF (q := 2) (f := twoP) _ rfl (.tmp 83) (.tmp 84) 82 80 rfl (.agg #[.int .i64 0, .int .i64 0]) 16 Try.underlying82 infoP rfl (by omega) (by omega) twoP_q twoP_one w12.heap.size (.slice (some ⟨w12.heap.size, 0, none⟩) 0 0) [] rfl Al cl l (by rw [NL.out]; rfl) (OwnF.empty_at _ _ _ _ rfl (Nat.le_refl _)) w12 (below_alloc1 (Below.refl _ _) _) (by rw [World.size_alloc]; omega) ((RL12.out.below (below_alloc1 (Below.refl _ _) _)).c) (by have := NL.out; simp; omega) ?_; intro v1 x1 hown _ hbel _ _; rw [List.nil_append] at hown; obtain ⟨A1, c1, hv1, _⟩ := hown.shape; rw [NL.out] at hv1; subst hv1; have HW1 := Lib.hid hown; have HB1 := Lib.hid hbel; clear hown hbel)
              | (at_builtin; refine wpList_appF (q := 2) (f := twoP) _ rfl (.tmp 85) (.tmp 86) 82 80 rfl (.agg #[.int .i64 0, .int .i64 0]) 16 Try.underlying82 infoP rfl (by omega) (by omega) twoP_q twoP_one w12.heap.size (.slice A1 na c1) l rfl Am cm m (by rw [NM.out]; rfl) HW1.out w12 HB1.out HB1.out.size ((RM12.out.below HB1.out).c) (by have := NL.out; have := NM.out; omega) ?_; intro v2 w13 hown _ hbel _ _; rw [HALL.out] at hown; obtain ⟨A2, c2, hv2, hc2⟩ := hown.shape; rw [ND.out] at hv2 hc2; subst hv2; have HW2 := Lib.hid hown; have HB2 := Lib.hid hbel; clear hown hbel))
            have hbo := HB2.out
            have BW13 := Lib.hid (BW12.out.trans (hbo.mono BW12.out.size))
            have RA13 := Lib.hid (RA12.out.below hbo)
            have RL13 := Lib.hid (RL12.out.below hbo)
            have RM13 := Lib.hid (RM12.out.below hbo)
            have RX13 := Lib.hid (RX12.out.below hbo)
            have RY13 := Lib.hid (RY12.out.below hbo)
            have RT13 := Lib.hid (RT12.out.below hbo)
            have RU13 := Lib.hid (RU12.out.below hbo)
            clear BW12 RA12 RL12 RM12 RX12 RY12 RT12 RU12
            have RD13 := Lib.hid (HW2.out.rdp rfl)
            clear hbo HB1 HB2 HW1 HW2
            have hcall := MergeSP_calls AX cX LX AY cY LY w13 RX13.out RY13.out (by rw [NX.out]; omega) (by rw [NY.out]; omega) (by rw [NX.out, NY.out]; omega)
            rw [NX.out, NY.out] at hcall
            have HCALL := Lib.hid hcall
            clear hcall
            go_wp2_with fail
            refine HCALL.out.mono ?_
            rintro e w14 ⟨v, he, hO, hbo⟩
            subst he
            clear HCALL
            obtain ⟨AG, cG, rfl, hcG⟩ := hO.shape
            obtain ⟨LG, hLG⟩ : ∃ X, mergeL ltP LX LY = X := ⟨_, rfl⟩
            rw [hLG] at hO hcG ⊢
            obtain ⟨nG, hnG⟩ : ∃ n, LG.length = n := ⟨_, rfl⟩
            rw [hnG] at hO hcG ⊢
            have NG := Lib.hid hnG
            have EG := Lib.hid (show LG = sortI lexP (0, 0) all from by rw [← hLG, EX.out, EY.out, ← EL.out, ← EM.out, ← NA.out, stands_merge, NA.out, EL.out, EM.out, HALL.out])
            have hlG : nG ≤ 300 := by rw [← hnG, ← hLG, EX.out, EY.out, ← EL.out, ← EM.out, ← NA.out, stands_merge, NA.out, EL.out, EM.out, HALL.out, sortI_length, ND.out]; omega
            have BW14 := Lib.hid (BW13.out.trans (hbo.mono BW13.out.size))
            have RA14 := Lib.hid (RA13.out.below hbo)
            have RL14 := Lib.hid (RL13.out.below hbo)
            have RM14 := Lib.hid (RM13.out.below hbo)
            have RX14 := Lib.hid (RX13.out.below hbo)
            have RY14 := Lib.hid (RY13.out.below hbo)
            have RT14 := Lib.hid (RT13.out.below hbo)
            have RU14 := Lib.hid (RU13.out.below hbo)
            have RD14 := Lib.hid (RD13.out.below hbo)
            clear BW13 RA13 RL13 RM13 RX13 RY13 RT13 RU13 RD13
            have RG14 := Lib.hid (hO.rdp rfl)
            clear hO hbo hLG hnG
            have hcall := SortP_calls A2 c2 all w14 RD14.out (by rw [ND.out]; omega)
            rw [ND.out] at hcall
            have HCALL := Lib.hid hcall
            clear hcall
            go_wp2_with fail
            refine HCALL.out.mono ?_
            rintro e w15 ⟨v, he, hO, hbo⟩
            subst he
            clear HCALL
            obtain ⟨AH, cH, rfl, hcH⟩ := hO.shape
            obtain ⟨LH, hLH⟩ : ∃ X, sortI ltP (0, 0) all = X := ⟨_, rfl⟩
            rw [hLH] at hO hcH ⊢
            obtain ⟨nH, hnH⟩ : ∃ n, LH.length = n := ⟨_, rfl⟩
            rw [hnH] at hO hcH ⊢
            have NH := Lib.hid hnH
            have EH := Lib.hid (show LH = sortI lexP (0, 0) all from by rw [← hLH]; rw [← HALL.out, ← EL.out, ← EM.out, ← NA.out]; exact stands_all a b)
            have hlH : nH ≤ 300 := by rw [← hnH, ← hLH, sortI_length, ND.out]; omega
            have BW15 := Lib.hid (BW14.out.trans (hbo.mono BW14.out.size))
            have RA15 := Lib.hid (RA14.out.below hbo)
            have RL15 := Lib.hid (RL14.out.below hbo)
            have RM15 := Lib.hid (RM14.out.below hbo)
            have RX15 := Lib.hid (RX14.out.below hbo)
            have RY15 := Lib.hid (RY14.out.below hbo)
            have RT15 := Lib.hid (RT14.out.below hbo)
            have RU15 := Lib.hid (RU14.out.below hbo)
            have RD15 := Lib.hid (RD14.out.below hbo)
            have RG15 := Lib.hid (RG14.out.below hbo)
            clear BW14 RA14 RL14 RM14 RX14 RY14 RT14 RU14 RD14 RG14
            have RH15 := Lib.hid (hO.rdp rfl)
            clear hO hbo hLH hnH
            have hsm := SameP_calls AG AH cG cH LG LH w15 RG15.out RH15.out
            rw [decide_eq_true (show LG = LH by rw [EG.out, EH.out]), NG.out, NH.out] at hsm
            have HSM := Lib.hid hsm
            clear hsm
            go_wp2_with fail
            refine HSM.out.mono ?_
            rintro e _ ⟨he, q4, rfl⟩
            subst he
            clear HSM
            obtain ⟨w16, hw⟩ : ∃ W, w15.drewN q4 = W := ⟨_, rfl⟩
            have hbo : Below w15.heap.size w15 w16 := by rw [← hw]; exact below_drewN_self _ _
            rw [hw]
            clear hw
            have BW16 := Lib.hid (BW15.out.trans (hbo.mono BW15.out.size))
            have RA16 := Lib.hid (RA15.out.below hbo)
            have RL16 := Lib.hid (RL15.out.below hbo)
            have RM16 := Lib.hid (RM15.out.below hbo)
            have RX16 := Lib.hid (RX15.out.below hbo)
            have RY16 := Lib.hid (RY15.out.below hbo)
            have RT16 := Lib.hid (RT15.out.below hbo)
            have RU16 := Lib.hid (RU15.out.below hbo)
            have RD16 := Lib.hid (RD15.out.below hbo)
            have RG16 := Lib.hid (RG15.out.below hbo)
            have RH16 := Lib.hid (RH15.out.below hbo)
            clear BW15 RA15 RL15 RM15 RX15 RY15 RT15 RU15 RD15 RG15 RH15
            clear hbo
            go_wp2_with fail
            go_ret
            exact ⟨rfl, BW16.out⟩
end Go.Proofs.Ytacgkoclammggaa
