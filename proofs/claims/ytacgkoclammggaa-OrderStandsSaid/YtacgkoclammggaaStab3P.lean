
/-
  The library's insertion sort over shelterbelt/shelterbeltref04.Pair. Conditions: the row is the call's own; the closure's variable holds the order; what stands ahead may stand ahead.
-/
import Derived.Test.YtacgkoclammggaaStab2P
namespace Go.Proofs.Ytacgkoclammggaa
open Go.RowKit
set_option linter.unusedVariables false
set_option maxRecDepth 100000
set_option linter.unusedSimpArgs false
attribute [local go_sem] Oper.semAt_some

/-- What may stand ahead. -/
abbrev BeP : Int × Int → Int × Int → Prop := (fun x y => x.2 < y.2)
theorem beP_cl {x y : Int × Int} (h : BeP x y) : ltP y x = lexP y x := lexP_late h
/-- The comparison tells the order. -/
def AgrP (x : Int × Int) (Z : List (Int × Int)) : Prop := ∀ y ∈ Z, ltP x y = lexP x y
theorem CmP.keepb {w w' : World} {bf B : Nat} (h : CmP w bf) (hb : Below w.heap.size w w') : CmP w' bf := h.below hb
set_option maxHeartbeats 6400000 in
set_option maxRecDepth 1000000 in
theorem InsertionP_calls (bf lo : Nat) (A : Option Addr) (n c a b : Nat) (P Q S : List (Int × Int)) (w : World) (h : OwnF w lo 80 2 twoP (.slice A n c) (P ++ (Q ++ S))) (ha : P.length = a) (hb : a + Q.length = b) (hc : CmP w bf) (hf : ¬ OwnB (.slice A n c) bf) (hQ : Q.Pairwise BeP) (hn : n ≤ 1000000) :
    Calls Try.prog 122 #[.slice A n c, .int .i64 (a : Int), .int .i64 (b : Int), cmpP bf] w fun e w' => e = .returned (.tuple #[]) ∧ (∃ Z, Z.Perm Q ∧ Srt lexP Z ∧ OwnF w' lo 80 2 twoP (.slice A n c) (P ++ (Z ++ S))) ∧ Only (OwnB (.slice A n c)) w w' := by
  have hlen : b ≤ n := by have := h.len; simp at this; omega
  have HF := Lib.hid hf
  have HC := Lib.hid hc
  have HH := Lib.hid h
  have HQ := Lib.hid hQ
  have HA := Lib.hid ha
  obtain ⟨a1, ha1⟩ : ∃ a1, a + 1 = a1 := ⟨_, rfl⟩
  have hwa : IntKind.i64.wrap ((a : Int) + 1) = (a1 : Int) := by rw [i64_w, show (a : Int) + 1 = (a1 : Int) by omega]; exact wrap64_id _ (by omega)
  cases Q with
  | nil =>
    have hba : ¬ (a1 : Int) < (b : Int) := by simp at hb; omega
    clear h hc hf hQ ha hb ha1
    go_enter Try.func122, Try.ntmps122
    go_wp2_with fail
    go_loopg [8] 0 (fun kq v8 w' => v8 = .int .i64 (a1 : Int) ∧ w' = w)
    case atStart => exact ⟨rfl, rfl⟩
    case round =>
      obtain ⟨rfl, rfl⟩ := hrel
      go_wp2_with fail
      go_end0
      exact ⟨rfl, ⟨[], List.Perm.refl _, List.Pairwise.nil, HH.out⟩, Only.refl _ _⟩
  | cons q0 Q0 =>
    have ha1b : a1 ≤ b := by simp at hb; omega
    have hb2 : a1 + Q0.length = b := by simp at hb; omega
    have HB := Lib.hid hb2
    have HA1 := Lib.hid ha1
    have HST := Lib.hid (show ∃ i Q1 Q2 Z1, (Value.int .i64 (a1 : Int)) = .int .i64 ((i : Nat) : Int) ∧ i + (b - a1) = b ∧ q0 :: Q0 = Q1 ++ Q2 ∧ Z1.Perm Q1 ∧ Srt lexP Z1 ∧ a + Z1.length = i ∧ OwnF w lo 80 2 twoP (.slice A n c) (P ++ (Z1 ++ (Q2 ++ S))) ∧ Only (OwnB (.slice A n c)) w w from ⟨a1, [q0], Q0, [q0], rfl, by omega, rfl, List.Perm.refl _, List.pairwise_singleton _ _, by simp; omega, h, Only.refl _ _⟩)
    clear h hc hf hQ ha hb ha1 HH hb2
    go_enter Try.func122, Try.ntmps122
    go_wp2_with fail
    go_loopg [8] (b - a1) (fun kq v8 w' => ∃ i Q1 Q2 Z1, v8 = .int .i64 ((i : Nat) : Int) ∧ i + kq = b ∧ q0 :: Q0 = Q1 ++ Q2 ∧ Z1.Perm Q1 ∧ Srt lexP Z1 ∧ a + Z1.length = i ∧ OwnF w' lo 80 2 twoP (.slice A n c) (P ++ (Z1 ++ (Q2 ++ S))) ∧ Only (OwnB (.slice A n c)) w w')
    case atStart => exact HST.out
    case round =>
      clear HST
      obtain ⟨i, Q1, Q2, Z1, rfl, hik, hQ12, hpz, hsz, hzl, hO, hon⟩ := hrel
      have HQ12 := Lib.hid hQ12
      have HPZ := Lib.hid hpz
      have HSZ := Lib.hid hsz
      have HON := Lib.hid hon
      have HZL := Lib.hid hzl
      have hl12 : Q1.length + Q2.length = 1 + Q0.length := by have := congrArg List.length hQ12; simp at this; omega
      have hz1 := hpz.length_eq
      have hb3 := HB.out
      have ha3 := HA1.out
      clear hQ12 hpz hsz hon
      cases gk with
      | zero =>
        obtain rfl : i = b := by omega
        have hq2 : Q2 = [] := List.length_eq_zero_iff.1 (by omega)
        subst hq2
        have HO := Lib.hid hO
        have hlt0 : ¬ ((i : Int) < (i : Int)) := by omega
        clear hO hl12 hz1 hb3 ha3 hzl
        go_wp2_with fail
        go_end0
        refine ⟨rfl, ⟨Z1, ?_, HSZ.out, by simpa using HO.out⟩, HON.out⟩
        have h := HQ12.out
        rw [List.append_nil] at h
        rw [h]
        exact HPZ.out
      | succ k1 =>
        have hib : i < b := by omega
        have bib : (i : Int) < (b : Int) := by omega
        cases Q2 with
        | nil => simp at hl12; omega
        | cons x Q3 =>
          obtain ⟨x0, x1⟩ := x
          have hbx : AgrP (x0, x1) Z1 := fun y hy => by
            have h : (Q1 ++ (x0, x1) :: Q3).Pairwise BeP := HQ12.out ▸ HQ.out
            exact beP_cl ((List.pairwise_append.1 h).2.2 y (HPZ.out.subset hy) (x0, x1) (by simp))
          have HBX := Lib.hid hbx
          have HO := Lib.hid (show OwnF wr lo 80 2 twoP (.slice A n c) (P ++ (Z1 ++ ((x0, x1) :: ([] ++ (Q3 ++ S))))) from hO)
          have HFIN := Lib.hid (show ∀ (T V : List (Int × Int)) (W : World), Z1 = T ++ V → (∀ v ∈ V, lexP (x0, x1) v = true) → (∀ t, T.getLast? = some t → lexP (x0, x1) t = false) → OwnF W lo 80 2 twoP (.slice A n c) (P ++ (T ++ ((x0, x1) :: (V ++ (Q3 ++ S))))) → Only (OwnB (.slice A n c)) wr W → ∃ i' Q1' Q2' Z1', Value.int .i64 ((i : Int) + 1) = .int .i64 ((i' : Nat) : Int) ∧ i' + k1 = b ∧ q0 :: Q0 = Q1' ++ Q2' ∧ Z1'.Perm Q1' ∧ Srt lexP Z1' ∧ a + Z1'.length = i' ∧ OwnF W lo 80 2 twoP (.slice A n c) (P ++ (Z1' ++ (Q2' ++ S))) ∧ Only (OwnB (.slice A n c)) w W from fun T V W hTV hV hT hW hoW => by
            refine ⟨i + 1, Q1 ++ [(x0, x1)], Q3, T ++ (x0, x1) :: V, by simp, by omega, by rw [HQ12.out]; simp, ?_, ?_, ?_, by simpa using hW, HON.out.trans hoW⟩
            · refine List.perm_middle.trans ?_
              rw [← hTV]
              exact ((HPZ.out.cons _).trans (List.perm_append_comm (l₁ := [(x0, x1)]) (l₂ := Q1)))
            · have h := HSZ.out
              rw [hTV] at h
              exact srt_ins lexP_wo h hV hT
            · have h := congrArg List.length hTV
              have h2 := HZL.out
              rw [List.length_append] at h
              simp only [List.length_append, List.length_cons]
              omega)
          have hwi : IntKind.i64.wrap ((i : Int) + 1) = (i : Int) + 1 := by rw [i64_w]; exact wrap64_id _ (by omega)
          have hzn : Z1.length = i - a := by omega
          have hai : a + (i - a) = i := by omega
          obtain ⟨wo, hwo⟩ : ∃ wo : World, wo = wr := ⟨_, rfl⟩
          rw [← hwo] at HO HFIN HON ⊢
          have hcm0 := HC.out.only HON.out HF.out
          have HCM := Lib.hid hcm0
          clear hO hl12 hz1 hzl hbx hcm0 hwo
          go_wp2_with fail
          go_loopg [9] (i - a) (fun kq v9 w' => ∃ T V, v9 = .int .i64 ((a + kq : Nat) : Int) ∧ Z1 = T ++ V ∧ T.length = kq ∧ (∀ v ∈ V, lexP (x0, x1) v = true) ∧ OwnF w' lo 80 2 twoP (.slice A n c) (P ++ (T ++ ((x0, x1) :: (V ++ (Q3 ++ S))))) ∧ Only (OwnB (.slice A n c)) wo w')
          case atStart => exact ⟨Z1, [], by rw [hai], by simp, hzn, by simp, HO.out, Only.refl _ _⟩
          case round =>
            clear HO
            obtain ⟨T, V, rfl, hTV, hTl, hV, hO, hon⟩ := hrel
            have HTV := Lib.hid hTV
            have HV := Lib.hid hV
            have HON2 := Lib.hid hon
            have HO := Lib.hid hO
            clear hTV hV hon hO
            cases gk with
            | zero =>
              have hT0 : T = [] := List.length_eq_zero_iff.1 hTl
              subst hT0
              simp only [Nat.add_zero]
              have hga : decide ((a : Int) < (a : Int)) = false := by simp
              go_wp2_with fail
              go_quiet (fail)
              go_wp2_with fail
              go_roundg k1
              case measure => omega
              case rel => exact HFIN.out [] V _ HTV.out HV.out (fun t h => by cases h) (HO.out.drewN _) (HON2.out.trans (Only.of_below (below_drewN_self _ _)))
            | succ t =>
              obtain ⟨T', y, hT'⟩ : ∃ T' y, T = T' ++ [y] := by
                rcases List.eq_nil_or_concat T with h | ⟨T', y, h⟩
                · rw [h] at hTl; cases hTl
                · exact ⟨T', y, by rw [h, List.concat_eq_append]⟩
              subst hT'
              obtain ⟨y0, y1⟩ := y
              rw [List.length_append, List.length_singleton] at hTl
              have hTl2 : T'.length = t := by omega
              have HTL := Lib.hid hTl2
              obtain ⟨jp, hjp⟩ : ∃ jp, a + t = jp := ⟨_, rfl⟩
              obtain ⟨j1, hj1⟩ : ∃ j1, a + (t + 1) = j1 := ⟨_, rfl⟩
              rw [hj1]
              have hjj : j1 = jp + 1 := by omega
              have hga : decide (a < j1) = true := decide_eq_true (by omega)
              have hX : (P ++ T').length = jp := by rw [List.length_append, HA.out]; omega
              have hO2 : OwnF wr lo 80 2 twoP (.slice A n c) ((P ++ T') ++ (y0, y1) :: ([] ++ (x0, x1) :: (V ++ (Q3 ++ S)))) := by simpa using HO.out
              obtain ⟨g, hgA, _, hin, hjn, hy0, hy1, hx0, hx1, _, _, _⟩ := OwnF.exch rfl hO2 hX (j := j1) (by simp; omega)
              subst hgA
              have hwj : IntKind.i64.wrap ((j1 : Int) - 1) = (jp : Int) := by rw [i64_w, show (j1 : Int) - 1 = (jp : Int) by omega]; exact wrap64_id _ (by omega)
              have bI : (jp : Int) < (n : Int) := by omega
              have bJ : (j1 : Int) < (n : Int) := by omega
              have hcm := HCM.out.only HON2.out HF.out
              have hyz : (y0, y1) ∈ Z1 := by rw [HTV.out]; simp
              have HXX := Lib.hid hX
              have HJP := Lib.hid hjp
              have HJ1 := Lib.hid hj1
              have HJJ := Lib.hid hjj
              have hbw : Below wr.heap.size wr wr := Below.refl _ _
              have HO2 := Lib.hid hO2
              obtain ⟨q, hq⟩ : ∃ q, ltP (x0, x1) (y0, y1) = q := ⟨_, rfl⟩
              have hbxy : lexP (x0, x1) (y0, y1) = q := (HBX.out (y0, y1) hyz).symm.trans hq
              have HBXY := Lib.hid hbxy
              have hcl := hq
              have HIN := Lib.hid hin
              have HJN := Lib.hid hjn
              have HHB := Lib.hid hib
              clear hX hO2 hyz hbxy hjp hTl hTl2 hjj hq hzn hin hjn hb3 ha3 hik ha1b hj1 hib
              cases q with
              | false =>
                go_wp2_with fail
                first | go_region_held3 (fun w' => w'.cell? ⟨g, j1 * 2, none⟩ = some (.int .i64 x0) ∧ w'.cell? ⟨g, j1 * 2 + 1, none⟩ = some (.int .i64 x1) ∧ w'.cell? ⟨g, jp * 2, none⟩ = some (.int .i64 y0) ∧ w'.cell? ⟨g, jp * 2 + 1, none⟩ = some (.int .i64 y1) ∧ CmP w' bf ∧ Below wr.heap.size wr w')
                  (first | exact ⟨cell_below (B := wr.heap.size) (w := wr) (by first | ((repeat (first | with_reducible assumption | with_reducible exact Below.refl _ _ | with_reducible apply below_drew1 | with_reducible apply below_alloc1)); done)) hx0 (World.block_lt_of_cell? _ _ hx0), cell_below (B := wr.heap.size) (w := wr) (by first | ((repeat (first | with_reducible assumption | with_reducible exact Below.refl _ _ | with_reducible apply below_drew1 | with_reducible apply below_alloc1)); done)) hx1 (World.block_lt_of_cell? _ _ hx1), cell_below (B := wr.heap.size) (w := wr) (by first | ((repeat (first | with_reducible assumption | with_reducible exact Below.refl _ _ | with_reducible apply below_drew1 | with_reducible apply below_alloc1)); done)) hy0 (World.block_lt_of_cell? _ _ hy0), cell_below (B := wr.heap.size) (w := wr) (by first | ((repeat (first | with_reducible assumption | with_reducible exact Below.refl _ _ | with_reducible apply below_drew1 | with_reducible apply below_alloc1)); done)) hy1 (World.block_lt_of_cell? _ _ hy1), CmP.keepb (B := wr.heap.size) (w := wr) hcm (by first | ((repeat (first | with_reducible assumption | with_reducible exact Below.refl _ _ | with_reducible apply below_drew1 | with_reducible apply below_alloc1)); done)), (by first | ((repeat (first | with_reducible assumption | with_reducible exact Below.refl _ _ | with_reducible apply below_drew1 | with_reducible apply below_alloc1)); done))⟩ | go_keep)
                  (first
                    | (go_at_call 119; go_split_ands; (with_reducible refine (CmpP_calls bf (x0, x1) (y0, y1) _ ?_).mono ?_); (with_reducible assumption); rintro e w7 ⟨mm, he, hmm, hbq⟩; subst he; rw [hcl] at hmm; have hB : Below wr.heap.size wr w7 := Below.after (by first | ((repeat (first | with_reducible assumption | with_reducible exact Below.refl _ _ | with_reducible apply below_drew1 | with_reducible apply below_alloc1)); done)) hbq)) | fail "held"
                all_goals
                  go_wp2_with fail
                  go_roundg k1
                  case measure => omega
                  case rel => exact HFIN.out (T' ++ [(y0, y1)]) V _ HTV.out HV.out (fun t h => by simp at h; rw [← h]; exact HBXY.out) (HO.out.keep hB) (HON2.out.trans (Only.of_below hB))
              | true =>
                go_wp2_with fail
                first | go_region_held3 (fun w' => w'.cell? ⟨g, j1 * 2, none⟩ = some (.int .i64 x0) ∧ w'.cell? ⟨g, j1 * 2 + 1, none⟩ = some (.int .i64 x1) ∧ w'.cell? ⟨g, jp * 2, none⟩ = some (.int .i64 y0) ∧ w'.cell? ⟨g, jp * 2 + 1, none⟩ = some (.int .i64 y1) ∧ CmP w' bf ∧ Below wr.heap.size wr w')
                  (first | exact ⟨cell_below (B := wr.heap.size) (w := wr) (by first | ((repeat (first | with_reducible assumption | with_reducible exact Below.refl _ _ | with_reducible apply below_drew1 | with_reducible apply below_alloc1)); done)) hx0 (World.block_lt_of_cell? _ _ hx0), cell_below (B := wr.heap.size) (w := wr) (by first | ((repeat (first | with_reducible assumption | with_reducible exact Below.refl _ _ | with_reducible apply below_drew1 | with_reducible apply below_alloc1)); done)) hx1 (World.block_lt_of_cell? _ _ hx1), cell_below (B := wr.heap.size) (w := wr) (by first | ((repeat (first | with_reducible assumption | with_reducible exact Below.refl _ _ | with_reducible apply below_drew1 | with_reducible apply below_alloc1)); done)) hy0 (World.block_lt_of_cell? _ _ hy0), cell_below (B := wr.heap.size) (w := wr) (by first | ((repeat (first | with_reducible assumption | with_reducible exact Below.refl _ _ | with_reducible apply below_drew1 | with_reducible apply below_alloc1)); done)) hy1 (World.block_lt_of_cell? _ _ hy1), CmP.keepb (B := wr.heap.size) (w := wr) hcm (by first | ((repeat (first | with_reducible assumption | with_reducible exact Below.refl _ _ | with_reducible apply below_drew1 | with_reducible apply below_alloc1)); done)), (by first | ((repeat (first | with_reducible assumption | with_reducible exact Below.refl _ _ | with_reducible apply below_drew1 | with_reducible apply below_alloc1)); done))⟩ | go_keep)
                  (first
                    | (go_at_call 119; go_split_ands; (with_reducible refine (CmpP_calls bf (x0, x1) (y0, y1) _ ?_).mono ?_); (with_reducible assumption); rintro e w7 ⟨mm, he, hmm, hbq⟩; subst he; rw [hcl] at hmm; have hB : Below wr.heap.size wr w7 := Below.after (by first | ((repeat (first | with_reducible assumption | with_reducible exact Below.refl _ _ | with_reducible apply below_drew1 | with_reducible apply below_alloc1)); done)) hbq)) | fail "held"
                all_goals
                  have HO7 := Lib.hid (HO2.out.keep hB)
                  have HON7 := Lib.hid (HON2.out.trans (Only.of_below hB))
                  have hX := HXX.out
                  have hjj := HJJ.out
                  clear hx0 hx1 hy0 hy1 hcm hbw hB hcl
                  obtain ⟨g', hgA, hgb, hin, hjn, hu0, hu1, hv0, hv1, hfz, hex1, hex2⟩ := OwnF.exch rfl HO7.out hX (j := j1) (by simp; omega)
                  injection hgA with hgA
                  injection hgA with hgA
                  subst hgA
                  have hf1 := hfz (jp * 2)
                  have hf2 := hfz (jp * 2 + 1)
                  have hf3 := hfz (j1 * 2)
                  have hf4 := hfz (j1 * 2 + 1)
                  have n00a : ¬ jp * 2 = j1 * 2 := by omega
                  have n00b : ¬ j1 * 2 = jp * 2 := by omega
                  have n01a : ¬ jp * 2 = j1 * 2 + 1 := by omega
                  have n01b : ¬ j1 * 2 + 1 = jp * 2 := by omega
                  have n10a : ¬ jp * 2 + 1 = j1 * 2 := by omega
                  have n10b : ¬ j1 * 2 = jp * 2 + 1 := by omega
                  have n11a : ¬ jp * 2 + 1 = j1 * 2 + 1 := by omega
                  have n11b : ¬ j1 * 2 + 1 = jp * 2 + 1 := by omega
                  have HEX := Lib.hid hex2
                  clear hfz hex1 hex2 hgb hin hjn hX hjj
                  go_wp2_with fail
                  go_region
                  go_wp2_with fail
                  go_roundg t
                  case measure => omega
                  case rel =>
                    have h1 := HJP.out
                    refine ⟨T', (y0, y1) :: V, by rw [h1], by rw [HTV.out]; simp, HTL.out, fun v hv => ?_, ?_, HON7.out.trans (HEX.out.2.trans (Only.of_below (Below.refl _ _).drew))⟩
                    · rcases List.mem_cons.1 hv with rfl | hv
                      · exact HBXY.out
                      · exact HV.out v hv
                    · have h : OwnF _ lo 80 2 twoP (.slice (some ⟨g, 0, none⟩) n c) _ := own_drew1 HEX.out.1
                      rw [show (P ++ T') ++ (x0, x1) :: ([] ++ (y0, y1) :: (V ++ (Q3 ++ S))) = P ++ (T' ++ ((x0, x1) :: ((y0, y1) :: V ++ (Q3 ++ S)))) by simp] at h
                      exact h
end Go.Proofs.Ytacgkoclammggaa
