
/-
  order.Merge over shelterbelt/shelterbeltref04.Pair. Conditions: the slices read as the lists.
-/
import Derived.Test.YtacgkoclammggaaStab9P
import Derived.Test.YtacgkoclammggaaMrg
import Derived.Deep.RegionLaw
import Derived.Deep.DeepMust
namespace Go.Proofs.Ytacgkoclammggaa
open Go.RowKit
set_option linter.unusedVariables false
set_option maxRecDepth 100000
set_option linter.unusedSimpArgs false
attribute [local go_sem] Oper.semAt_some

theorem RdP.tailP {w : World} {ad : Addr} {x : Int × Int} {xs : List (Int × Int)} (h : RdP w .i64 .i64 (some ad) (x :: xs)) : RdP w .i64 .i64 (some (ad.add 2)) xs :=
  ⟨by have := h.1; simp at this; omega, fun j hj => by
    obtain ⟨ad', e, h0, h1⟩ := h.2 (j + 1) (by simp; omega)
    injection e with e
    subst e
    have e2 : (x :: xs).getD (j + 1) (0, 0) = xs.getD j (0, 0) := by simp [List.getD]
    rw [e2] at h0 h1
    refine ⟨_, rfl, ?_, ?_⟩
    · rw [Addr.add_add, show 2 + j * 2 = (j + 1) * 2 by omega]; exact h0
    · rw [Addr.add_add, show 2 + (j * 2 + 1) = (j + 1) * 2 + 1 by omega]; exact h1⟩
set_option maxHeartbeats 6400000 in
set_option maxRecDepth 1000000 in
theorem MergeSP_calls (A : Option Addr) (c : Nat) (xs : List (Int × Int)) (B : Option Addr) (e : Nat) (ys : List (Int × Int)) (w : World) (ha : RdP w .i64 .i64 A xs) (hb : RdP w .i64 .i64 B ys) (hxc : xs.length ≤ c) (hye : ys.length ≤ e) (hl : xs.length + ys.length ≤ 100000) :
    Calls Try.prog 65 #[.func (.func 48) #[] #[], .slice A xs.length c, .slice B ys.length e] w fun e w' => ∃ v, e = .returned v ∧ OwnF w' w.heap.size 80 2 twoP v (mergeL ltP xs ys) ∧ Below w.heap.size w w' := by
  have KA := Lib.hid ha
  have KB := Lib.hid hb
  clear ha hb
  obtain ⟨n, hn⟩ : ∃ n, xs.length = n := ⟨_, rfl⟩
  obtain ⟨m, hm⟩ : ∃ n, ys.length = n := ⟨_, rfl⟩
  have HN := Lib.hid hn
  have HM := Lib.hid hm
  rw [hn, hm] at hl ⊢
  rw [hn] at hxc
  rw [hm] at hye
  obtain ⟨s, hs⟩ : ∃ s, n + m = s := ⟨_, rfl⟩
  have hws : IntKind.i64.wrap ((n : Int) + (m : Int)) = (s : Int) := by rw [i64_w, show (n : Int) + (m : Int) = (s : Int) by omega]; exact wrap64_id _ (by omega)
  obtain ⟨i0, hi, hz0, hz1, hz2⟩ := info_parts infoP
  clear hn hm
  go_enter Try.func65, Try.ntmps65
  go_wp2_with (at_make; refine wpList_make_own _ rfl _ _ 82 rfl w.heap.size 80 i0 (.agg #[.int .i64 0, .int .i64 0]) 2 Try.underlying82 hi hz0 hz1 .i64 .i64 _ s rfl rfl rfl (by rw [hz2]; omega) (by unfold maxLen; omega) (Nat.le_refl _) ?_; intro w1 hown hgrow; have HO1 := Lib.hid hown; have HG1 := Lib.hid hgrow; clear hown hgrow)
  have HO2 := Lib.hid (show OwnF w1 w.heap.size 80 2 twoP (.slice (some ⟨w.heap.size, 0, none⟩) 0 s) [] from HO1.out)
  have HB2 := Lib.hid (show Below w.heap.size w w1 from ⟨HG1.out.os, HG1.out.tape, HG1.out.output, HG1.out.size, fun i hi => HG1.out.block i hi (by simp)⟩)
  clear HO1 HG1 hi hz0 hz1 hz2
  go_loopg [1, 2, 7] s (fun kq v1 v2 v7 w' => ∃ (Aa : Option Addr) (na ca : Nat) (xs' : List (Int × Int)) (Ab : Option Addr) (nb cb : Nat) (ys' : List (Int × Int)) (Ao : Option Addr) (op co : Nat) (pre : List (Int × Int)), v1 = .slice Aa na ca ∧ v2 = .slice Ab nb cb ∧ v7 = .slice Ao op co ∧ xs'.length = na ∧ ys'.length = nb ∧ na ≤ ca ∧ nb ≤ cb ∧ RdP w .i64 .i64 Aa xs' ∧ RdP w .i64 .i64 Ab ys' ∧ OwnF w' w.heap.size 80 2 twoP (.slice Ao op co) pre ∧ pre ++ mergeL ltP xs' ys' = mergeL ltP xs ys ∧ kq = na + nb ∧ pre.length = op ∧ op + na + nb = s ∧ Below w.heap.size w w')
  case atStart => exact ⟨A, n, c, xs, B, m, e, ys, _, 0, s, [], rfl, rfl, rfl, HN.out, HM.out, hxc, hye, KA.out, KB.out, HO2.out, rfl, hs.symm, rfl, by omega, HB2.out⟩
  case round =>
    clear HO2 HB2 KA KB
    obtain ⟨Aa, na, ca, xs', Ab, nb, cb, ys', Ao, op, co, pre, rfl, rfl, rfl, hxl, hyl, hac, hbc, hra, hrb, hO, hend, hkq, hpl, hop, hB⟩ := hrel
    have HXL := Lib.hid hxl
    have HYL := Lib.hid hyl
    have HXA := Lib.hid hra
    have HYA := Lib.hid hrb
    have HO := Lib.hid hO
    have HB := Lib.hid hB
    have HPL := Lib.hid hpl
    have hs2 : s ≤ 100000 := by omega
    clear hra hrb hO hB hpl
    match xs', ys', hxl, hyl, HXL, HYL, HXA, HYA, hend with
    | [], ys', hxl, hyl, HXL, HYL, HXA, HYA, hend =>
      have HEND := Lib.hid (show pre ++ ([] ++ ys') = mergeL ltP xs ys by rw [mergeL_nil] at hend; exact hend)
      obtain rfl : na = 0 := hxl.symm
      clear hend hxl hyl hkq
      obtain ⟨o1, ho1⟩ : ∃ o1, (pre ++ ([] : List (Int × Int))).length = o1 := ⟨_, rfl⟩
      have HOL := Lib.hid ho1
      clear ho1
      obtain ⟨o2, ho2⟩ : ∃ o2, (pre ++ ([] : List (Int × Int)) ++ ys').length = o2 := ⟨_, rfl⟩
      have HOL2 := Lib.hid ho2
      clear ho2
      have HBY1 := Lib.hid (show pre.length + (([] : List (Int × Int))).length ≤ 100000 by have h1 := HXL.out; have h2 := HPL.out; omega)
      have HBY2 := Lib.hid (show (pre ++ ([] : List (Int × Int))).length + (ys').length ≤ 100000 by have h1 := HXL.out; have h2 := HPL.out; have h3 := HYL.out; rw [List.length_append]; omega)
      go_wp2_with (first
        | (at_builtin; refine wpList_appF (q := 2) (f := twoP) _ rfl (.tmp 46) (.tmp 47) 82 80 rfl (.agg #[.int .i64 0, .int .i64 0]) 16 Try.underlying82 infoP rfl (by omega) (by omega) twoP_q twoP_one w.heap.size (.slice Ao op co) pre rfl Aa ca ([] : List (Int × Int)) (by rw [HXL.out]; rfl) HO.out w HB.out HB.out.size ((HXA.out.below HB.out).c) (by have := HBY1.out; omega) ?_; intro v5 w5 hown _ hbel _ _; obtain ⟨A5, c5, hv5, _⟩ := hown.shape; rw [HOL.out] at hv5; subst hv5; have HO5 := Lib.hid hown; have HB5 := Lib.hid hbel; clear hown hbel)
        | (at_builtin; go_must (refine wpList_appF (q := 2) (f := twoP) _ rfl (.tmp 48) (.tmp 49) 82 80 rfl (.agg #[.int .i64 0, .int .i64 0]) 16 Try.underlying82 infoP rfl (by omega) (by omega) twoP_q twoP_one w.heap.size (.slice A5 o1 c5) (pre ++ ([] : List (Int × Int))) rfl Ab cb ys' (by rw [HYL.out]; rfl) HO5.out w HB5.out HB5.out.size ((HYA.out.below HB5.out).c) (by have := HBY2.out; omega) ?_); intro v6 w6 hown _ hbel _ _; obtain ⟨A6, c6, hv6, _⟩ := hown.shape; rw [HOL2.out] at hv6; subst hv6; have HO6 := Lib.hid hown; have HB6 := Lib.hid hbel; clear hown hbel))
      go_ret
      exact ⟨_, rfl, by have h := HO6.out; rw [List.append_assoc, HEND.out] at h; exact h, HB6.out⟩
    | x :: xs1, [], hxl, hyl, HXL, HYL, HXA, HYA, hend =>
      have HEND := Lib.hid (show pre ++ ((x :: xs1) ++ []) = mergeL ltP xs ys by rw [mergeL_nil2] at hend; rw [List.append_nil]; exact hend)
      obtain rfl : nb = 0 := hyl.symm
      have hna : decide (0 < na) = true := decide_eq_true (by simp at hxl; omega)
      clear hend hxl hyl hkq
      obtain ⟨o1, ho1⟩ : ∃ o1, (pre ++ (x :: xs1)).length = o1 := ⟨_, rfl⟩
      have HOL := Lib.hid ho1
      clear ho1
      obtain ⟨o2, ho2⟩ : ∃ o2, (pre ++ (x :: xs1) ++ ([] : List (Int × Int))).length = o2 := ⟨_, rfl⟩
      have HOL2 := Lib.hid ho2
      clear ho2
      have HBY1 := Lib.hid (show pre.length + ((x :: xs1)).length ≤ 100000 by have h1 := HXL.out; have h2 := HPL.out; omega)
      have HBY2 := Lib.hid (show (pre ++ (x :: xs1)).length + (([] : List (Int × Int))).length ≤ 100000 by have h1 := HXL.out; have h2 := HPL.out; have h3 := HYL.out; rw [List.length_append]; omega)
      go_wp2_with (first
        | (at_builtin; refine wpList_appF (q := 2) (f := twoP) _ rfl (.tmp 46) (.tmp 47) 82 80 rfl (.agg #[.int .i64 0, .int .i64 0]) 16 Try.underlying82 infoP rfl (by omega) (by omega) twoP_q twoP_one w.heap.size (.slice Ao op co) pre rfl Aa ca (x :: xs1) (by rw [HXL.out]; rfl) HO.out w HB.out HB.out.size ((HXA.out.below HB.out).c) (by have := HBY1.out; omega) ?_; intro v5 w5 hown _ hbel _ _; obtain ⟨A5, c5, hv5, _⟩ := hown.shape; rw [HOL.out] at hv5; subst hv5; have HO5 := Lib.hid hown; have HB5 := Lib.hid hbel; clear hown hbel)
        | (at_builtin; go_must (refine wpList_appF (q := 2) (f := twoP) _ rfl (.tmp 48) (.tmp 49) 82 80 rfl (.agg #[.int .i64 0, .int .i64 0]) 16 Try.underlying82 infoP rfl (by omega) (by omega) twoP_q twoP_one w.heap.size (.slice A5 o1 c5) (pre ++ (x :: xs1)) rfl Ab cb ([] : List (Int × Int)) (by rw [HYL.out]; rfl) HO5.out w HB5.out HB5.out.size ((HYA.out.below HB5.out).c) (by have := HBY2.out; omega) ?_); intro v6 w6 hown _ hbel _ _; obtain ⟨A6, c6, hv6, _⟩ := hown.shape; rw [HOL2.out] at hv6; subst hv6; have HO6 := Lib.hid hown; have HB6 := Lib.hid hbel; clear hown hbel))
      go_ret
      exact ⟨_, rfl, by have h := HO6.out; rw [List.append_assoc, HEND.out] at h; exact h, HB6.out⟩
    | x :: xs1, y :: ys1, hxl, hyl, HXL, HYL, HXA, HYA, hend =>
      obtain ⟨x0, x1⟩ := x
      obtain ⟨y0, y1⟩ := y
      have hna : decide (0 < na) = true := decide_eq_true (by simp at hxl; omega)
      have hnb : decide (0 < nb) = true := decide_eq_true (by simp at hyl; omega)
      obtain ⟨ad, rfl, hx0, hx1⟩ := HXA.out.2 0 (by simp)
      obtain ⟨bd, rfl, hy0, hy1⟩ := HYA.out.2 0 (by simp)
      have h1a : (1 : Int) ≤ (na : Int) := by have := of_decide_eq_true hna; omega
      have h1b : (1 : Int) ≤ (nb : Int) := by have := of_decide_eq_true hnb; omega
      have h2a : 1 ≤ na := of_decide_eq_true hna
      have h2b : 1 ≤ nb := of_decide_eq_true hnb
      have h3a : (na : Int) ≤ (ca : Int) := by omega
      have h3b : (nb : Int) ≤ (cb : Int) := by omega
      have hax : 0 < na := of_decide_eq_true hna
      have hby : 0 < nb := of_decide_eq_true hnb
      rw [← two_addP] at hx1 hy1
      have dx0 := cell_below HB.out hx0 (World.block_lt_of_cell? _ _ hx0)
      have dx1 := cell_below HB.out hx1 (World.block_lt_of_cell? _ _ hx1)
      have dy0 := cell_below HB.out hy0 (World.block_lt_of_cell? _ _ hy0)
      have dy1 := cell_below HB.out hy1 (World.block_lt_of_cell? _ _ hy1)
      simp only [Nat.zero_mul, List.getD_cons_zero] at dx0 dx1 dy0 dy1
      replace dx0 : wr.cell? ad = some (.int .i64 x0) := dx0
      replace dx1 : wr.cell? ⟨ad.block, ad.off + 1, none⟩ = some (.int .i64 x1) := dx1
      replace dy0 : wr.cell? bd = some (.int .i64 y0) := dy0
      replace dy1 : wr.cell? ⟨bd.block, bd.off + 1, none⟩ = some (.int .i64 y1) := dy1
      clear hx0 hx1 hy0 hy1
      obtain ⟨q, hcl⟩ : ∃ q, ltP (y0, y1) (x0, x1) = q := ⟨_, rfl⟩
      have HQ := Lib.hid hcl
      have hbw : Below wr.heap.size wr wr := Below.refl _ _
      clear hcl
      go_wp2_with fail
      go_region_held3 (fun w' => w'.cell? ad = some (.int .i64 x0) ∧ w'.cell? ⟨ad.block, ad.off + 1, none⟩ = some (.int .i64 x1) ∧ w'.cell? bd = some (.int .i64 y0) ∧ w'.cell? ⟨bd.block, bd.off + 1, none⟩ = some (.int .i64 y1) ∧ Below wr.heap.size wr w')
        (first | exact ⟨cell_below (B := wr.heap.size) (w := wr) (by first | ((repeat (first | with_reducible assumption | with_reducible exact Below.refl _ _ | with_reducible apply below_drew1 | with_reducible apply below_alloc1)); done)) dx0 (World.block_lt_of_cell? _ _ dx0), cell_below (B := wr.heap.size) (w := wr) (by first | ((repeat (first | with_reducible assumption | with_reducible exact Below.refl _ _ | with_reducible apply below_drew1 | with_reducible apply below_alloc1)); done)) dx1 (World.block_lt_of_cell? _ _ dx1), cell_below (B := wr.heap.size) (w := wr) (by first | ((repeat (first | with_reducible assumption | with_reducible exact Below.refl _ _ | with_reducible apply below_drew1 | with_reducible apply below_alloc1)); done)) dy0 (World.block_lt_of_cell? _ _ dy0), cell_below (B := wr.heap.size) (w := wr) (by first | ((repeat (first | with_reducible assumption | with_reducible exact Below.refl _ _ | with_reducible apply below_drew1 | with_reducible apply below_alloc1)); done)) dy1 (World.block_lt_of_cell? _ _ dy1), (by first | ((repeat (first | with_reducible assumption | with_reducible exact Below.refl _ _ | with_reducible apply below_drew1 | with_reducible apply below_alloc1)); done))⟩ | go_keep)
        (first
          | (go_at_call 48; go_split_ands; (with_reducible refine (PLess_calls y0 y1 x0 x1 _).mono ?_); rintro e w7 ⟨he, hbq⟩; rw [show lessB y0 y1 x0 x1 = q from HQ.out] at he; subst he; have hB7 : Below wr.heap.size wr w7 := Below.after (by first | ((repeat (first | with_reducible assumption | with_reducible exact Below.refl _ _ | with_reducible apply below_drew1 | with_reducible apply below_alloc1)); done)) hbq))
      all_goals
        have HO7 := Lib.hid (HO.out.keep hB7)
        have HB8 := Lib.hid (HB.out.trans (hB7.mono HB.out.size))
        have gy0 := cell_below hB7 dy0 (World.block_lt_of_cell? _ _ dy0)
        have gy1 := cell_below hB7 dy1 (World.block_lt_of_cell? _ _ dy1)
        have gx0 := cell_below hB7 dx0 (World.block_lt_of_cell? _ _ dx0)
        have gx1 := cell_below hB7 dx1 (World.block_lt_of_cell? _ _ dx1)
        have ay0 := fun o => (World.cell?_alloc_lt (o := o) w7 _ (World.block_lt_of_cell? _ _ gy0)).trans gy0
        have ay1 := fun o => (World.cell?_alloc_lt (o := o) w7 _ (World.block_lt_of_cell? _ _ gy1)).trans gy1
        have ax0 := fun o => (World.cell?_alloc_lt (o := o) w7 _ (World.block_lt_of_cell? _ _ gx0)).trans gx0
        have ax1 := fun o => (World.cell?_alloc_lt (o := o) w7 _ (World.block_lt_of_cell? _ _ gx1)).trans gx1
        clear dx0 dx1 dy0 dy1 hbw hB7
        cases q with
        | true =>
          go_wp2_with fail
          by_cases hc1 : cb = 1
          all_goals
            go_region_law
              (first
                | (refine step_appF (q := 2) (f := twoP) _ (by rfl) (.tmp 30) (.tmp 34) 82 80 (by rfl) (.agg #[.int .i64 0, .int .i64 0]) 16 Try.underlying82 infoP rfl (by omega) (by omega) twoP_q twoP_one w.heap.size (.slice Ao op co) pre (by rfl) (some ⟨w7.heap.size, 0, none⟩) 1 [(y0, y1)] (by rfl) (by repeat (first | exact HO7.out | apply OwnF.alloc1 | apply OwnF.drew1)) w (by repeat (first | with_reducible exact HB8.out | with_reducible apply below_drew1 | with_reducible apply below_alloc1)) (by have := HB8.out.size; simp; omega) (RdC.block (cs := #[.int .i64 y0, .int .i64 y1]) (heap_alloc_new _ _)) (by have := HPL.out; simp; omega) ?_; intro v9 w9 ho _ hbel _ _; obtain ⟨A1, c1, hv9, _⟩ := ho.shape; rw [show (pre ++ [(y0, y1)]).length = op + 1 by rw [List.length_append, HPL.out]; rfl] at hv9; subst hv9; have HO9 := Lib.hid ho; have HB9 := Lib.hid hbel; clear ho hbel))
            all_goals
              go_wp2_with fail
              (try simp only [Act.put, List.setIfInBounds_toArray, List.set_cons_zero, List.set_cons_succ])
              go_roundg (na + nb - 1)
              case measure => omega
              case rel =>
                have hln : ys1.length = nb - 1 := by simp at hyl; omega
                exact ⟨some ad, na, ca, (x0, x1) :: xs1, _, _, _, ys1, A1, op + 1, c1, pre ++ [(y0, y1)], rfl, rfl, rfl, hxl, hln, hac, by omega, HXA.out, (by first | exact HYA.out.tailP | (rw [List.length_eq_zero_iff.1 (show ys1.length = 0 by omega)]; exact RdP.nil _ _ _ _)), HO9.out, by rw [mergeL_snd HQ.out] at hend; rw [List.append_assoc]; exact hend, by omega, by rw [List.length_append, HPL.out]; rfl, by omega, HB9.out⟩
        | false =>
          go_wp2_with fail
          by_cases hc1 : ca = 1
          all_goals
            go_region_law
              (first
                | (refine step_appF (q := 2) (f := twoP) _ (by rfl) (.tmp 38) (.tmp 42) 82 80 (by rfl) (.agg #[.int .i64 0, .int .i64 0]) 16 Try.underlying82 infoP rfl (by omega) (by omega) twoP_q twoP_one w.heap.size (.slice Ao op co) pre (by rfl) (some ⟨w7.heap.size, 0, none⟩) 1 [(x0, x1)] (by rfl) (by repeat (first | exact HO7.out | apply OwnF.alloc1 | apply OwnF.drew1)) w (by repeat (first | with_reducible exact HB8.out | with_reducible apply below_drew1 | with_reducible apply below_alloc1)) (by have := HB8.out.size; simp; omega) (RdC.block (cs := #[.int .i64 x0, .int .i64 x1]) (heap_alloc_new _ _)) (by have := HPL.out; simp; omega) ?_; intro v9 w9 ho _ hbel _ _; obtain ⟨A1, c1, hv9, _⟩ := ho.shape; rw [show (pre ++ [(x0, x1)]).length = op + 1 by rw [List.length_append, HPL.out]; rfl] at hv9; subst hv9; have HO9 := Lib.hid ho; have HB9 := Lib.hid hbel; clear ho hbel))
            all_goals
              go_wp2_with fail
              (try simp only [Act.put, List.setIfInBounds_toArray, List.set_cons_zero, List.set_cons_succ])
              go_roundg (na + nb - 1)
              case measure => omega
              case rel =>
                have hln : xs1.length = na - 1 := by simp at hxl; omega
                exact ⟨_, _, _, xs1, some bd, nb, cb, (y0, y1) :: ys1, A1, op + 1, c1, pre ++ [(x0, x1)], rfl, rfl, rfl, hln, hyl, by omega, hbc, (by first | exact HXA.out.tailP | (rw [List.length_eq_zero_iff.1 (show xs1.length = 0 by omega)]; exact RdP.nil _ _ _ _)), HYA.out, HO9.out, by rw [mergeL_fst HQ.out] at hend; rw [List.append_assoc]; exact hend, by omega, by rw [List.length_append, HPL.out]; rfl, by omega, HB9.out⟩
end Go.Proofs.Ytacgkoclammggaa
