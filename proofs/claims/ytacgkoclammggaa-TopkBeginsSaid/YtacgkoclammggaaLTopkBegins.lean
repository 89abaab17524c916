
/-
  The statement TopkBegins: the walk. Conditions: the numbers lie in their kinds' ranges.
-/
import Derived.Test.YtacgkoclammggaaStab8R
import Derived.Test.YtacgkoclammggaaLaw08
namespace Go.Proofs.Ytacgkoclammggaa
open Go.RowKit
set_option linter.unusedVariables false
set_option maxRecDepth 100000
set_option linter.unusedSimpArgs false

set_option maxHeartbeats 6400000 in
set_option maxRecDepth 1000000 in
theorem TopkBegins_law (A : Option Addr) (c : Nat) (l : List (Int × Int)) (a b : Int) (w : World) (hcl : l.length ≤ c) (ha : RdP w .i64 .i64 A l) (hu : ∀ x ∈ l, (Lit.int .i64 x.1).wf = true ∧ (Lit.int .i64 x.2).wf = true) (hka : (Lit.int .u8 a).wf = true) (hkb : (Lit.int .u8 b).wf = true) :
    Calls Try.prog 16 #[.slice A l.length c, .int .u8 a, .int .u8 b] w fun e w' => e = .returned (.bool true) ∧ Below w.heap.size w w' := by
  have KA := Lib.hid ha
  clear ha hu
  by_cases h0 : 100 < l.length
  · have h0' : decide (100 < (l.length : Int)) = true := by simp; omega
    go_enter Try.func16, Try.ntmps16
    go_wp2_with fail
    refine (awake8_calls _).mono ?_
    rintro e w1 ⟨he, hb1⟩
    subst he
    go_wp2_with fail
    go_ret
    exact ⟨rfl, hb1⟩
  have h0' : decide (100 < (l.length : Int)) = false := by simp; omega
  obtain ⟨hwa, ha0, ha255⟩ := wrap_u8 hka
  obtain ⟨hwb, hb0, hb255⟩ := wrap_u8 hkb
  obtain ⟨s, hs⟩ : ∃ s, a + b = s := ⟨_, rfl⟩
  have hws : IntKind.i64.wrap (a + b) = s := by rw [i64_w, hs]; exact wrap64_id _ (by omega)
  obtain ⟨N, hN⟩ : ∃ N, l.length = N := ⟨_, rfl⟩
  have HN := Lib.hid hN
  rw [hN] at h0 h0' hcl ⊢
  have hsc := fun (W : World) (hW : RdP W .i64 .i64 A l) => SortSR_calls A c l W hW (by omega) (by simp [List.pairwise_iff_getElem])
  obtain ⟨T, hT⟩ : ∃ T, sortI ltR (0, 0) l = T := ⟨_, rfl⟩
  have hTl : T.length = N := by rw [← hT, sortI_length, hN]
  rw [hT] at hsc
  have HSC := Lib.hid hsc
  have HT := Lib.hid hT
  have HTL := Lib.hid hTl
  obtain ⟨XA, hXA⟩ : ∃ X, T.take a.toNat = X := ⟨_, rfl⟩
  obtain ⟨XB, hXB⟩ : ∃ X, T.take s.toNat = X := ⟨_, rfl⟩
  obtain ⟨n, hn⟩ : ∃ n, XA.length = n := ⟨_, rfl⟩
  obtain ⟨m, hm⟩ : ∃ n, XB.length = n := ⟨_, rfl⟩
  have hn2 : n = min a.toNat N := by rw [← hn, ← hXA, List.length_take, hTl]
  have hm2 : m = min s.toNat N := by rw [← hm, ← hXB, List.length_take, hTl]
  have hmin1 : min (N : Int) a = (n : Int) := by omega
  have hmin2 : min (N : Int) s = (m : Int) := by omega
  have hnN : n ≤ N := by omega
  have hmN : m ≤ N := by omega
  have HE1 := Lib.hid (show T.take n = XA by rw [hn2, ← hTl, ← hXA, ← List.take_take, List.take_length])
  have HE2 := Lib.hid (show T.take m = XB by rw [hm2, ← hTl, ← hXB, ← List.take_take, List.take_length])
  have HEX := Lib.hid hXA
  have HEY := Lib.hid hXB
  have HLX := Lib.hid hn
  have HLY := Lib.hid hm
  clear hN hsc hT hTl hka hkb hXA hXB hn hm hn2 hm2
  go_enter Try.func16, Try.ntmps16
  go_wp2_with fail
  refine (awake8_calls _).mono ?_
  rintro e w1 ⟨he, hb1⟩
  subst he
  have LA1 := Lib.hid (KA.out.below hb1)
  have BW1 := Lib.hid hb1
  have hss := HSC.out w1 LA1.out
  rw [HN.out] at hss
  have HSS := Lib.hid hss
  clear KA hb1 hss
  go_wp2_with fail
  refine HSS.out.mono ?_
  rintro e w2 ⟨v, he, hO, hb2⟩
  subst he
  obtain ⟨AT, cT, rfl, hcT⟩ := hO.shape
  rw [HTL.out] at hO hcT ⊢
  have LA2 := Lib.hid (LA1.out.below hb2)
  have BW2 := Lib.hid (BW1.out.trans (hb2.mono BW1.out.size))
  have OT2 := Lib.hid hO
  clear hO hb2 HSS HSC LA1 BW1
  go_wp2_with fail
  refine (Values_calls A N c w2).mono ?_
  rintro e vX ⟨he, hw⟩
  subst he
  have hbn : Below w2.heap.size w2 vX := by rw [hw]; exact below_alloc1 (Below.refl _ _) _
  have hbv : vX.heap[w2.heap.size]? = some (.cells #[.slice A N c] 49 (0, 0)) := by rw [hw]; exact heap_alloc_new _ _
  have LAX := Lib.hid (LA2.out.below hbn)
  have BWX := Lib.hid (BW2.out.trans (hbn.mono BW2.out.size))
  have OTX := Lib.hid (OT2.out.keep hbn)
  have hof := Of_calls a w2.heap.size A c l vX (by rw [HN.out]; exact hbv) LAX.out (by rw [HN.out]; omega)
  clear hw hbn hbv LA2 BW2 OT2
  rw [HT.out, HEX.out] at hof
  have HOF := Lib.hid hof
  clear hof
  go_wp2_with fail
  refine HOF.out.mono ?_
  rintro e wX ⟨vO, he, hO, hbo⟩
  subst he
  obtain ⟨AX, cX, rfl, hcX⟩ := hO.shape
  rw [HLX.out] at hO hcX ⊢
  have LA3 := Lib.hid (LAX.out.below hbo)
  have BW3 := Lib.hid (BWX.out.trans (hbo.mono BWX.out.size))
  have OT3 := Lib.hid (OTX.out.keep hbo)
  have RX := Lib.hid (hO.rdp rfl)
  clear hO HOF LAX BWX OTX
  go_wp2_with fail
  refine (Values_calls A N c wX).mono ?_
  rintro e vY ⟨he, hw⟩
  subst he
  have hbn : Below wX.heap.size wX vY := by rw [hw]; exact below_alloc1 (Below.refl _ _) _
  have hbv : vY.heap[wX.heap.size]? = some (.cells #[.slice A N c] 49 (0, 0)) := by rw [hw]; exact heap_alloc_new _ _
  have LAY := Lib.hid (LA3.out.below hbn)
  have BWY := Lib.hid (BW3.out.trans (hbn.mono BW3.out.size))
  have OTY := Lib.hid (OT3.out.keep hbn)
  have RXY := Lib.hid (RX.out.below hbn)
  have hof := Of_calls s wX.heap.size A c l vY (by rw [HN.out]; exact hbv) LAY.out (by rw [HN.out]; omega)
  clear hw hbn hbv LA3 BW3 OT3
  rw [HT.out, HEY.out] at hof
  have HOF := Lib.hid hof
  clear hof
  go_wp2_with fail
  refine HOF.out.mono ?_
  rintro e wY ⟨vO, he, hO, hbo⟩
  subst he
  obtain ⟨AY, cY, rfl, hcY⟩ := hO.shape
  rw [HLY.out] at hO hcY ⊢
  have LA4 := Lib.hid (LAY.out.below hbo)
  have BW4 := Lib.hid (BWY.out.trans (hbo.mono BWY.out.size))
  have OT4 := Lib.hid (OTY.out.keep hbo)
  have RY := Lib.hid (hO.rdp rfl)
  have RX4 := Lib.hid (RXY.out.below hbo)
  clear hO HOF LAY BWY OTY
  have hnc : n ≤ cT := by omega
  have hmc : m ≤ cT := by omega
  have hs1 := fun (W : World) (h1 : RdP W .i64 .i64 AX XA) (h2 : RdP W .i64 .i64 AT T) => SameR_calls AX AT cX cT XA XA W h1 (by have h := h2.take n; rw [HE1.out] at h; exact h)
  have hs2 := fun (W : World) (h1 : RdP W .i64 .i64 AY XB) (h2 : RdP W .i64 .i64 AT T) => SameR_calls AY AT cY cT XB XB W h1 (by have h := h2.take m; rw [HE2.out] at h; exact h)
  simp only [decide_true, HLX.out, HLY.out] at hs1 hs2
  have HS1 := Lib.hid (hs1 wY RX4.out (OT4.out.rdp rfl))
  have HS2 := Lib.hid (fun q => hs2 (wY.drewN q) (RY.out.below (below_drewN_self _ _)) ((OT4.out.keep (below_drewN_self _ _)).rdp rfl))
  clear hs1 hs2
  go_upto_region 7 with (fail)
  go_cut [10, 11] (fun s10 s11 wx => s10 = .int .i64 (n : Int) ∧ s11 = .int .i64 (m : Int) ∧ wx = wY)
  case first =>
    by_cases h1 : (N : Int) ≤ a <;> by_cases h2 : (N : Int) ≤ s
    all_goals
      go_wp2_with fail
      all_goals
        go_meet
        exact ⟨congrArg (Value.int .i64) (by omega), congrArg (Value.int .i64) (by omega), rfl⟩
  obtain ⟨rfl, rfl, hwc⟩ := hcut
  rw [hwc]
  clear hwc hmin1 hmin2
  go_wp2_with fail
  refine HS1.out.mono ?_
  rintro e _ ⟨he, q1, rfl⟩
  subst he
  go_wp2_with fail
  refine (HS2.out q1).mono ?_
  rintro e _ ⟨he, q2, rfl⟩
  subst he
  go_wp2_with fail
  go_ret
  exact ⟨rfl, BW4.out.trans ((below_drewN_self _ _).mono BW4.out.size)⟩
end Go.Proofs.Ytacgkoclammggaa
