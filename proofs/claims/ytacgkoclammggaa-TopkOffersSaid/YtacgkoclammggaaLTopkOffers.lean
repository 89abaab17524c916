
/-
  The statement TopkOffers: the walk. Conditions: the numbers lie in their kinds' ranges.
-/
import Derived.Test.YtacgkoclammggaaPrs
namespace Go.Proofs.Ytacgkoclammggaa
open Go.RowKit
set_option linter.unusedVariables false
set_option maxRecDepth 100000
set_option linter.unusedSimpArgs false

theorem Only.after {S T : Nat → Prop} {a b c : World} (h1 : Only S a b) (h2 : Only T b c) (h : ∀ q, q < a.heap.size → T q → S q) : Only S a c :=
  ⟨h2.os.trans h1.os, h2.tape.trans h1.tape, h2.output.trans h1.output, Nat.le_trans h1.size h2.size, fun k hk hs => (h2.block k (by have := h1.size; omega) fun ht => hs (h k hk ht)).trans (h1.block k hk hs)⟩
/-- Blocks of the selector: those of its beginning, or new ones. -/
def Mid (a b : Nat) (q : Nat) : Prop := a ≤ q ∧ q < b
theorem prs_inc (l : List Int) (k : Nat) : Inc ((prs 0 l).take k) := fun i x hx => by
  rw [prs_take, prs_at] at hx
  obtain ⟨y, _, rfl⟩ := Option.map_eq_some_iff.1 hx
  simp
/-- Between two rounds: i were offered. -/
def JO (l : List Int) (most : Int) (AP : Option Addr) (cP : Nat) (a b c : Nat) (w3 : World) (bs : Nat) (i : Nat) (w' : World) (s : Sl) (L : List (Int × Int × Int)) : Prop :=
  SelQ w' s most (i : Int) L ∧ Keep aheadQ most (ents ((prs 0 l).take i)) L ∧ s.bs = bs ∧ (∀ x, SlB s x → a ≤ x ∧ (x < b ∨ c ≤ x)) ∧ Only (Mid a b) w3 w' ∧ OwnF w' b 80 2 twoP (.slice AP l.length cP) (prs 0 l)
set_option maxHeartbeats 6400000 in
set_option maxRecDepth 1000000 in
theorem TopkOffers_law (A : Option Addr) (c : Nat) (l : List Int) (most : Int) (w : World) (ha : Rd w .i64 A l) (hu : ∀ n ∈ l, (Lit.int .i64 n).wf = true) (na : A = none → l = [] ∧ c = 0) (la : l.length * 8 ≤ 140737488351232) (hx : (Lit.int .i64 most).wf = true) :
    Calls Try.prog 11 #[.slice A l.length c, .int .i64 most] w fun e w' => e = .returned (.bool true) ∧ Below w.heap.size w w' := by
  have KA := Lib.hid ha
  clear ha hu na la
  by_cases h0 : 100 < l.length
  · have h0' : decide (100 < (l.length : Int)) = true := by simp; omega
    go_enter Try.func11, Try.ntmps11
    go_wp2_with fail
    refine (awake8_calls _).mono ?_
    rintro e w1 ⟨he, hb1⟩
    subst he
    go_wp2_with fail
    go_ret
    exact ⟨rfl, hb1⟩
  have h0' : decide (100 < (l.length : Int)) = false := by simp; omega
  have hl100 : l.length ≤ 100 := by omega
  have hpl := prs_length 0 l
  obtain ⟨N, hN⟩ : ∃ N, l.length = N := ⟨_, rfl⟩
  rw [hN] at h0 h0' hl100 hpl ⊢
  have HN := Lib.hid hN
  have HPL := Lib.hid hpl
  clear hN hpl
  go_enter Try.func11, Try.ntmps11
  go_wp2_with fail
  refine (awake8_calls _).mono ?_
  rintro e w1 ⟨he, hb1⟩
  subst he
  have hz1 := hb1.size
  have KA1 := Lib.hid (KA.out.below hb1)
  have BW1 := Lib.hid hb1
  clear KA hb1
  go_wp2_with fail
  refine (SNewQ_calls most w1).mono ?_
  rintro e w2 ⟨⟨bs, bx, b, v⟩, he, hsel, hb2, hfr, hbx, _⟩
  subst he
  have hz2 := hb2.size
  have hlt2 := hsel.lt
  have HS2 := Lib.hid hsel
  have KA2 := Lib.hid (KA1.out.below hb2)
  have BW2 := Lib.hid (BW1.out.trans (hb2.mono BW1.out.size))
  clear hsel hb2 KA1 BW1
  go_wp2_with fail
  have hpc := pairs_calls A c l w2 KA2.out (by rw [HN.out]; omega)
  rw [HN.out] at hpc
  refine hpc.mono ?_
  rintro e w3 ⟨vP, he, hO, hb3⟩
  subst he
  clear hpc
  obtain ⟨AP, cP, rfl, hcP⟩ := hO.shape
  rw [HPL.out] at hO hcP ⊢
  have hz3 := hb3.size
  have HJ0 : Hid (JO l most AP cP w1.heap.size w2.heap.size w3.heap.size w3 bs 0 w3 ⟨bs, bx, b, v⟩ []) := Lib.hid ⟨HS2.out.keep hb3, by rw [List.take_zero]; exact Keep.nil _ _, rfl, fun x hx => ⟨hfr x hx, .inl (hlt2.1 x hx)⟩, Only.refl _ _, by rw [HN.out]; exact hO⟩
  have HPB := Lib.hid (fun q (h : (Value.slice AP N cP).ownBlock = some q) => (hO.lt q h).2)
  have BW3 := Lib.hid (BW2.out.trans (hb3.mono BW2.out.size))
  clear HS2 hO hb3 hfr KA2 BW2
  go_wp2_with fail
  go_loopg [7] N (fun kq v7 w' => ∃ s L, kq ≤ N ∧ v7 = .int .i64 ((N - kq : Nat) : Int) ∧ JO l most AP cP w1.heap.size w2.heap.size w3.heap.size w3 bs (N - kq) w' s L)
  case atStart => exact ⟨⟨bs, bx, b, v⟩, [], Nat.le_refl _, by simp, by simp only [Nat.sub_self]; exact HJ0.out⟩
  case round =>
    clear HJ0
    obtain ⟨s, L, hkq, rfl, hsel, hkp, rfl, hfr, hon, hop⟩ := hrel
    rw [HN.out] at hop
    have HSEL := Lib.hid hsel
    have HKP := Lib.hid hkp
    have HFR := Lib.hid hfr
    have HON := Lib.hid hon
    have HOP := Lib.hid hop
    clear hsel hkp hfr hon hop
    have hz3r := HON.out.size
    have hLl : L.length ≤ 100000 := by have h := HKP.out.length; rw [ents_length, List.length_take, HPL.out] at h; omega
    cases gk with
    | zero =>
      simp only [Nat.sub_zero] at HSEL HKP ⊢
      have hpt : (prs 0 l).take N = prs 0 l := List.take_of_length_le (by rw [HPL.out]; exact Nat.le_refl _)
      rw [hpt] at HKP
      have hinc : Inc (prs 0 l) := by have h := prs_inc l N; rwa [hpt] at h
      have HINC := Lib.hid hinc
      obtain ⟨F, hF⟩ : ∃ F, (sortI ltP (0, 0) (prs 0 l)).take most.toNat = F := ⟨_, rfl⟩
      have HF := Lib.hid hF
      obtain ⟨nF, hnF⟩ : ∃ n, F.length = n := ⟨_, rfl⟩
      have HNF := Lib.hid hnF
      clear hpt hinc hF hnF
      have HSx := HSEL
      have HKx := HKP
      have HFRx := HFR
      have HONx := HON
      have HOPx := HOP
      have hLlx := hLl
      clear HSEL HKP HFR HON HOP
      go_wp2_with fail
      refine (ListQ_calls s most (N : Int) L wr HSx.out hLlx).mono ?_
      rintro e wax ⟨sx, Lx, S, vO, he, hs2, hp2, hto2, hon2, hpS, hsS, hO, hsep⟩
      subst he
      rw [keepQ HINC.out HKx.out hpS hsS, HF.out] at hO
      obtain ⟨ABx, cBx, rfl, hcBx⟩ := hO.shape
      rw [HNF.out] at hO hcBx ⊢
      have hzx := hon2.size
      have hszwx := HONx.out.size
      have HSa := Lib.hid hs2
      have hLlxa : Lx.length ≤ 100000 := by rw [hp2.length_eq]; exact hLlx
      have HKa := Lib.hid (HKx.out.perm hp2)
      have HFRa := Lib.hid (show ∀ x, SlB sx x → w1.heap.size ≤ x ∧ (x < w2.heap.size ∨ w3.heap.size ≤ x) from fun x hx => by
        by_cases h : x < wr.heap.size
        · exact HFRx.out x (hto2.mem h hx)
        · omega)
      have HONa := Lib.hid (HONx.out.after hon2 fun q hq h => by have h2 := HFRx.out q h; exact ⟨h2.1, by omega⟩)
      have HOPa := Lib.hid (HOPx.out.only hon2 fun q hq h => by have h1 := HFRx.out q h; have h2 := (HOPx.out.lt q hq).1; have h3 := HPB.out q hq; omega)
      have HBSa := Lib.hid hto2.1
      have HOa := Lib.hid hO
      clear hs2 hp2 hto2 hon2 hpS hsS hO hsep HSx HKx HFRx HONx HOPx
      go_wp2_with fail
      have hfc := First_calls AP cP (prs 0 l) most wax (HOPa.out.rdp rfl) (by rw [HPL.out]; omega)
      rw [HPL.out, HF.out, HNF.out] at hfc
      refine hfc.mono ?_
      rintro e wbx ⟨AFx, cFx, he, hRF, _, hb7⟩
      subst he
      have hsm := SameP_calls ABx AFx cBx cFx F F wbx ((HOa.out.keep hb7).rdp rfl) hRF
      rw [decide_eq_true (rfl : F = F), HNF.out] at hsm
      have HSM := Lib.hid hsm
      have HSb := Lib.hid (HSa.out.keep hb7)
      have HONb := Lib.hid (HONa.out.trans (Only.of_below hb7))
      have HOPb := Lib.hid (HOPa.out.keep hb7)
      clear hfc hRF hb7 hsm HSa HONa HOPa HOa
      go_wp2_with fail
      refine HSM.out.mono ?_
      rintro e _ ⟨he, qx, rfl⟩
      subst he
      obtain ⟨wcx, hwc⟩ : ∃ W, wbx.drewN qx = W := ⟨_, rfl⟩
      have hb8 : Below wbx.heap.size wbx wcx := by rw [← hwc]; exact below_drewN_self _ _
      rw [hwc]
      have HSy := Lib.hid (HSb.out.keep hb8)
      have HKy := HKa
      have HFRy := HFRa
      have HONy := Lib.hid (HONb.out.trans (Only.of_below hb8))
      have HOPy := Lib.hid (HOPb.out.keep hb8)
      have hLly := hLlxa
      rw [← HBSa.out]
      clear hwc hb8 HSb HONb HOPb HSM HBSa HKa HFRa
      go_wp2_with fail
      refine (ListQ_calls sx most (N : Int) Lx wcx HSy.out hLly).mono ?_
      rintro e way ⟨sy, Ly, S, vO, he, hs2, hp2, hto2, hon2, hpS, hsS, hO, hsep⟩
      subst he
      rw [keepQ HINC.out HKy.out hpS hsS, HF.out] at hO
      obtain ⟨ABy, cBy, rfl, hcBy⟩ := hO.shape
      rw [HNF.out] at hO hcBy ⊢
      have hzy := hon2.size
      have hszwy := HONy.out.size
      have HSa := Lib.hid hs2
      have hLlya : Ly.length ≤ 100000 := by rw [hp2.length_eq]; exact hLly
      have HKa := Lib.hid (HKy.out.perm hp2)
      have HFRa := Lib.hid (show ∀ x, SlB sy x → w1.heap.size ≤ x ∧ (x < w2.heap.size ∨ w3.heap.size ≤ x) from fun x hx => by
        by_cases h : x < wcx.heap.size
        · exact HFRy.out x (hto2.mem h hx)
        · omega)
      have HONa := Lib.hid (HONy.out.after hon2 fun q hq h => by have h2 := HFRy.out q h; exact ⟨h2.1, by omega⟩)
      have HOPa := Lib.hid (HOPy.out.only hon2 fun q hq h => by have h1 := HFRy.out q h; have h2 := (HOPy.out.lt q hq).1; have h3 := HPB.out q hq; omega)
      have HBSa := Lib.hid hto2.1
      have HOa := Lib.hid hO
      clear hs2 hp2 hto2 hon2 hpS hsS hO hsep HSy HKy HFRy HONy HOPy
      go_wp2_with fail
      have hfc := First_calls AP cP (prs 0 l) most way (HOPa.out.rdp rfl) (by rw [HPL.out]; omega)
      rw [HPL.out, HF.out, HNF.out] at hfc
      refine hfc.mono ?_
      rintro e wby ⟨AFy, cFy, he, hRF, _, hb7⟩
      subst he
      have hsm := SameP_calls ABy AFy cBy cFy F F wby ((HOa.out.keep hb7).rdp rfl) hRF
      rw [decide_eq_true (rfl : F = F), HNF.out] at hsm
      have HSM := Lib.hid hsm
      have HSb := Lib.hid (HSa.out.keep hb7)
      have HONb := Lib.hid (HONa.out.trans (Only.of_below hb7))
      have HOPb := Lib.hid (HOPa.out.keep hb7)
      clear hfc hRF hb7 hsm HSa HONa HOPa HOa
      go_wp2_with fail
      refine HSM.out.mono ?_
      rintro e _ ⟨he, qy, rfl⟩
      subst he
      obtain ⟨wcy, hwc⟩ : ∃ W, wby.drewN qy = W := ⟨_, rfl⟩
      have hb8 : Below wby.heap.size wby wcy := by rw [← hwc]; exact below_drewN_self _ _
      rw [hwc]
      have HONz := Lib.hid (HONb.out.trans (Only.of_below hb8))
      clear hwc hb8 HSb HONb HOPb HSM HBSa HKa HFRa
      go_wp2_with fail
      go_ret
      exact ⟨rfl, BW3.out.trans (HONz.out.below BW3.out.size fun q hq h => by have h1 := h.1; omega)⟩
    | succ k1 =>
      obtain ⟨i, hi⟩ : ∃ i, N - (k1 + 1) = i := ⟨_, rfl⟩
      have hi2 : N - k1 = i + 1 := by omega
      have HI := Lib.hid hi2
      have hiN : i < N := by omega
      have bi : (i : Int) < (N : Int) := by omega
      have bi0 : (0 : Int) ≤ (i : Int) := by omega
      have hic : (i : Int) + 1 ≤ (cP : Int) := by omega
      rw [hi] at HSEL HKP ⊢
      clear hi hi2
      obtain ⟨g, ⟨x0, x1⟩, rfl, hg1, hg2, hxi, hcx, _, hob⟩ := HOP.out.at_ twoP_q i hiN (by omega)
      have hx0 : wr.cell? ⟨g, i * 2, none⟩ = some (.int .i64 x0) := by simpa [twoP] using hcx 0 (by omega)
      have hx1 : wr.cell? ⟨g, i * 2 + 1, none⟩ = some (.int .i64 x1) := by simpa [twoP] using hcx 1 (by omega)
      have htk : (prs 0 l).take (i + 1) = (prs 0 l).take i ++ [(x0, x1)] := by rw [List.take_add_one, hxi]; rfl
      have htl : ((prs 0 l).take i).length = i := by rw [List.length_take, HPL.out]; omega
      have htl1 : ((prs 0 l).take (i + 1)).length = i + 1 := by rw [List.length_take, HPL.out]; omega
      have HTK := Lib.hid htk
      have HTL := Lib.hid htl
      have HTL1 := Lib.hid htl1
      clear hcx hxi htk htl htl1
      go_wp2_with fail
      refine (OfferQ_calls s most (i : Int) L x0 x1 wr HSEL.out hLl (by omega) (by omega)).mono ?_
      rintro e w6 ⟨s', L', ok, he, hs', hto, hon6, hoff⟩
      subst he
      obtain ⟨F, hF⟩ : ∃ F, (sortI ltP (0, 0) ((prs 0 l).take (i + 1))).take most.toNat = F := ⟨_, rfl⟩
      have hkp' := HKP.out.offQ (x := (x0, x1)) HSEL.out.2.2.2.1 (by rw [HTL.out]; exact hoff)
      have hin := keepQ_in (x := (x0, x1)) (by rw [← HTK.out]; exact prs_inc l (i + 1)) HKP.out hkp' (by rw [HTL.out]; exact hoff)
      rw [← HTK.out] at hkp' hin
      rw [hF] at hin
      have hz6 := hon6.size
      have hlenF := keepQ_len (prs_inc l (i + 1)) hkp'
      rw [hF] at hlenF
      have HF := Lib.hid hF
      have HS6 := Lib.hid (show SelQ w6 s' most ((i + 1 : Nat) : Int) L' from hs')
      have HKP6 := Lib.hid hkp'
      have HBS := Lib.hid hto.1
      have HFR6 := Lib.hid (show ∀ x, SlB s' x → w1.heap.size ≤ x ∧ (x < w2.heap.size ∨ w3.heap.size ≤ x) from fun x hx => by
        by_cases h : x < wr.heap.size
        · exact HFR.out x (hto.mem h hx)
        · omega)
      have HON6 := Lib.hid (HON.out.after hon6 fun q hq h => by have h2 := HFR.out q h; exact ⟨h2.1, by omega⟩)
      have HOP6 := Lib.hid (HOP.out.only hon6 fun q hq h => by have h1 := HFR.out q h; have h2 := (HOP.out.lt q hq).1; have h3 := HPB.out q hq; omega)
      have HIN := Lib.hid hin
      clear hoff hkp' hs' hto hon6 hF hin hx0 hx1 HSEL HKP HFR HON HOP
      go_wp2_with fail
      have hfc := First_calls (some ⟨g, 0, none⟩) cP ((prs 0 l).take (i + 1)) most w6 ((HOP6.out.rdp rfl).take (i + 1)) (by rw [HTL1.out]; omega)
      rw [HTL1.out, HF.out] at hfc
      refine hfc.mono ?_
      rintro e w7 ⟨AF, cF, he, hRF, hFB, hb7⟩
      subst he
      clear hfc
      obtain ⟨nF, hnF⟩ : ∃ n, F.length = n := ⟨_, rfl⟩
      rw [hnF] at hlenF ⊢
      have HNF := Lib.hid hnF
      have HFB := Lib.hid hFB
      have HSB := Lib.hid HS6.out.lt.1
      clear hFB
      have HS7 := Lib.hid (HS6.out.keep hb7)
      have HON7 := Lib.hid (HON6.out.trans (Only.of_below hb7))
      have HOP7 := Lib.hid (HOP6.out.keep hb7)
      have HRF := Lib.hid hRF
      have hz7 := hb7.size
      have hnF2 : nF ≤ 100000 := by have h := HKP6.out.length; rw [ents_length, HTL1.out, hlenF] at h; omega
      clear hb7 hnF hRF HS6 HON6 HOP6
      go_upto_block 2 with (fail)
      go_cut [10, 11] (fun s10 s11 wx => s10 = .bool ok ∧ Below w7.heap.size w7 wx)
      case first =>
        have HR := HRF.out
        obtain ⟨g', ⟨z0, z1⟩, hg', _, _, hxi, hcx, _, _⟩ := HOP7.out.at_ twoP_q i hiN (by omega)
        obtain rfl : g = g' := by injection hg' with h; injection h
        have hz : (z0, z1) = (x0, x1) := by
          have h := HTK.out
          rw [List.take_add_one, hxi] at h
          simpa using h
        obtain ⟨rfl, rfl⟩ : z0 = x0 ∧ z1 = x1 := by simpa using hz
        have hx0 : w7.cell? ⟨g, i * 2, none⟩ = some (.int .i64 z0) := by simpa [twoP] using hcx 0 (by omega)
        have hx1 : w7.cell? ⟨g, i * 2 + 1, none⟩ = some (.int .i64 z1) := by simpa [twoP] using hcx 1 (by omega)
        go_wp2_with fail
        clear hg' hxi hcx hz HR HS7 HON7 HOP7 HKP6 HFR6 HBS
        go_loopg [10, 11] nF (fun kq v10 v11 w' => kq ≤ nF ∧ v11 = .int .i64 ((nF - kq : Nat) : Int) ∧ (∃ t, v10 = .bool t ∧ t = decide ((z0, z1) ∈ F.take (nF - kq))) ∧ Below w7.heap.size w7 w')
        case atStart => exact ⟨Nat.le_refl _, by simp, ⟨_, rfl, by simp⟩, Below.refl _ _⟩
        case round =>
          obtain ⟨hkq2, rfl, ⟨t, rfl, ht⟩, hbk⟩ := hrel
          have HT := Lib.hid ht
          clear ht
          have HBK := Lib.hid hbk
          clear hbk
          cases gk with
          | zero =>
            simp only [Nat.sub_zero]
            have hlt0 : ¬ ((nF : Int) < (nF : Int)) := by omega
            obtain rfl : t = ok := by rw [HT.out, HIN.out, Nat.sub_zero, List.take_of_length_le (by rw [HNF.out]; exact Nat.le_refl _)]
            go_wp2_with fail
            go_meet
            exact ⟨rfl, HBK.out⟩
          | succ k2 =>
            obtain ⟨j, hj⟩ : ∃ j, nF - (k2 + 1) = j := ⟨_, rfl⟩
            have hj2 : nF - k2 = j + 1 := by omega
            have hjn : j < nF := by omega
            have bj : (j : Int) < (nF : Int) := by omega
            have bj0 : (0 : Int) ≤ (j : Int) := by omega
            have HJ := Lib.hid hj2
            rw [hj] at HT ⊢
            clear hj hj2
            obtain ⟨ad, rfl, hc0, hc1⟩ := HRF.out.2 j (by rw [HNF.out]; exact hjn)
            obtain ⟨⟨y0, y1⟩, hy⟩ : ∃ y, F.getD j (0, 0) = y := ⟨_, rfl⟩
            rw [hy] at hc0 hc1
            rw [← two_addP] at hc1
            have htj : F.take (j + 1) = F.take j ++ [(y0, y1)] := by rw [← hy, List.take_add_one, getF (d := (0, 0)) (by rw [HNF.out]; exact hjn)]; rfl
            have HTJ := Lib.hid htj
            have hd0 := cell_below HBK.out hc0 (World.block_lt_of_cell? _ _ hc0)
            have hd1 := cell_below HBK.out hc1 (World.block_lt_of_cell? _ _ hc1)
            have he0 := cell_below HBK.out hx0 (World.block_lt_of_cell? _ _ hx0)
            have he1 := cell_below HBK.out hx1 (World.block_lt_of_cell? _ _ hx1)
            clear hy htj hc0 hc1 hx0 hx1
            rcases (by by_cases h0 : y0 = z0 <;> by_cases h1 : y1 = z1 <;> simp [h0, h1] : (y0 = z0 ∧ y1 = z1) ∨ ¬ y0 = z0 ∨ (y0 = z0 ∧ ¬ y1 = z1)) with hc | hc | hc
            · obtain ⟨rfl, rfl⟩ := hc
              go_wp2_with fail
              go_quiet (fail)
              go_wp2_with fail
              go_roundg k2
              case measure => omega
              case rel => exact ⟨by omega, by rw [HJ.out]; simp, ⟨_, rfl, by rw [HJ.out, HTJ.out]; simp⟩, HBK.out.trans ((below_drewN_self _ _).mono HBK.out.size)⟩
            · have nc0 : ¬ z0 = y0 := fun h => hc h.symm
              have nc : ¬ (z0, z1) = (y0, y1) := fun h => nc0 (by injection h)
              have HNC := Lib.hid nc
              clear nc
              go_wp2_with fail
              go_quiet (fail)
              go_wp2_with fail
              go_roundg k2
              case measure => omega
              case rel => exact ⟨by omega, by rw [HJ.out]; simp, ⟨_, rfl, by rw [HJ.out, HTJ.out, HT.out]; simp [HNC.out]⟩, HBK.out.trans ((below_drewN_self _ _).mono HBK.out.size)⟩
            · obtain ⟨rfl, hc⟩ := hc
              have nc1 : ¬ z1 = y1 := fun h => hc h.symm
              have nc : ¬ (y0, z1) = (y0, y1) := fun h => nc1 (by injection h)
              have HNC := Lib.hid nc
              clear nc
              go_wp2_with fail
              go_quiet (fail)
              go_wp2_with fail
              go_roundg k2
              case measure => omega
              case rel => exact ⟨by omega, by rw [HJ.out]; simp, ⟨_, rfl, by rw [HJ.out, HTJ.out, HT.out]; simp [HNC.out]⟩, HBK.out.trans ((below_drewN_self _ _).mono HBK.out.size)⟩
      obtain ⟨rfl, hb8⟩ := hcut
      have HS8 := Lib.hid (HS7.out.keep hb8)
      have HON8 := Lib.hid (HON7.out.trans (Only.of_below hb8))
      have HOP8 := Lib.hid (HOP7.out.keep hb8)
      have HRF8 := Lib.hid (HRF.out.below hb8)
      have hz8 := hb8.size
      have hLl' : L'.length ≤ 100000 := by omega
      have hLC : ∀ W : World, SelQ W s' most ((i + 1 : Nat) : Int) L' → Calls Try.prog 52 #[.pointer (some ⟨s'.bs, 0, none⟩)] W (fun e w' => e = .returned (.int .i64 (nF : Int)) ∧ ∃ n, w' = W.drewN n) := fun W hW => by rw [← hlenF]; exact SLenQ_calls s' most _ L' W hW
      have HLC := Lib.hid hLC
      rw [← HBS.out]
      clear hb8 HS7 HON7 HOP7 HRF hLC
      have hok : (ok != ok) = false := by cases ok <;> rfl
      go_upto_region 20 with (fail)
      go_cut [79] (fun s79 wx => s79 = .bool false ∧ ∃ s2 L2, SelQ wx s2 most ((i + 1 : Nat) : Int) L2 ∧ L2.Perm L' ∧ s2.bs = s'.bs ∧ (∀ x, SlB s2 x → w1.heap.size ≤ x ∧ (x < w2.heap.size ∨ w3.heap.size ≤ x)) ∧ Only (Mid w1.heap.size w2.heap.size) w3 wx ∧ OwnF wx w2.heap.size 80 2 twoP (.slice (some ⟨g, 0, none⟩) N cP) (prs 0 l) ∧ RdP wx .i64 .i64 AF F)
      case first =>
        go_wp2_with fail
        refine (HLC.out wc HS8.out).mono ?_
        rintro e _ ⟨he, q9, rfl⟩
        subst he
        obtain ⟨w9, hw9⟩ : ∃ W, wc.drewN q9 = W := ⟨_, rfl⟩
        have hb9 : Below wc.heap.size wc w9 := by rw [← hw9]; exact below_drewN_self _ _
        rw [hw9]
        have HS9 := Lib.hid (HS8.out.keep hb9)
        have HON9 := Lib.hid (HON8.out.trans (Only.of_below hb9))
        have HOP9 := Lib.hid (HOP8.out.keep hb9)
        have HRF9 := Lib.hid (HRF8.out.below hb9)
        have hz9 := hb9.size
        clear hw9 hb9 HS8 HON8 HOP8 HRF8
        go_wp2_with fail
        · refine (ListQ_calls s' most ((i + 1 : Nat) : Int) L' w9 HS9.out hLl').mono ?_
          rintro e w10 ⟨s2, L2, S, vO, he, hs2, hp2, hto2, hon10, hpS, hsS, hO, hsep⟩
          subst he
          rw [keepQ (prs_inc l (i + 1)) HKP6.out hpS hsS, HF.out] at hO
          obtain ⟨AB, cB, rfl, hcB⟩ := hO.shape
          rw [HNF.out] at hO hcB ⊢
          have hRF10 := HRF9.out.only hon10 fun ad h hq => by have h1 := HSB.out _ hq; have h2 := HFB.out ad h; omega
          have hsm := SameP_calls AB AF cB cF F F w10 (hO.rdp rfl) hRF10
          rw [decide_eq_true (rfl : F = F), HNF.out] at hsm
          have HSM := Lib.hid hsm
          have HRF10 := Lib.hid hRF10
          have HS10 := Lib.hid hs2
          have hz10 := hon10.size
          have HFR10 := Lib.hid (show ∀ x, SlB s2 x → w1.heap.size ≤ x ∧ (x < w2.heap.size ∨ w3.heap.size ≤ x) from fun x hx => by
            by_cases h : x < w9.heap.size
            · exact HFR6.out x (hto2.mem h hx)
            · have := HON9.out.size; omega)
          have HON10 := Lib.hid (HON9.out.after hon10 fun q hq h => by have h2 := HFR6.out q h; exact ⟨h2.1, by omega⟩)
          have HOP10 := Lib.hid (HOP9.out.only hon10 fun q hq h => by have h1 := HFR6.out q h; have h2 := (HOP9.out.lt q hq).1; have h3 := HPB.out q hq; omega)
          have HBS2 := Lib.hid hto2.1
          have HP2 := Lib.hid hp2
          clear hs2 hp2 hto2 hon10 hpS hsS hO hsep hRF10 hsm HS9 HON9 HOP9 HRF9
          go_wp2_with fail
          refine HSM.out.mono ?_
          rintro e _ ⟨he, q11, rfl⟩
          subst he
          go_wp2_with fail
          go_meet
          have hb11 := below_drewN_self w10 q11
          exact ⟨rfl, s2, L2, HS10.out.keep hb11, HP2.out, HBS2.out, HFR10.out, HON10.out.trans (Only.of_below hb11), HOP10.out.keep hb11, HRF10.out.below hb11⟩
        · go_meet
          exact ⟨rfl, s', L', HS9.out, List.Perm.refl _, rfl, HFR6.out, HON9.out, HOP9.out, HRF9.out⟩
      obtain ⟨rfl, s2, L2, hs2, hp2, hbs2, hfr2, hon2, hop2, hrf2⟩ := hcut
      rw [← hbs2]
      have HS11 := Lib.hid hs2
      have HKP11 := Lib.hid (HKP6.out.perm hp2)
      have HBS11 := Lib.hid (hbs2.trans HBS.out)
      have HFR11 := Lib.hid hfr2
      have HON11 := Lib.hid hon2
      have HOP11 := Lib.hid hop2
      have HRF11 := Lib.hid hrf2
      have hl2 : L2.length = nF := hp2.length_eq.trans hlenF
      obtain ⟨⟨y0, y1⟩, hy⟩ : ∃ p, lastQ L2 = p := ⟨_, rfl⟩
      obtain ⟨b2, hb2⟩ : ∃ b, isQ L2 = b := ⟨_, rfl⟩
      have hbb2 : b2 = decide (0 < (nF : Int)) := by rw [← hb2, isQ_len, hl2]
      have HBB := Lib.hid hbb2
      have HLQ := Lib.hid (show ∀ m, nF = m + 1 → F[m]? = some (y0, y1) from fun m hm => by
        rw [← HF.out, ← hy]
        exact keepQ_last (prs_inc l (i + 1)) HKP11.out hs2.2.2.2.1 m (by omega))
      have HL0 := Lib.hid (show nF = 0 → y0 = 0 ∧ y1 = 0 from fun h => by
        have h2 : L2 = [] := List.length_eq_zero_iff.1 (by omega)
        rw [h2] at hy
        injection hy with h3 h4
        exact ⟨h3.symm, h4.symm⟩)
      have hLS : ∀ W : World, SelQ W s2 most ((i + 1 : Nat) : Int) L2 → Calls Try.prog 55 #[.pointer (some ⟨s2.bs, 0, none⟩)] W (fun e w' => e = .returned (.tuple #[.agg #[.int .i64 y0, .int .i64 y1], .bool b2]) ∧ Below W.heap.size W w') := fun W hW => by rw [← hb2, ← show (lastQ L2).1 = y0 by rw [hy], ← show (lastQ L2).2 = y1 by rw [hy]]; exact SLastQ_calls s2 most _ L2 W hW
      have HLS := Lib.hid hLS
      clear hs2 hp2 hbs2 hfr2 hon2 hop2 hrf2 hy hb2 hbb2 hLS HS8 HON8 HOP8 HRF8 HLC HKP6 HBS HFR6 hlenF hl2
      go_wp2_with fail
      refine (HLS.out wc HS11.out).mono ?_
      rintro e w12 ⟨he, hb12⟩
      subst he
      obtain ⟨w13, hw13⟩ : ∃ W, w12.alloc (.cells #[.int .i64 y0, .int .i64 y1] 80) = W := ⟨_, rfl⟩
      have hb13 : Below w12.heap.size w12 w13 := by rw [← hw13]; exact below_alloc1 (Below.refl _ _) _
      have hl13 : w13.heap[w12.heap.size]? = some (.cells #[.int .i64 y0, .int .i64 y1] 80 (0, 0)) := by rw [← hw13]; exact heap_alloc_new _ _
      have hl0 : w13.cell? ⟨w12.heap.size, 0, none⟩ = some (.int .i64 y0) := by simp [World.cell?, hl13]
      have hl1 : w13.cell? ⟨w12.heap.size, 1, none⟩ = some (.int .i64 y1) := by simp [World.cell?, hl13]
      have hb1113 : Below wc.heap.size wc w13 := hb12.trans (hb13.mono hb12.size)
      have HS13 := Lib.hid (HS11.out.keep hb1113)
      have HON13 := Lib.hid (HON11.out.trans (Only.of_below hb1113))
      have HOP13 := Lib.hid (HOP11.out.keep hb1113)
      have HRF13 := Lib.hid (HRF11.out.below hb1113)
      clear hb12 hb13 hl13 hb1113 HS11 HON11 HOP11 HRF11 HLS
      go_wp2_with fail
      (try rw [hw13])
      clear hw13
      have hend : ∀ (q : Nat), ∃ s' L, k1 ≤ N ∧ Value.int .i64 (((i : Nat) : Int) + 1) = .int .i64 ((N - k1 : Nat) : Int) ∧ JO l most (some ⟨g, 0, none⟩) cP w1.heap.size w2.heap.size w3.heap.size w3 s.bs (N - k1) (w13.drewN q) s' L := fun q => by
        rw [HI.out]
        exact ⟨s2, L2, by omega, by simp, HS13.out.keep (below_drewN_self _ _), HKP11.out, HBS11.out, HFR11.out, HON13.out.trans (Only.of_below (below_drewN_self _ _)), by rw [HN.out]; exact HOP13.out.keep (below_drewN_self _ _)⟩
      have HEND := Lib.hid hend
      clear hend
      have hwi : IntKind.i64.wrap ((i : Int) + 1) = (i : Int) + 1 := by rw [i64_w]; exact wrap64_id _ (by omega)
      cases nF with
      | zero =>
        have hbf : b2 = false := by rw [HBB.out]; rfl
        subst hbf
        obtain ⟨rfl, rfl⟩ := HL0.out rfl
        go_wp2_with fail
        go_quiet (fail)
        go_wp2_with fail
        rw [HBS11.out]
        go_roundg k1
        case measure => omega
        case rel => exact HEND.out _
      | succ m =>
        have hbf : b2 = true := by rw [HBB.out]; simp
        subst hbf
        obtain ⟨ad, rfl, hc0, hc1⟩ := HRF13.out.2 m (by rw [HNF.out]; exact Nat.lt_succ_self m)
        rw [show F.getD m (0, 0) = (y0, y1) by have h := HLQ.out m rfl; simp [List.getD, h]] at hc0 hc1
        rw [← two_addP] at hc1
        have hwm : IntKind.i64.wrap (m : Int) = (m : Int) := by rw [i64_w]; exact wrap64_id _ (by omega)
        go_wp2_with fail
        go_quiet (fail)
        go_wp2_with fail
        rw [HBS11.out]
        go_roundg k1
        case measure => omega
        case rel => exact HEND.out _
end Go.Proofs.Ytacgkoclammggaa
