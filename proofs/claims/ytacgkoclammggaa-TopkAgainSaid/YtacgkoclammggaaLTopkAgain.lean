
/-
  The statement TopkAgain: the plain law and the walk. Conditions: the numbers lie in their kinds' ranges.
-/
import Derived.Test.YtacgkoclammggaaLaw08
import Derived.Test.YtacgkoclammggaaRef4R
namespace Go.Proofs.Ytacgkoclammggaa
open Go.RowKit
set_option linter.unusedVariables false
set_option maxRecDepth 100000
set_option linter.unusedSimpArgs false

/-! ### the plain law -/
/-- The first few, offered the other way round, are themselves. -/
theorem again_list (l : List (Int × Int)) (k : Nat) : (sortI ltR (0, 0) ((sortI ltR (0, 0) l).take k).reverse).take k = (sortI ltR (0, 0) l).take k := by
  obtain ⟨X, hX⟩ : ∃ X, (sortI ltR (0, 0) l).take k = X := ⟨_, rfl⟩
  rw [hX]
  have hs : Srt ltR X := by rw [← hX]; exact List.Pairwise.sublist (List.take_sublist _ _) (sortI_srt ltR_wo l)
  have e : sortI ltR (0, 0) X.reverse = X := srt_uniq ltR_wo ltR_anti2 (sortI_srt ltR_wo _) hs ((sortI_perm _).trans (List.reverse_perm X))
  rw [e]
  exact List.take_of_length_le (by rw [← hX, List.length_take]; omega)
theorem drop_rev {X : List (Int × Int)} {i : Nat} {x : Int × Int} (h : X[i]? = some x) : (X.drop i).reverse = (X.drop (i + 1)).reverse ++ [x] := by
  rw [List.drop_eq_getElem?_toList_append, h]
  simp
/-- A first cell of an element of the row is written. -/
theorem OwnF.store0 {w : World} {base : Nat} {e : TypeId} {g n c : Nat} {xs : List (Int × Int)} (h : OwnF w base e 2 twoR (.slice (some ⟨g, 0, none⟩) n c) xs) (j : Nat) (hj : j < n) (y : Int) :
    ∃ ys, OwnF (w.setCell ⟨g, j * 2, none⟩ (.int .i64 y)) base e 2 twoR (.slice (some ⟨g, 0, none⟩) n c) ys := by
  obtain ⟨A1, c1, he, _⟩ := h.shape
  injection he with e1 e2 e3
  subst e2 e3
  have h1 := (World.ownsRow.stored h (j * 2) (.int .i64 y)).1
  have hx : xs[j]? = some (xs[j]'hj) := by simp [hj]
  refine ⟨xs.set j (y, (xs[j]'hj).2), ?_⟩
  unfold OwnF
  rw [cellsF_set2 (f := twoR) (a := .int .i64 y) (b := .int .i64 (xs[j]'hj).2) rfl twoR_q xs j hj, List.length_set]
  have hb := cellsF_get twoR_q xs j 1 _ hx (by omega)
  have he : ((xs.flatMap twoR).set (j * 2) (.int .i64 y)).set (j * 2 + 1) (.int .i64 (xs[j]'hj).2) = (xs.flatMap twoR).set (j * 2) (.int .i64 y) := by
    refine List.ext_getElem? fun i => ?_
    rw [List.getElem?_set]
    split
    · rename_i hi
      subst hi
      rw [List.getElem?_set_ne (by omega), hb]
      split
      · rfl
      · rename_i h2
        rw [List.getElem?_eq_none (by simpa using h2)] at hb
        simp [twoR] at hb
    · rfl
  rw [he]
  exact h1
set_option maxHeartbeats 6400000 in
set_option maxRecDepth 1000000 in
theorem TopkAgain_law (A : Option Addr) (c : Nat) (l : List (Int × Int)) (k : Int) (w : World) (hcl : l.length ≤ c) (ha : RdP w .i64 .i64 A l) (hu : ∀ x ∈ l, (Lit.int .i64 x.1).wf = true ∧ (Lit.int .i64 x.2).wf = true) (hk : (Lit.int .u8 k).wf = true) :
    Calls Try.prog 10 #[.slice A l.length c, .int .u8 k] w fun e w' => e = .returned (.bool true) ∧ Below w.heap.size w w' := by
  have KA := Lib.hid ha
  clear ha hu
  by_cases h0 : 100 < l.length
  · have h0' : decide (100 < (l.length : Int)) = true := by simp; omega
    go_enter Try.func10, Try.ntmps10
    go_wp2_with fail
    refine (awake8_calls _).mono ?_
    rintro e w1 ⟨he, hb1⟩
    subst he
    go_wp2_with fail
    go_ret
    exact ⟨rfl, hb1⟩
  have h0' : decide (100 < (l.length : Int)) = false := by simp; omega
  obtain ⟨hwk1, hk0, hk255⟩ := wrap_u8 hk
  go_enter Try.func10, Try.ntmps10
  go_wp2_with fail
  refine (awake8_calls _).mono ?_
  rintro e w1 ⟨he, hb1⟩
  subst he
  have hz1 := hb1.size
  have LA := Lib.hid (KA.out.below hb1)
  have BW1 := Lib.hid hb1
  clear KA hb1
  go_wp2_with fail
  refine (Values_calls A l.length c w1).mono ?_
  rintro e w2 ⟨he, hw⟩
  subst he
  have hbn : Below w1.heap.size w1 w2 := by rw [hw]; exact below_alloc1 (Below.refl _ _) _
  have hbv : w2.heap[w1.heap.size]? = some (.cells #[.slice A l.length c] 49 (0, 0)) := by rw [hw]; exact heap_alloc_new _ _
  have hz2 := hbn.size
  have LA2 := Lib.hid (LA.out.below hbn)
  have BW2 := Lib.hid (BW1.out.trans (hbn.mono BW1.out.size))
  clear hw LA BW1 hbn
  go_wp2_with fail
  refine (Of_calls k w1.heap.size A c l w2 hbv LA2.out (by omega)).mono ?_
  rintro e w3 ⟨vO, he, hO, hbo⟩
  subst he
  obtain ⟨AX, cX, rfl, hcX⟩ := hO.shape
  obtain ⟨X, hX⟩ : ∃ X, (sortI ltR (0, 0) l).take k.toNat = X := ⟨_, rfl⟩
  have hag := again_list l k.toNat
  rw [hX] at hO hcX hag ⊢
  obtain ⟨n, hn⟩ : ∃ n, X.length = n := ⟨_, rfl⟩
  have hn100 : n ≤ 100 := by rw [← hn, ← hX, List.length_take, sortI_length]; omega
  have hnk : n ≤ k.toNat := by rw [← hn, ← hX, List.length_take]; omega
  have HX := Lib.hid hX
  have HN := Lib.hid hn
  have HAG := Lib.hid hag
  have OX := Lib.hid hO
  have hz3 := hbo.size
  have BW3 := Lib.hid (BW2.out.trans (hbo.mono BW2.out.size))
  have RX := Lib.hid (hO.rdp rfl)
  clear hX hag hO hbo hbv LA2 BW2 hn
  go_wp2_with (first
    | (at_builtin; refine wpList_appF (q := 2) (f := twoR) _ rfl (.tmp 21) (.tmp 22) 49 41 rfl (.agg #[.int .i64 0, .int .i64 0]) 16 Try.underlying49 infoR rfl (by omega) (by omega) twoR_q twoR_one w3.heap.size (.slice (some ⟨w3.heap.size, 0, none⟩) 0 0) [] rfl AX cX X rfl (OwnF.empty_at _ _ _ _ rfl (Nat.le_refl _)) w3 (below_alloc1 (Below.refl _ _) _) (by rw [World.size_alloc]; omega) ((RX.out.below (below_alloc1 (Below.refl _ _) _)).c) (by have := HN.out; simp; omega) ?_; intro vW w4 hown hgrow hbel hat hnil; rw [List.nil_append] at hown; obtain ⟨AW, cW, hvW, hcW⟩ := hown.shape; subst hvW; have HW1 := Lib.hid hown; have HB1 := Lib.hid hbel; clear hown hgrow hbel hat hnil))
  rw [HN.out] at hcX hcW ⊢
  refine (SNewE_calls k w4).mono ?_
  rintro e w5 ⟨⟨bs, bx, b, v⟩, he, hsel, hb5, hfr, hbx, _⟩
  subst he
  have hz4 := HB1.out.size
  have HS5 := Lib.hid hsel
  have HF5 := Lib.hid (show ∀ x, SlB ⟨bs, bx, b, v⟩ x → w4.heap.size ≤ x from hfr)
  have HB5 := Lib.hid hb5
  have BW4 := Lib.hid (BW3.out.trans (HB1.out.mono BW3.out.size))
  have RX4 := Lib.hid (RX.out.below HB1.out)
  have RW4 := Lib.hid (HW1.out.rdp rfl)
  have hw8 : IntKind.i64.wrap ((n : Int) - 1) = (n : Int) - 1 := by rw [i64_w]; exact wrap64_id _ (by omega)
  clear hsel hb5 hfr RX OX HW1 BW3 HB1
  go_wp2_with fail
  have hbxl := hbx
  go_loopg [8] n (fun kq v8 w' => ∃ (x : Int) (s : Sl) (L : List (Int × Int × Int)), kq ≤ n ∧ v8 = .int .i64 x ∧ x + 1 = (kq : Int) ∧ SelE w' s k ((n - kq : Nat) : Int) L ∧ Keep aheadE k (ents (X.drop kq).reverse) L ∧ s.bs = bs ∧ s.bx = bx ∧ (∀ x, SlB s x → w4.heap.size ≤ x) ∧ Below w4.heap.size w4 w')
  case atStart => exact ⟨(n : Int) - 1, ⟨bs, bx, b, v⟩, [], Nat.le_refl _, rfl, by omega, by simp only [Nat.sub_self]; exact HS5.out, by rw [List.drop_of_length_le (by rw [HN.out]; exact Nat.le_refl _)]; exact Keep.nil _ _, rfl, rfl, HF5.out, HB5.out⟩
  case round =>
    clear HS5 HF5 HB5
    obtain ⟨x, s, L, hkq, rfl, hxk, hsel, hkp, rfl, hsbx, hfr, hbw⟩ := hrel
    have HSEL := Lib.hid hsel
    have HKP := Lib.hid hkp
    have HFR := Lib.hid hfr
    have HBW := Lib.hid hbw
    clear hsel hkp hfr hbw
    cases gk with
    | zero =>
      obtain rfl : x = -1 := by simp at hxk; omega
      rw [List.drop_zero] at HKP
      rw [Nat.sub_zero] at HSEL
      clear hxk hkq
      have hLl : L.length ≤ 100000 := by have h := HKP.out.length; rw [ents_length, List.length_reverse, HN.out] at h; omega
      have hzb := HBW.out.size
      go_wp2_with fail
      refine (ListE_calls s k (n : Int) L wr HSEL.out hLl).mono ?_
      rintro e w6 ⟨s2, L2, S, vB, he, hs2, hp2, hto2, hon2, hpS, hsS, hO, hsep⟩
      subst he
      rw [(keepE HKP.out hpS hsS).trans HAG.out] at hO
      obtain ⟨AB, cB, rfl, hcB⟩ := hO.shape
      rw [HN.out] at hO hcB hsep ⊢
      have hz6 := hon2.size
      have hb6 : Below w4.heap.size w4 w6 := HBW.out.trans (hon2.below HBW.out.size fun x hx h => by have := HFR.out x h; omega)
      have RX6 := Lib.hid (RX4.out.below hb6)
      have RW6 := Lib.hid (RW4.out.below hb6)
      have hsm := SameR_calls AX AB cX cB X X w6 RX6.out (hO.rdp rfl)
      rw [decide_eq_true (rfl : X = X), HN.out] at hsm
      have HSM := Lib.hid hsm
      have hbx2 : s2.bx < wr.heap.size := by have h1 := hto2.2.1; have h2 := HSEL.out.lt.2; omega
      have HB6 := Lib.hid hb6
      have HS6 := Lib.hid hs2
      have HKP6 := Lib.hid (HKP.out.perm hp2)
      have HFR6 := Lib.hid (show ∀ x, SlB s2 x → w4.heap.size ≤ x from fun x hx => by
        by_cases h : x < wr.heap.size
        · exact HFR.out x (hto2.mem h hx)
        · omega)
      have hLl2 : L2.length ≤ 100000 := by rw [hp2.length_eq]; exact hLl
      have HBS := Lib.hid hto2.1
      have HSEP := Lib.hid hsep
      obtain ⟨B9, hB9⟩ : ∃ x, wr.heap.size = x := ⟨_, rfl⟩
      rw [hB9] at hO hbx2 hzb
      clear hB9 hz6
      have HO6 := Lib.hid hO
      rw [← hto2.1]
      clear hsm hs2 hp2 hto2 hon2 hpS hsS hO hsep hb6 HSEL HKP HFR HBW
      go_wp2_with fail
      refine HSM.out.mono ?_
      rintro e _ ⟨he, q7, rfl⟩
      subst he
      obtain ⟨w7, hw7⟩ : ∃ W, w6.drewN q7 = W := ⟨_, rfl⟩
      have hb7 : Below w6.heap.size w6 w7 := by rw [← hw7]; exact below_drewN_self _ _
      have HO7 := Lib.hid (HO6.out.keep hb7)
      have HS7 := Lib.hid (HS6.out.keep hb7)
      have RX7 := Lib.hid (RX6.out.below hb7)
      have RW7 := Lib.hid (RW6.out.below hb7)
      have hz7 := hb7.size
      have HB7 := Lib.hid (HB6.out.trans (hb7.mono HB6.out.size))
      have hz47 := HB7.out.size
      rw [hw7]
      clear hw7 hb7 HSM HO6 HS6 RX6 RW6 HB6
      go_wp2_with fail
      go_loopg [51] n (fun kq v51 w' => kq ≤ n ∧ v51 = .int .i64 ((n - kq : Nat) : Int) ∧ (∃ ys, OwnF w' B9 41 2 twoR (.slice AB n cB) ys) ∧ Only (OwnB (.slice AB n cB)) w7 w')
      case atStart => exact ⟨Nat.le_refl _, by simp, ⟨X, HO7.out⟩, Only.refl _ _⟩
      case round =>
        obtain ⟨hkq, rfl, ⟨ys, hys⟩, hon8⟩ := hrel
        have HYS := Lib.hid hys
        have HON8 := Lib.hid hon8
        clear hys hon8
        cases gk with
        | zero =>
          simp only [Nat.sub_zero]
          have hlt0 : ¬ ((n : Int) < (n : Int)) := by omega
          have hB8 : Below w4.heap.size w4 wr := HB7.out.trans (HON8.out.below HB7.out.size fun q hq h => by have := (HO7.out.lt q h).1; omega)
          have HS8 := Lib.hid (HS7.out.only HON8.out (fun q hq h => HSEP.out q h hq) (fun h => by have h1 := (HO7.out.lt _ h).1; omega))
          have RX8 := Lib.hid (RX4.out.below hB8)
          have RW8 := Lib.hid (RW4.out.below hB8)
          have HB8 := Lib.hid hB8
          clear hB8
          have hsm := SameR_calls AX AW cX cW X X wr RX8.out RW8.out
          rw [decide_eq_true (rfl : X = X), HN.out] at hsm
          have HSM := Lib.hid hsm
          clear hsm
          go_wp2_with fail
          refine HSM.out.mono ?_
          rintro e _ ⟨he, q9, rfl⟩
          subst he
          obtain ⟨w9, hw9⟩ : ∃ W, wr.drewN q9 = W := ⟨_, rfl⟩
          have hb9 : Below wr.heap.size wr w9 := by rw [← hw9]; exact below_drewN_self _ _
          have HS9 := Lib.hid (HS8.out.keep hb9)
          have RW9 := Lib.hid (RW8.out.below hb9)
          have HB9 := Lib.hid (HB8.out.trans (hb9.mono HB8.out.size))
          have hz49 := HB9.out.size
          rw [hw9]
          clear hw9 hb9 HSM HS8 RX8 RW8 HB8
          go_wp2_with fail
          refine (ListE_calls s2 k (n : Int) L2 w9 HS9.out hLl2).mono ?_
          rintro e w10 ⟨s3, L3, S3, vC, he, _, _, _, hon10, hpS, hsS, hO, _⟩
          subst he
          rw [(keepE HKP6.out hpS hsS).trans HAG.out] at hO
          obtain ⟨AC, cC, rfl, hcC⟩ := hO.shape
          rw [HN.out] at hO hcC ⊢
          have hB10 : Below w4.heap.size w4 w10 := HB9.out.trans (hon10.below HB9.out.size fun x hx h => by have := HFR6.out x h; omega)
          have hsm := SameR_calls AC AW cC cW X X w10 (hO.rdp rfl) (RW4.out.below hB10)
          rw [decide_eq_true (rfl : X = X), HN.out] at hsm
          have HSM := Lib.hid hsm
          have HB10 := Lib.hid (BW4.out.trans (hB10.mono BW4.out.size))
          clear hsm hB10 hO hpS hsS hon10
          go_wp2_with fail
          refine HSM.out.mono ?_
          rintro e _ ⟨he, q11, rfl⟩
          subst he
          go_wp2_with fail
          go_ret
          exact ⟨rfl, HB10.out.trans ((below_drewN_self _ q11).mono HB10.out.size)⟩
        | succ k2 =>
          obtain ⟨j, hj⟩ : ∃ j, n - (k2 + 1) = j := ⟨_, rfl⟩
          have hj2 : n - k2 = j + 1 := by omega
          have hjn : j < n := by omega
          have bj : (j : Int) < (n : Int) := by omega
          have bj0 : (0 : Int) ≤ (j : Int) := by omega
          rw [hj]
          clear hj
          obtain ⟨g, x, rfl, hg1, hg2, hxj, hcj, hfz, hob⟩ := HYS.out.at_ twoR_q j hjn (by omega)
          have hc0 : wr.cell? ⟨g, j * 2, none⟩ = some (.int .i64 x.1) := by simpa [twoR] using hcj 0 (by omega)
          have hf0 := hfz (j * 2)
          obtain ⟨y, hy⟩ : ∃ y, IntKind.i64.wrap (x.1 + 1) = y := ⟨_, rfl⟩
          clear hcj hfz hxj
          go_wp2_with fail
          go_roundg k2
          case measure => omega
          case rel => exact ⟨by omega, by rw [hj2]; simp, HYS.out.store0 j hjn y, HON8.out.trans ((only_set wr g (j * 2) _).mono fun q _ h => by rw [h]; exact hob)⟩
    | succ i =>
      obtain rfl : x = (i : Int) := by simp at hxk; omega
      clear hxk
      have hiN : i < n := by omega
      have bi : (i : Int) < (n : Int) := by omega
      have b0 : (0 : Int) ≤ (i : Int) := by omega
      have hwi : IntKind.i64.wrap ((i : Int) - 1) = (i : Int) - 1 := by rw [i64_w]; exact wrap64_id _ (by omega)
      obtain ⟨ad, rfl, hca0, hca1⟩ := RX4.out.2 i (by rw [HN.out]; exact hiN)
      obtain ⟨⟨x0, x1⟩, hx⟩ : ∃ x, X.getD i (0, 0) = x := ⟨_, rfl⟩
      rw [hx] at hca0 hca1
      have hxi : X[i]? = some (x0, x1) := by rw [← hx]; exact getF (d := (0, 0)) (by rw [HN.out]; exact hiN)
      have hdr := drop_rev hxi
      have hlr : ((X.drop (i + 1)).reverse).length = n - (i + 1) := by rw [List.length_reverse, List.length_drop, HN.out]
      have HDR := Lib.hid hdr
      have HLR := Lib.hid hlr
      have hlen := HKP.out.length
      rw [ents_length, hlr] at hlen
      have hd0 := cell_below HBW.out hca0 (World.block_lt_of_cell? _ _ hca0)
      have hd1 := cell_below HBW.out (show w4.cell? ⟨(ad.add (i * 2)).block, (ad.add (i * 2)).off + 1, none⟩ = some (.int .i64 x1) from (two_addO ad i w4).trans hca1) (World.block_lt_of_cell? _ _ ((two_addO ad i w4).trans hca1))
      clear hx hxi hdr hlr hca0 hca1
      go_wp2_with fail
      refine (OfferE_calls s k ((n - (i + 1) : Nat) : Int) L x0 x1 wr HSEL.out (by omega) (by omega) (by omega)).mono ?_
      rintro e w6 ⟨s', L', ok, he, hs', hto, hon, hoff⟩
      subst he
      have hkp' := HKP.out.offE (x := (x0, x1)) HSEL.out.2.2.2.1 (by rw [HLR.out]; exact hoff)
      rw [← HDR.out] at hkp'
      have hok : ok = true := by
        rcases hoff with ⟨_, h, _⟩ | ⟨h, _⟩
        · exact h
        · exact absurd (show (L.length : Int) < k by omega) h
      subst hok
      have HS6 := Lib.hid (show SelE w6 s' k ((n - i : Nat) : Int) L' by rw [show ((n - i : Nat) : Int) = ((n - (i + 1) : Nat) : Int) + 1 by omega]; exact hs')
      have HKP6 := Lib.hid hkp'
      have HBS := Lib.hid hto.1
      have HBX := Lib.hid (hto.2.1.trans hsbx)
      have hzb := HBW.out.size
      have HFR6 := Lib.hid (show ∀ x, SlB s' x → w4.heap.size ≤ x from fun x hx => by
        by_cases h : x < wr.heap.size
        · exact HFR.out x (hto.mem h hx)
        · omega)
      have HB6 := Lib.hid (HBW.out.trans (hon.below HBW.out.size fun x hx h => by have := HFR.out x h; omega))
      clear hoff hkp' hs' hto hon hlen hd0 hd1 HSEL HKP HFR HBW
      go_wp2_with fail
      go_roundg i
      case measure => omega
      case rel => exact ⟨(i : Int) - 1, s', L', by omega, rfl, by omega, HS6.out, HKP6.out, HBS.out, HBX.out, HFR6.out, HB6.out⟩
end Go.Proofs.Ytacgkoclammggaa
