
/-
  The statement TopkLast: the plain law and the walk. Conditions: the numbers lie in their kinds' ranges.
-/
import Derived.Test.YtacgkoclammggaaLaw08
import Derived.Test.YtacgkoclammggaaTopOne
namespace Go.Proofs.Ytacgkoclammggaa
open Go.RowKit
set_option linter.unusedVariables false
set_option maxRecDepth 100000
set_option linter.unusedSimpArgs false

/-! ### the plain law -/
theorem keep_late {xs : List (Int × Int)} {most : Int} {L : List (Int × Int × Int)} (h : Keep aheadE most (ents xs) L) : ∀ a ∈ L, a.2.2 < (xs.length : Int) := fun a ha => (ents_lt (h.sub a ha)).2
/-- What an offer tells: of a full one whether it is nearer than the last. -/
theorem off_tells {xs : List (Int × Int)} {most x0 x1 : Int} {L L' : List (Int × Int × Int)} {ok : Bool} (h : Keep aheadE most (ents xs) L) (ho : OffR aheadE most (x0, x1, (xs.length : Int)) L L' ok) :
    (decide (most ≤ (L.length : Int)) = false → ok = true) ∧ (decide (most ≤ (L.length : Int)) = true → isP L = false → ok = false) ∧ (decide (most ≤ (L.length : Int)) = true → isP L = true → ok = nearB x0 x1 (lastP L).1 (lastP L).2) := by
  have hl := keep_late h
  rcases ho with ⟨hlt, rfl, _⟩ | ⟨hge, ⟨rfl, rfl, _⟩ | ⟨z, r, rfl, ⟨hx, rfl, _⟩ | ⟨hx, rfl, _⟩⟩⟩
  · refine ⟨fun _ => rfl, fun h => ?_, fun h => ?_⟩ <;> (have := of_decide_eq_true h; omega)
  · exact ⟨fun h => absurd (of_decide_eq_false h) (by simp at hge ⊢; omega), fun _ _ => rfl, fun _ h => by simp [isP] at h⟩
  · refine ⟨fun h => absurd (of_decide_eq_false h) (by omega), fun _ h => by simp [isP] at h, fun _ _ => ?_⟩
    rw [aheadE_late (hl z (by simp))] at hx
    exact hx.symm
  · refine ⟨fun h => absurd (of_decide_eq_false h) (by omega), fun _ h => by simp [isP] at h, fun _ _ => ?_⟩
    rw [aheadE_late (hl z (by simp))] at hx
    exact hx.symm
/-- The last of all that are kept is on top. -/
theorem last_top {L S : List (Int × Int × Int)} (hok : HeapOk ltE L) (hp : S.Perm L) (hs : Srt aheadE S) (n : Nat) (hn : S.length = n + 1) : (S.map fun p => (p.1, p.2.1))[n]? = some (lastP L) := by
  cases L with
  | nil => have := hp.length_eq; rw [hn] at this; cases this
  | cons z r =>
    have hz := topE hok
    have hl : n < S.length := by omega
    have h1 : aheadE z S[n] = false := hz _ (hp.subset (List.getElem_mem hl))
    have h2 : aheadE S[n] z = false := by
      obtain ⟨j, hj, e⟩ := List.getElem_of_mem (hp.symm.subset (show z ∈ z :: r by simp))
      by_cases hjn : j = n
      · subst hjn
        rw [e]
        cases hc : aheadE z z with
        | false => rfl
        | true => exact absurd (aheadE_wo.asym _ _ hc) (by rw [hc]; simp)
      · rw [← e]
        exact List.pairwise_iff_getElem.1 hs j n hj hl (by omega)
    have e := aheadE_anti _ _ h1 h2
    rw [List.getElem?_map, List.getElem?_eq_getElem hl, ← e]
    rfl
theorem isP_len {L S : List (Int × Int × Int)} (hp : S.Perm L) : isP L = decide (0 < (S.length : Int)) := by
  have := hp.length_eq
  cases L with
  | nil => simp at this; simp [isP, this]
  | cons z r => simp [isP, this]
set_option maxHeartbeats 6400000 in
set_option maxRecDepth 1000000 in
theorem TopkLast_law (A : Option Addr) (c : Nat) (l : List (Int × Int)) (k : Int) (w : World) (hcl : l.length ≤ c) (ha : RdP w .i64 .i64 A l) (hu : ∀ x ∈ l, (Lit.int .i64 x.1).wf = true ∧ (Lit.int .i64 x.2).wf = true) (hk : (Lit.int .u8 k).wf = true) :
    Calls Try.prog 12 #[.slice A l.length c, .int .u8 k] w fun e w' => e = .returned (.bool true) ∧ Below w.heap.size w w' := by
  have KA := Lib.hid ha
  clear ha hu
  by_cases h0 : 100 < l.length
  · have h0' : decide (100 < (l.length : Int)) = true := by simp; omega
    go_enter Try.func12, Try.ntmps12
    go_wp2_with fail
    refine (awake8_calls _).mono ?_
    rintro e w1 ⟨he, hb1⟩
    subst he
    go_wp2_with fail
    go_ret
    exact ⟨rfl, hb1⟩
  have h0' : decide (100 < (l.length : Int)) = false := by simp; omega
  have hwk := wrap_u8 hk
  obtain ⟨hwk1, hk0, hk255⟩ := hwk
  obtain ⟨N, hN⟩ : ∃ N, l.length = N := ⟨_, rfl⟩
  have HN := Lib.hid hN
  rw [hN] at h0 h0' hcl ⊢
  clear hN
  go_enter Try.func12, Try.ntmps12
  go_wp2_with fail
  refine (awake8_calls _).mono ?_
  rintro e w1 ⟨he, hb1⟩
  subst he
  go_wp2_with fail
  refine (SNewE_calls k w1).mono ?_
  rintro e w2 ⟨⟨bs, bx, b, v⟩, he, hsel, hb2, hfr, hbx, _⟩
  subst he
  have hz1 := hb1.size
  have HS2 := Lib.hid hsel
  have HF2 := Lib.hid (show ∀ x, SlB ⟨bs, bx, b, v⟩ x → w.heap.size ≤ x from fun x hx => by have := hfr x hx; omega)
  have HB2 := Lib.hid (hb1.trans (hb2.mono hz1))
  clear hsel hb2 hfr hb1
  go_wp2_with fail
  go_loopg [6] N (fun kq v6 w' => ∃ s L, kq ≤ N ∧ v6 = .int .i64 ((N - kq : Nat) : Int) ∧ SelE w' s k ((N - kq : Nat) : Int) L ∧ Keep aheadE k (ents (l.take (N - kq))) L ∧ s.bs = bs ∧ (∀ x, SlB s x → w.heap.size ≤ x) ∧ Below w.heap.size w w')
  case atStart => exact ⟨⟨bs, bx, b, v⟩, [], Nat.le_refl _, by simp, by simp only [Nat.sub_self]; exact HS2.out, by simp only [Nat.sub_self, List.take_zero]; exact Keep.nil _ _, rfl, HF2.out, HB2.out⟩
  case round =>
    clear HS2 HF2 HB2
    obtain ⟨s, L, hkq, rfl, hsel, hkp, rfl, hfr, hbw⟩ := hrel
    have HSEL := Lib.hid hsel
    have HKP := Lib.hid hkp
    have HFR := Lib.hid hfr
    have HBW := Lib.hid hbw
    have HSLT := Lib.hid hsel.lt.1
    clear hsel hkp hfr hbw
    cases gk with
    | zero =>
      simp only [Nat.sub_zero]
      have hlt0 : ¬ ((N : Int) < (N : Int)) := by omega
      go_wp2_with fail
      go_ret
      exact ⟨rfl, HBW.out⟩
    | succ k1 =>
      obtain ⟨i, hi⟩ : ∃ i, N - (k1 + 1) = i := ⟨_, rfl⟩
      have hi2 : N - k1 = i + 1 := by omega
      have HI := Lib.hid hi2
      have hiN : i < N := by omega
      have bi : (i : Int) < (N : Int) := by omega
      rw [hi] at HSEL HKP ⊢
      clear hi hi2
      have hti : (l.take i).length = i := by rw [List.length_take, HN.out]; omega
      have HTI := Lib.hid hti
      obtain ⟨ad, rfl, hca0, hca1⟩ := KA.out.2 i (by rw [HN.out]; exact hiN)
      obtain ⟨⟨x0, x1⟩, hx⟩ : ∃ x, l.getD i (0, 0) = x := ⟨_, rfl⟩
      rw [hx] at hca0 hca1
      have htk : l.take (i + 1) = l.take i ++ [(x0, x1)] := by rw [← hx, List.take_add_one, getF (d := (0, 0)) (by rw [HN.out]; exact hiN)]; rfl
      have HTK := Lib.hid htk
      have HX0 := Lib.hid hca0
      have HX1 := Lib.hid (show w.cell? ⟨(ad.add (i * 2)).block, (ad.add (i * 2)).off + 1, none⟩ = some (.int .i64 x1) from (two_addO ad i w).trans hca1)
      have hLl : L.length ≤ 100000 := by have h := HKP.out.length; rw [ents_length, hti] at h; omega
      obtain ⟨n1, hn1⟩ : ∃ n, L.length = n := ⟨_, rfl⟩
      obtain ⟨⟨p0, p1⟩, hp⟩ : ∃ p, lastP L = p := ⟨_, rfl⟩
      obtain ⟨b1, hb1⟩ : ∃ b, isP L = b := ⟨_, rfl⟩
      have HN1 := Lib.hid hn1
      have HP := Lib.hid hp
      have HB1 := Lib.hid hb1
      have hLC := fun (W : World) (hW : SelE W s k i L) => by have h := SLenE_calls s k i L W hW; rw [hn1] at h; exact h
      have hLS := fun (W : World) (hW : SelE W s k i L) => by have h := SLastE_calls s k i L W hW; rw [hp, hb1] at h; exact h
      have HLC := Lib.hid hLC
      have HLS := Lib.hid hLS
      clear hti hx hca0 hca1 htk hn1 hp hb1 hLC hLS
      go_wp2_with fail
      refine (HLS.out wr HSEL.out).mono ?_
      rintro e w3 ⟨he, hb3⟩
      subst he
      obtain ⟨w4, hw4⟩ : ∃ W, w3.alloc (.cells #[.int .i64 p0, .int .i64 p1] 41) = W := ⟨_, rfl⟩
      have hb4 : Below w3.heap.size w3 w4 := by rw [← hw4]; exact below_alloc1 (Below.refl _ _) _
      have hl4 : w4.heap[w3.heap.size]? = some (.cells #[.int .i64 p0, .int .i64 p1] 41 (0, 0)) := by rw [← hw4]; exact heap_alloc_new _ _
      have HS4 := Lib.hid ((HSEL.out.keep hb3).keep hb4)
      have HB4 := Lib.hid ((HBW.out.trans (hb3.mono HBW.out.size)).trans (hb4.mono (Nat.le_trans HBW.out.size hb3.size)))
      have HL4 := Lib.hid hl4
      have hzl4 := obj_lt hl4
      have hz34 := hb3.size
      have hzw := HBW.out.size
      clear hb3 hb4 hl4 HSEL HBW
      go_wp2_with fail
      (try rw [hw4])
      clear hw4
      refine (HLC.out w4 HS4.out).mono ?_
      rintro e _ ⟨he, q5, rfl⟩
      subst he
      obtain ⟨w5, hw5⟩ : ∃ W, w4.drewN q5 = W := ⟨_, rfl⟩
      have hb5 : Below w4.heap.size w4 w5 := by rw [← hw5]; exact below_drewN_self _ _
      rw [hw5]
      clear hw5
      have HS5 := Lib.hid (HS4.out.keep hb5)
      have HB5 := Lib.hid (HB4.out.trans (hb5.mono HB4.out.size))
      have HL5 := Lib.hid (obj_below hb5 HL4.out (obj_lt HL4.out))
      have hz45 := hb5.size
      obtain ⟨f, hf⟩ : ∃ f, decide (k ≤ (n1 : Int)) = f := ⟨_, rfl⟩
      have hd0 := cell_below HB5.out HX0.out (World.block_lt_of_cell? _ _ HX0.out)
      have hd1 := cell_below HB5.out HX1.out (World.block_lt_of_cell? _ _ HX1.out)
      clear hb5 HS4 HB4 HL4 HLC HLS
      go_wp2_with fail
      refine (OfferE_calls s k i L x0 x1 w5 HS5.out hLl (by omega) (by omega)).mono ?_
      rintro e w6 ⟨s', L', ok, he, hs', hto, hon, hoff⟩
      subst he
      have hof := off_tells (most := k) (xs := l.take i) HKP.out (by rw [HTI.out]; exact hoff)
      rw [HN1.out, HP.out, HB1.out, hf] at hof
      have hkp' := HKP.out.offE (x := (x0, x1)) HS5.out.2.2.2.1 (by rw [HTI.out]; exact hoff)
      rw [← HTK.out] at hkp'
      have hz56 := hon.size
      have hb6 : Below w.heap.size w w6 := HB5.out.trans (hon.below HB5.out.size fun x hx h => by have := HFR.out x h; omega)
      have hlt5 := HS5.out.lt
      have hl6 : w6.heap[w3.heap.size]? = some (.cells #[.int .i64 p0, .int .i64 p1] 41 (0, 0)) := hon.obj HL5.out fun h => by
        have h2 := HSLT.out _ h
        omega
      have HS6 := Lib.hid (show SelE w6 s' k ((i + 1 : Nat) : Int) L' from hs')
      have HKP6 := Lib.hid hkp'
      have HBS := Lib.hid hto.1
      have HFR6 := Lib.hid (show ∀ x, SlB s' x → w.heap.size ≤ x from fun x hx => by
        by_cases h : x < w5.heap.size
        · exact HFR.out x (hto.mem h hx)
        · omega)
      have HB6 := Lib.hid hb6
      have hd0 := cell_below hb6 HX0.out (World.block_lt_of_cell? _ _ HX0.out)
      have hd1 := cell_below hb6 HX1.out (World.block_lt_of_cell? _ _ HX1.out)
      have hl0 : w6.cell? ⟨w3.heap.size, 0, none⟩ = some (.int .i64 p0) := by simp [World.cell?, hl6]
      have hl1 : w6.cell? ⟨w3.heap.size, 1, none⟩ = some (.int .i64 p1) := by simp [World.cell?, hl6]
      have hbr : Below w6.heap.size w6 w6 := Below.refl _ _
      clear hoff hkp' hs' hto hon hb6 hlt5 hl6 HS5 HB5 HL5 HKP HFR
      obtain ⟨hof1, hof2, hof3⟩ := hof
      clear hf
      go_wp2_with fail
      go_cut [67] (fun s67 wx => s67 = .bool false ∧ Below w6.heap.size w6 wx)
      case first =>
        cases f with
        | false =>
          obtain rfl : ok = true := hof1 rfl
          clear hof1 hof2 hof3
          go_quiet (fail)
          go_wp2_with fail
          go_meet
          exact ⟨rfl, below_drewN_self _ _⟩
        | true =>
          cases b1 with
          | false =>
            obtain rfl : ok = false := hof2 rfl rfl
            clear hof1 hof2 hof3
            go_quiet (fail)
            go_wp2_with fail
            go_meet
            exact ⟨rfl, below_drewN_self _ _⟩
          | true =>
            have hq := hof3 rfl rfl
            obtain ⟨q, hq2⟩ : ∃ q, nearB x0 x1 p0 p1 = q := ⟨_, rfl⟩
            simp only [hq2] at hq
            obtain rfl : ok = q := hq
            have HQ := Lib.hid hq2
            clear hof1 hof2 hof3 hq2
            clear KA HSLT HI HTI HTK HX0 HX1 HN1 HP HB1 HS6 HKP6 HBS HFR6 HB6 HN hkq hiN hLl hz56 hz45 hz34 hzw hzl4 hcl h0 h0' hk hwk1 hk0 hk255 hbx hz1
            cases ok
            all_goals
              refine wp_region_held_drew (S := (fun w' => w'.cell? (ad.add (i * 2)) = some (.int .i64 x0) ∧ w'.cell? ⟨(ad.add (i * 2)).block, (ad.add (i * 2)).off + 1, none⟩ = some (.int .i64 x1) ∧ w'.cell? ⟨w3.heap.size, 0, none⟩ = some (.int .i64 p0) ∧ w'.cell? ⟨w3.heap.size, 1, none⟩ = some (.int .i64 p1) ∧ Below w6.heap.size w6 w')) (by kernel_rfl) ?_ (fun hHeld => ?_)
              · (try dsimp only)
                (first | exact ⟨cell_below (B := w6.heap.size) (w := w6) (by repeat (first | with_reducible assumption | with_reducible exact Below.refl _ _ | with_reducible apply below_drew1 | with_reducible apply below_alloc1)) hd0 (World.block_lt_of_cell? _ _ hd0), cell_below (B := w6.heap.size) (w := w6) (by repeat (first | with_reducible assumption | with_reducible exact Below.refl _ _ | with_reducible apply below_drew1 | with_reducible apply below_alloc1)) hd1 (World.block_lt_of_cell? _ _ hd1), cell_below (B := w6.heap.size) (w := w6) (by repeat (first | with_reducible assumption | with_reducible exact Below.refl _ _ | with_reducible apply below_drew1 | with_reducible apply below_alloc1)) hl0 (World.block_lt_of_cell? _ _ hl0), cell_below (B := w6.heap.size) (w := w6) (by repeat (first | with_reducible assumption | with_reducible exact Below.refl _ _ | with_reducible apply below_drew1 | with_reducible apply below_alloc1)) hl1 (World.block_lt_of_cell? _ _ hl1), (by repeat (first | with_reducible assumption | with_reducible exact Below.refl _ _ | with_reducible apply below_drew1 | with_reducible apply below_alloc1))⟩ | go_keep)
              (refine wpAnyH_take (i := 0) (oi := ?_) (v := ?_) ?_ (by kernel_rfl) (by kernel_rfl) (by kernel_rfl) ?_ ?_ (by assumption) ?_; rotate_left 2; (focus (simp only [List.getElem?_toArray, List.getElem?_cons_succ, List.getElem?_cons_zero] <;> with_reducible rfl)); (focus exact fun _ _ _ h => h); (focus (refine Or.inl ⟨by rfl, ?_⟩; intro wR hSw; (try dsimp only at hSw); go_simp <;> with_reducible rfl)))
              (try simp only [Act.put, List.setIfInBounds_toArray, List.set_cons_zero, List.set_cons_succ])
              (refine wpAnyH_take (i := 1) (oi := ?_) (v := ?_) ?_ (by kernel_rfl) (by kernel_rfl) (by kernel_rfl) ?_ ?_ (by assumption) ?_; rotate_left 2; (focus (simp only [List.getElem?_toArray, List.getElem?_cons_succ, List.getElem?_cons_zero] <;> with_reducible rfl)); (focus exact fun _ _ _ h => h); (focus (refine Or.inl ⟨by rfl, ?_⟩; intro wR hSw; (try dsimp only at hSw); go_simp <;> with_reducible rfl)))
              (try simp only [Act.put, List.setIfInBounds_toArray, List.set_cons_zero, List.set_cons_succ])
              (refine wpAnyH_take (i := 2) (oi := ?_) (v := ?_) ?_ (by kernel_rfl) (by kernel_rfl) (by kernel_rfl) ?_ ?_ (by assumption) ?_; rotate_left 2; (focus (simp only [List.getElem?_toArray, List.getElem?_cons_succ, List.getElem?_cons_zero] <;> with_reducible rfl)); (focus exact fun _ _ _ h => h); (focus (refine Or.inl ⟨by rfl, ?_⟩; intro wR hSw; (try dsimp only at hSw); go_simp <;> with_reducible rfl)))
              (try simp only [Act.put, List.setIfInBounds_toArray, List.set_cons_zero, List.set_cons_succ])
              (refine wpAnyH_take (i := 3) (oi := ?_) (v := ?_) ?_ (by kernel_rfl) (by kernel_rfl) (by kernel_rfl) ?_ ?_ (by assumption) ?_; rotate_left 2; (focus (simp only [List.getElem?_toArray, List.getElem?_cons_succ, List.getElem?_cons_zero] <;> with_reducible rfl)); (focus exact fun _ _ _ h => h); (focus (refine Or.inl ⟨by rfl, ?_⟩; intro wR hSw; (try dsimp only at hSw); go_simp <;> with_reducible rfl)))
              (try simp only [Act.put, List.setIfInBounds_toArray, List.set_cons_zero, List.set_cons_succ])
              (refine wpAnyH_take (i := 4) (oi := ?_) (v := ?_) ?_ (by kernel_rfl) (by kernel_rfl) (by kernel_rfl) ?_ ?_ (by assumption) ?_; rotate_left 2; (focus (simp only [List.getElem?_toArray, List.getElem?_cons_succ, List.getElem?_cons_zero] <;> with_reducible rfl)); (focus exact fun _ _ _ h => h); (focus (refine Or.inl ⟨by rfl, ?_⟩; intro wR hSw; (try dsimp only at hSw); go_simp <;> with_reducible rfl)))
              (try simp only [Act.put, List.setIfInBounds_toArray, List.set_cons_zero, List.set_cons_succ])
              (refine wpAnyH_take (i := 5) (oi := ?_) (v := ?_) ?_ (by kernel_rfl) (by kernel_rfl) (by kernel_rfl) ?_ ?_ (by assumption) ?_; rotate_left 2; (focus (simp only [List.getElem?_toArray, List.getElem?_cons_succ, List.getElem?_cons_zero] <;> with_reducible rfl)); (focus exact fun _ _ _ h => h); (focus (refine Or.inl ⟨by rfl, ?_⟩; intro wR hSw; (try dsimp only at hSw); go_simp <;> with_reducible rfl)))
              (try simp only [Act.put, List.setIfInBounds_toArray, List.set_cons_zero, List.set_cons_succ])
              (refine wpAnyH_take (i := 6) (oi := ?_) (v := ?_) ?_ (by kernel_rfl) (by kernel_rfl) (by kernel_rfl) ?_ ?_ (by assumption) ?_; rotate_left 2; (focus (simp only [List.getElem?_toArray, List.getElem?_cons_succ, List.getElem?_cons_zero] <;> with_reducible rfl)); (focus exact fun _ _ _ h => h); (focus (refine Or.inl ⟨by rfl, ?_⟩; intro wR hSw; (try dsimp only at hSw); go_simp <;> with_reducible rfl)))
              (try simp only [Act.put, List.setIfInBounds_toArray, List.set_cons_zero, List.set_cons_succ])
              (refine wpAnyH_take (i := 7) (oi := ?_) (v := ?_) ?_ (by kernel_rfl) (by kernel_rfl) (by kernel_rfl) ?_ ?_ (by assumption) ?_; rotate_left 2; (focus (simp only [List.getElem?_toArray, List.getElem?_cons_succ, List.getElem?_cons_zero] <;> with_reducible rfl)); (focus exact fun _ _ _ h => h); (focus (refine Or.inl ⟨by rfl, ?_⟩; intro wR hSw; (try dsimp only at hSw); go_simp <;> with_reducible rfl)))
              (try simp only [Act.put, List.setIfInBounds_toArray, List.set_cons_zero, List.set_cons_succ])
              (refine wpAnyH_take (i := 8) (oi := ?_) (v := ?_) ?_ (by kernel_rfl) (by kernel_rfl) (by kernel_rfl) ?_ ?_ (by assumption) ?_; rotate_left 2; (focus (simp only [List.getElem?_toArray, List.getElem?_cons_succ, List.getElem?_cons_zero] <;> with_reducible rfl)); (focus exact fun _ _ _ h => h); (focus (refine Or.inl ⟨by rfl, ?_⟩; intro wR hSw; (try dsimp only at hSw); go_simp <;> with_reducible rfl)))
              (try simp only [Act.put, List.setIfInBounds_toArray, List.set_cons_zero, List.set_cons_succ])
              (refine wpAnyH_take (i := 9) (oi := ?_) (v := ?_) ?_ (by kernel_rfl) (by kernel_rfl) (by kernel_rfl) ?_ ?_ (by assumption) ?_; rotate_left 2; (focus (simp only [List.getElem?_toArray, List.getElem?_cons_succ, List.getElem?_cons_zero] <;> with_reducible rfl)); (focus exact fun _ _ _ h => h); (focus (refine Or.inl ⟨by rfl, ?_⟩; intro wR hSw; (try dsimp only at hSw); go_simp <;> with_reducible rfl)))
              (try simp only [Act.put, List.setIfInBounds_toArray, List.set_cons_zero, List.set_cons_succ])
              refine wpAnyH_ready (rs := [10]) (by kernel_rfl) (by simp) ?_
              refine AllReadyH.cons (o := ?_) ?_ (fun K hK => ?_) AllReadyH.nil
              rotate_left 1
              focus (simp only [List.getElem?_toArray, List.getElem?_cons_succ, List.getElem?_cons_zero] <;> with_reducible rfl)
              go_simp
              go_split_ands
              (with_reducible refine (Nearer_calls x0 x1 p0 p1 _).mono ?_)
              rintro e w7 ⟨he, hbq⟩
              rw [HQ.out] at he
              subst he
              have hB7 : Below w6.heap.size w6 w7 := Below.after (by repeat (first | with_reducible assumption | with_reducible exact Below.refl _ _ | with_reducible apply below_drew1 | with_reducible apply below_alloc1)) hbq
              refine hK.out _ _ ?_ (fun hHeld => ?_)
              · (try dsimp only)
                (first | exact ⟨cell_below (B := w6.heap.size) (w := w6) (by repeat (first | with_reducible assumption | with_reducible exact Below.refl _ _ | with_reducible apply below_drew1 | with_reducible apply below_alloc1)) hd0 (World.block_lt_of_cell? _ _ hd0), cell_below (B := w6.heap.size) (w := w6) (by repeat (first | with_reducible assumption | with_reducible exact Below.refl _ _ | with_reducible apply below_drew1 | with_reducible apply below_alloc1)) hd1 (World.block_lt_of_cell? _ _ hd1), cell_below (B := w6.heap.size) (w := w6) (by repeat (first | with_reducible assumption | with_reducible exact Below.refl _ _ | with_reducible apply below_drew1 | with_reducible apply below_alloc1)) hl0 (World.block_lt_of_cell? _ _ hl0), cell_below (B := w6.heap.size) (w := w6) (by repeat (first | with_reducible assumption | with_reducible exact Below.refl _ _ | with_reducible apply below_drew1 | with_reducible apply below_alloc1)) hl1 (World.block_lt_of_cell? _ _ hl1), (by repeat (first | with_reducible assumption | with_reducible exact Below.refl _ _ | with_reducible apply below_drew1 | with_reducible apply below_alloc1))⟩ | go_keep)
              clear hK K
              (try simp only [Act.put, List.setIfInBounds_toArray, List.set_cons_zero, List.set_cons_succ])
              (refine wpAnyH_take (i := 11) (oi := ?_) (v := ?_) ?_ (by kernel_rfl) (by kernel_rfl) (by kernel_rfl) ?_ ?_ (by assumption) ?_; rotate_left 2; (focus (simp only [List.getElem?_toArray, List.getElem?_cons_succ, List.getElem?_cons_zero] <;> with_reducible rfl)); (focus exact fun _ _ _ h => h); (focus (refine Or.inl ⟨by rfl, ?_⟩; intro wR hSw; (try dsimp only at hSw); go_simp <;> with_reducible rfl)))
              (try simp only [Act.put, List.setIfInBounds_toArray, List.set_cons_zero, List.set_cons_succ])
              (refine wpAnyH_take (i := 12) (oi := ?_) (v := ?_) ?_ (by kernel_rfl) (by kernel_rfl) (by kernel_rfl) ?_ ?_ (by assumption) ?_; rotate_left 2; (focus (simp only [List.getElem?_toArray, List.getElem?_cons_succ, List.getElem?_cons_zero] <;> with_reducible rfl)); (focus exact fun _ _ _ h => h); (focus (refine Or.inl ⟨by rfl, ?_⟩; intro wR hSw; (try dsimp only at hSw); go_simp <;> with_reducible rfl)))
              (try simp only [Act.put, List.setIfInBounds_toArray, List.set_cons_zero, List.set_cons_succ])
              (refine wpAnyH_take (i := 13) (oi := ?_) (v := ?_) ?_ (by kernel_rfl) (by kernel_rfl) (by kernel_rfl) ?_ ?_ (by assumption) ?_; rotate_left 2; (focus (simp only [List.getElem?_toArray, List.getElem?_cons_succ, List.getElem?_cons_zero] <;> with_reducible rfl)); (focus exact fun _ _ _ h => h); (focus (refine Or.inl ⟨by rfl, ?_⟩; intro wR hSw; (try dsimp only at hSw); go_simp <;> with_reducible rfl)))
              (try simp only [Act.put, List.setIfInBounds_toArray, List.set_cons_zero, List.set_cons_succ])
              (refine wpAnyH_take (i := 14) (oi := ?_) (v := ?_) ?_ (by kernel_rfl) (by kernel_rfl) (by kernel_rfl) ?_ ?_ (by assumption) ?_; rotate_left 2; (focus (simp only [List.getElem?_toArray, List.getElem?_cons_succ, List.getElem?_cons_zero] <;> with_reducible rfl)); (focus exact fun _ _ _ h => h); (focus (refine Or.inl ⟨by rfl, ?_⟩; intro wR hSw; (try dsimp only at hSw); go_simp <;> with_reducible rfl)))
              (try simp only [Act.put, List.setIfInBounds_toArray, List.set_cons_zero, List.set_cons_succ])
              (refine wpAnyH_take (i := 15) (oi := ?_) (v := ?_) ?_ (by kernel_rfl) (by kernel_rfl) (by kernel_rfl) ?_ ?_ (by assumption) ?_; rotate_left 2; (focus (simp only [List.getElem?_toArray, List.getElem?_cons_succ, List.getElem?_cons_zero] <;> with_reducible rfl)); (focus exact fun _ _ _ h => h); (focus (refine Or.inl ⟨by rfl, ?_⟩; intro wR hSw; (try dsimp only at hSw); go_simp <;> with_reducible rfl)))
              (try simp only [Act.put, List.setIfInBounds_toArray, List.set_cons_zero, List.set_cons_succ])
              (refine wpAnyH_take (i := 16) (oi := ?_) (v := ?_) ?_ (by kernel_rfl) (by kernel_rfl) (by kernel_rfl) ?_ ?_ (by assumption) ?_; rotate_left 2; (focus (simp only [List.getElem?_toArray, List.getElem?_cons_succ, List.getElem?_cons_zero] <;> with_reducible rfl)); (focus exact fun _ _ _ h => h); (focus (refine Or.inl ⟨by rfl, ?_⟩; intro wR hSw; (try dsimp only at hSw); go_simp <;> with_reducible rfl)))
              (try simp only [Act.put, List.setIfInBounds_toArray, List.set_cons_zero, List.set_cons_succ])
              (refine wpAnyH_take (i := 17) (oi := ?_) (v := ?_) ?_ (by kernel_rfl) (by kernel_rfl) (by kernel_rfl) ?_ ?_ (by assumption) ?_; rotate_left 2; (focus (simp only [List.getElem?_toArray, List.getElem?_cons_succ, List.getElem?_cons_zero] <;> with_reducible rfl)); (focus exact fun _ _ _ h => h); (focus (refine Or.inl ⟨by rfl, ?_⟩; intro wR hSw; (try dsimp only at hSw); go_simp <;> with_reducible rfl)))
              (try simp only [Act.put, List.setIfInBounds_toArray, List.set_cons_zero, List.set_cons_succ])
              (refine wpAnyH_take (i := 18) (oi := ?_) (v := undef) ?_ (by kernel_rfl) (by kernel_rfl) (by kernel_rfl) ?_ ?_ (by assumption) ?_; rotate_left 1; (focus (simp only [List.getElem?_toArray, List.getElem?_cons_succ, List.getElem?_cons_zero] <;> with_reducible rfl)); (focus exact fun _ _ _ h => h); (focus exact Or.inr ⟨by rfl, rfl⟩))
              (try simp only [Act.put, List.setIfInBounds_toArray, List.set_cons_zero, List.set_cons_succ])
              (refine wpAnyH_take (i := 19) (oi := ?_) (v := undef) ?_ (by kernel_rfl) (by kernel_rfl) (by kernel_rfl) ?_ ?_ (by assumption) ?_; rotate_left 1; (focus (simp only [List.getElem?_toArray, List.getElem?_cons_succ, List.getElem?_cons_zero] <;> with_reducible rfl)); (focus exact fun _ _ _ h => h); (focus exact Or.inr ⟨by rfl, rfl⟩))
              (try simp only [Act.put, List.setIfInBounds_toArray, List.set_cons_zero, List.set_cons_succ])
              (refine wpAnyH_take (i := 20) (oi := ?_) (v := ?_) ?_ (by kernel_rfl) (by kernel_rfl) (by kernel_rfl) ?_ ?_ (by assumption) ?_; rotate_left 2; (focus (simp only [List.getElem?_toArray, List.getElem?_cons_succ, List.getElem?_cons_zero] <;> with_reducible rfl)); (focus exact fun _ _ _ h => h); (focus (refine Or.inl ⟨by rfl, ?_⟩; intro wR hSw; (try dsimp only at hSw); go_simp <;> with_reducible rfl)))
              (try simp only [Act.put, List.setIfInBounds_toArray, List.set_cons_zero, List.set_cons_succ])
              (refine wpAnyH_take (i := 21) (oi := ?_) (v := ?_) ?_ (by kernel_rfl) (by kernel_rfl) (by kernel_rfl) ?_ ?_ (by assumption) ?_; rotate_left 2; (focus (simp only [List.getElem?_toArray, List.getElem?_cons_succ, List.getElem?_cons_zero] <;> with_reducible rfl)); (focus exact fun _ _ _ h => h); (focus (refine Or.inl ⟨by rfl, ?_⟩; intro wR hSw; (try dsimp only at hSw); go_simp <;> with_reducible rfl)))
              (try simp only [Act.put, List.setIfInBounds_toArray, List.set_cons_zero, List.set_cons_succ])
              refine wpAnyH_done (by kernel_rfl) ?_ _
              all_goals
                go_wp2_with fail
                go_meet
                exact ⟨rfl, hB7⟩
      obtain ⟨rfl, hb7⟩ := hcut
      have HS7 := Lib.hid (HS6.out.keep hb7)
      have HB7 := Lib.hid (HB6.out.trans (hb7.mono HB6.out.size))
      have hL'l : L'.length ≤ 100000 := by have h := HKP6.out.length; rw [ents_length, List.length_take] at h; omega
      rw [← HBS.out]
      clear hb7 HS6 HB6 hof1 hof2 hof3 hd0 hd1 hl0 hl1 hbr
      go_wp2_with fail
      refine (ListE_calls s' k ((i + 1 : Nat) : Int) L' wc HS7.out hL'l).mono ?_
      rintro e w8 ⟨s2, L2, S, vO, he, hs2, hp2, hto2, hon2, hpS, hsS, hO, hsep⟩
      subst he
      obtain ⟨A2, c2, rfl, hc2⟩ := hO.shape
      obtain ⟨n2, hn2⟩ : ∃ n, S.length = n := ⟨_, rfl⟩
      have hn2b : n2 ≤ 100000 := by rw [← hn2, hpS.length_eq]; exact hL'l
      have hlm : (S.map fun p => (p.1, p.2.1)).length = n2 := by rw [List.length_map]; exact hn2
      rw [hlm] at hO hc2 ⊢
      obtain ⟨⟨y0, y1⟩, hy⟩ : ∃ p, lastP L2 = p := ⟨_, rfl⟩
      obtain ⟨b2, hb2⟩ : ∃ b, isP L2 = b := ⟨_, rfl⟩
      have hS2 : S.Perm L2 := hpS.trans hp2.symm
      have hl2 : L2.length = n2 := by rw [← hn2]; exact hS2.length_eq.symm
      have hbb2 : b2 = decide (0 < (n2 : Int)) := by rw [← hb2, isP_len hS2, hn2]
      have hz78 := hon2.size
      have HR2 := Lib.hid (hO.rdp rfl)
      have HSZ := Lib.hid (show ∀ m, n2 = m + 1 → ∃ g, A2 = some ⟨g, 0, none⟩ ∧ w8.cell? ⟨g, m * 2, none⟩ = some (.int .i64 y0) ∧ w8.cell? ⟨g, m * 2 + 1, none⟩ = some (.int .i64 y1) from fun m hm => by
        obtain ⟨g, x, rfl, _, _, hx, hc0, _, _⟩ := hO.at_ twoR_q m (by omega) (by omega)
        have hlt := last_top hs2.2.2.2.1 hS2 hsS m (by omega)
        rw [hx] at hlt
        injection hlt with hlt
        rw [hlt, hy] at hc0
        exact ⟨g, rfl, by simpa [twoR] using hc0 0 (by omega), by simpa [twoR] using hc0 1 (by omega)⟩)
      have hb8 : Below w.heap.size w w8 := HB7.out.trans (hon2.below HB7.out.size fun x hx h => by have := HFR6.out x h; omega)
      have HB8 := Lib.hid hb8
      have HS8 := Lib.hid (show SelE w8 s2 k ((i + 1 : Nat) : Int) L2 from hs2)
      have HKP8 := Lib.hid (HKP6.out.perm hp2)
      have HBS8 := Lib.hid (hto2.1.trans HBS.out)
      have hz7 := HB7.out.size
      have HFR8 := Lib.hid (show ∀ x, SlB s2 x → w.heap.size ≤ x from fun x hx => by
        by_cases h : x < wc.heap.size
        · exact HFR6.out x (hto2.mem h hx)
        · omega)
      obtain ⟨nx, hnx⟩ : ∃ x : Int, ((i + 1 : Nat) : Int) = x := ⟨_, rfl⟩
      have HNX := Lib.hid hnx
      rw [hnx] at HS8
      clear hnx
      have hLC : ∀ W : World, SelE W s2 k nx L2 → Calls Try.prog 57 #[.pointer (some ⟨s2.bs, 0, none⟩)] W (fun e w' => e = .returned (.int .i64 (n2 : Int)) ∧ ∃ n, w' = W.drewN n) := fun W hW => by rw [← hl2]; exact SLenE_calls s2 k nx L2 W hW
      have hLS : ∀ W : World, SelE W s2 k nx L2 → Calls Try.prog 56 #[.pointer (some ⟨s2.bs, 0, none⟩)] W (fun e w' => e = .returned (.tuple #[.agg #[.int .i64 y0, .int .i64 y1], .bool b2]) ∧ Below W.heap.size W w') := fun W hW => by rw [← hb2, ← show (lastP L2).1 = y0 by rw [hy], ← show (lastP L2).2 = y1 by rw [hy]]; exact SLastE_calls s2 k nx L2 W hW
      have HLC := Lib.hid hLC
      have HLS := Lib.hid hLS
      have HBB := Lib.hid hbb2
      have hto2' := hto2.1
      rw [← hto2']
      clear hlm hy hb2 hS2 hl2 hbb2 hb8 hs2 hp2 hto2 hto2' hon2 hpS hsS hO hsep hLC hLS HS7 HB7 HKP6 HBS HFR6 hz7
      go_wp2_with fail
      refine (HLS.out w8 HS8.out).mono ?_
      rintro e w9 ⟨he, hb9⟩
      subst he
      obtain ⟨w10, hw10⟩ : ∃ W, w9.alloc (.cells #[.int .i64 y0, .int .i64 y1] 41) = W := ⟨_, rfl⟩
      have hb10 : Below w9.heap.size w9 w10 := by rw [← hw10]; exact below_alloc1 (Below.refl _ _) _
      have hl10 : w10.heap[w9.heap.size]? = some (.cells #[.int .i64 y0, .int .i64 y1] 41 (0, 0)) := by rw [← hw10]; exact heap_alloc_new _ _
      have hl0 : w10.cell? ⟨w9.heap.size, 0, none⟩ = some (.int .i64 y0) := by simp [World.cell?, hl10]
      have hl1 : w10.cell? ⟨w9.heap.size, 1, none⟩ = some (.int .i64 y1) := by simp [World.cell?, hl10]
      have hb810 : Below w8.heap.size w8 w10 := hb9.trans (hb10.mono hb9.size)
      have HS10 := Lib.hid (HS8.out.keep hb810)
      have HB10 := Lib.hid (HB8.out.trans (hb810.mono HB8.out.size))
      have HB810 := Lib.hid hb810
      clear hb9 hb10 hl10 hb810 HS8 HB8
      go_wp2_with fail
      (try rw [hw10])
      clear hw10
      obtain ⟨sO, hsO⟩ : ∃ y, s = y := ⟨_, rfl⟩
      have hend : ∀ (q : Nat), ∃ s L, k1 ≤ N ∧ Value.int .i64 (((i : Nat) : Int) + 1) = .int .i64 ((N - k1 : Nat) : Int) ∧ SelE (w10.drewN q) s k ((N - k1 : Nat) : Int) L ∧ Keep aheadE k (ents (l.take (N - k1))) L ∧ s.bs = sO.bs ∧ (∀ x, SlB s x → w.heap.size ≤ x) ∧ Below w.heap.size w (w10.drewN q) := fun q => by
        rw [HI.out]
        exact ⟨s2, L2, by omega, by simp, by rw [HNX.out]; exact HS10.out.keep (below_drewN_self _ _), HKP8.out, by rw [← hsO]; exact HBS8.out, HFR8.out, HB10.out.trans ((below_drewN_self _ _).mono HB10.out.size)⟩
      rw [← hsO] at hend
      have HEND := Lib.hid hend
      clear hend hsO
      have hwi : IntKind.i64.wrap ((i : Int) + 1) = (i : Int) + 1 := by rw [i64_w]; exact wrap64_id _ (by omega)
      cases n2 with
      | zero =>
        have hbf : b2 = false := by rw [HBB.out]; rfl
        subst hbf
        go_quiet ((go_at_call 57; exact Calls.quiet_of (HLC.out _ (HS10.out.keep (below_drewN_self _ _)))))
        go_wp2_with fail
        rw [HBS8.out]
        go_roundg k1
        case measure => omega
        case rel => exact HEND.out _
      | succ m =>
        have hbf : b2 = true := by rw [HBB.out]; simp
        subst hbf
        obtain ⟨g, rfl, hc0, hc1⟩ := HSZ.out m rfl
        have hd0 := cell_below HB810.out hc0 (World.block_lt_of_cell? _ _ hc0)
        have hd1 := cell_below HB810.out hc1 (World.block_lt_of_cell? _ _ hc1)
        have hwm : IntKind.i64.wrap (m : Int) = (m : Int) := by rw [i64_w]; exact wrap64_id _ (by omega)
        clear hc0 hc1
        go_quiet ((go_at_call 57; exact Calls.quiet_of (HLC.out _ (HS10.out.keep (below_drewN_self _ _)))))
        go_wp2_with fail
        rw [HBS8.out]
        go_roundg k1
        case measure => omega
        case rel => exact HEND.out _
end Go.Proofs.Ytacgkoclammggaa
