
/-
  What the statements of layer 12 (split) share: the document's sides and goodness, sameness of ids, the items, the document's example. Condition: the arguments lie as the words say.
-/
import Derived.Test.YtohmcpblagcfeaaSplit2
import Derived.Deep.RegionHeld3
namespace Go.Proofs.Ytohmcpblagcfeaa
open Go.RowKit
set_option linter.unusedVariables false
set_option maxRecDepth 100000
set_option linter.unusedSimpArgs false

set_option maxHeartbeats 1600000 in
theorem SameI_calls (A B : Option Addr) (c d : Nat) (xs ys : List Int) (w : World) (ha : Rd w .i64 A xs) (hb : Rd w .i64 B ys) :
    Calls Try.prog 17 #[.slice A xs.length c, .slice B ys.length d] w fun e w' => e = .returned (.bool (decide (xs = ys))) ∧ ∃ n, w' = w.drewN n := by
  have KA := Lib.hid ha
  have KB := Lib.hid hb
  have lA := ha.1
  clear ha hb
  by_cases hl : xs.length = ys.length
  · obtain ⟨n, hn⟩ : ∃ n, ys.length = n := ⟨_, rfl⟩
    rw [hn] at hl
    have HX := Lib.hid hl
    have HY := Lib.hid hn
    rw [hl] at lA
    rw [hl, hn]
    have hnn : ((n : Int) != (n : Int)) = false := by simp
    clear hl hn
    go_enter Try.func17, Try.ntmps17
    go_wp2_with fail
    go_loopg [5] n (fun kq v5 w' => kq ≤ n ∧ v5 = .int .i64 ((n - kq : Nat) : Int) ∧ (∀ j, j < n - kq → xs.getD j 0 = ys.getD j 0) ∧ ∃ q, w' = w.drewN q)
    case atStart => exact ⟨Nat.le_refl _, by simp, fun j hj => by omega, 0, rfl⟩
    case round =>
      obtain ⟨hk, rfl, hpre, q, hwq⟩ := hrel
      have HP := Lib.hid hpre
      have hbel : Below w.heap.size w wr := by rw [hwq]; exact below_drewN_self w q
      have HW := Lib.hid hwq
      clear hpre hwq
      cases gk with
      | zero =>
        simp only [Nat.sub_zero] at HP ⊢
        have hlt0 : ¬ ((n : Int) < (n : Int)) := by omega
        go_wp2_with fail
        go_ret
        refine ⟨ret_bool ?_, q, HW.out⟩
        symm
        rw [decide_eq_true_iff]
        refine List.ext_getElem (by rw [HX.out, HY.out]) fun j h1 h2 => ?_
        have := HP.out j (by have := HX.out; omega)
        simpa [List.getD, h1, h2] using this
      | succ k1 =>
        obtain ⟨i, hi⟩ : ∃ i, n - (k1 + 1) = i := ⟨_, rfl⟩
        have hi2 : n - k1 = i + 1 := by omega
        have HI := Lib.hid hi2
        have hlt : i < n := by omega
        rw [hi] at HP ⊢
        obtain ⟨ad, rfl, hca⟩ := (KA.out.below hbel).2 i (by rw [HX.out]; exact hlt)
        obtain ⟨bd, rfl, hcb⟩ := (KB.out.below hbel).2 i (by rw [HY.out]; exact hlt)
        obtain ⟨x, hx⟩ : ∃ x, xs.getD i 0 = x := ⟨_, rfl⟩
        obtain ⟨y, hy⟩ : ∃ y, ys.getD i 0 = y := ⟨_, rfl⟩
        rw [hx] at hca
        rw [hy] at hcb
        have HXE := Lib.hid hx
        have HYE := Lib.hid hy
        clear hi hi2 hx hy
        by_cases hc : x = y
        · obtain rfl := hc
          have hxx : (x != x) = false := by simp
          go_wp2_with fail
          go_quiet (fail)
          go_wp2_with fail
          go_roundg k1
          case measure => omega
          case rel =>
            refine ⟨by omega, by rw [HI.out]; rfl, fun j hj => ?_, q + nq, by rw [HW.out, World.drewN_drewN]⟩
            rw [HI.out] at hj
            rcases Nat.lt_or_ge j i with h | h
            · exact HP.out j h
            · obtain rfl : j = i := by omega
              rw [HXE.out, HYE.out]
        · have hxx : (x != y) = true := by simp [hc]
          have HC := Lib.hid hc
          clear hc
          go_wp2_with fail
          go_quiet (fail)
          go_wp2_with fail
          go_ret
          refine ⟨ret_bool ?_, q + nq, by rw [HW.out, World.drewN_drewN]⟩
          symm
          rw [decide_eq_false_iff_not]
          intro e
          have h1 := HXE.out
          rw [e, HYE.out] at h1
          exact HC.out h1.symm
  · have hne : ((xs.length : Int) != (ys.length : Int)) = true := by
      rw [bne_iff_ne]
      omega
    obtain ⟨n, hn⟩ : ∃ n, xs.length = n := ⟨_, rfl⟩
    obtain ⟨m, hm⟩ : ∃ m, ys.length = m := ⟨_, rfl⟩
    have hf : decide (xs = ys) = false := decide_eq_false fun e => hl (by rw [e])
    rw [hn, hm] at hne
    rw [hn, hm, hf]
    clear hl hn hm hf lA
    go_enter Try.func17, Try.ntmps17
    go_wp2_with fail
    go_ret
    exact ⟨rfl, 0, rfl⟩
def ItemPost (w : World) (r : List Int) (e : Ending) (w' : World) : Prop := (∃ B d, e = .returned (.slice B r.length d) ∧ r.length ≤ d ∧ Rd w .i32 B r) ∧ w = w'
theorem Item_calls (A : Option Addr) (c : Nat) (ls : List (List Int)) (id : Int) (w : World) (ha : Rows w .i32 A ls) :
    Calls Try.prog 47 #[.slice A ls.length c, .int .i64 id] w (ItemPost w (itemZ ls id)) := by
  have KA := Lib.hid ha
  have lA := ha.1
  clear ha
  by_cases h1 : id < 0
  · have h1' : decide (id < 0) = true := decide_eq_true h1
    rw [itemZ_none (.inl h1)]
    go_enter Try.func47, Try.ntmps47
    go_wp2_with fail
    go_ret
    exact ⟨⟨_, _, rfl, Nat.le_refl _, Rd.nil _ _ _⟩, rfl⟩
  · have h1' : decide (id < 0) = false := decide_eq_false h1
    by_cases h2 : (ls.length : Int) ≤ id
    · have h2' : decide ((ls.length : Int) ≤ id) = true := decide_eq_true h2
      rw [itemZ_none (.inr h2)]
      go_enter Try.func47, Try.ntmps47
      go_wp2_with fail
      go_ret
      exact ⟨⟨_, _, rfl, Nat.le_refl _, Rd.nil _ _ _⟩, rfl⟩
    · obtain ⟨i, rfl⟩ : ∃ i : Nat, id = (i : Int) := ⟨id.toNat, by omega⟩
      have hi : i < ls.length := by omega
      have h2' : decide (ls.length ≤ i) = false := decide_eq_false (by omega)
      rw [itemZ_nat hi]
      obtain ⟨ad, B, d, rfl, hc, hd, hr⟩ := KA.out.2 i hi
      obtain ⟨r, hrr⟩ : ∃ r, ls.getD i [] = r := ⟨_, rfl⟩
      rw [hrr] at hc hd hr ⊢
      have HR := Lib.hid hr
      have bi : (i : Int) < (ls.length : Int) := by omega
      clear hr hrr h1 h2
      go_enter Try.func47, Try.ntmps47
      go_wp2_with fail
      go_ret
      exact ⟨⟨_, _, rfl, hd, HR.out⟩, rfl⟩
set_option maxHeartbeats 3200000 in
theorem rSide_calls (LA : Option Addr) (lc : Nat) (ls : List (List Int)) (A : Option Addr) (c : Nat) (ids : List Int) (B : Option Addr) (d : Nat) (ns : List Int) (off : Int) (on : Bool) (w : World) (hit : Rows w .i32 LA ls) (hr : ∀ r ∈ ls, R32 r) (ha : Rd w .i64 A ids) (hl : ids.length ≤ 1000000) (hn : Rd w .i32 B ns) (hn32 : R32 ns) :
    Calls Try.prog 18 #[.slice LA ls.length lc, .slice A ids.length c, .agg #[.slice B ns.length d, .int .i64 off], .bool on] w fun e w' => ∃ v, e = .returned v ∧ Own w' w.heap.size 3 .i64 v (sideL ls ns off ids on) ∧ Below w.heap.size w w' := by
  have KA := Lib.hid ha
  have KN := Lib.hid hn
  have HIT := Lib.hid hit
  have HR := Lib.hid hr
  have HN32 := Lib.hid hn32
  clear ha hn hit hr hn32
  go_enter Try.func18, Try.ntmps18
  go_wp2_with fail
  obtain ⟨w2, hw2⟩ : ∃ W, w.alloc (.cells #[.slice B ns.length d, .int .i64 off] 26) = W := ⟨_, rfl⟩
  rw [hw2]
  have hb2 : Below w.heap.size w w2 := by rw [← hw2]; exact below_alloc1 (Below.refl _ _) _
  have bp2 : w2.heap[w.heap.size]? = some (.cells #[.slice B ns.length d, .int .i64 off] 26 (0, 0)) := by rw [← hw2]; exact heap_alloc_new w _
  have HP2 := Lib.hid bp2
  clear hw2 bp2
  go_loopg [9, 10] ids.length (fun kq v9 v10 w' => kq ≤ ids.length ∧ v10 = .int .i64 ((ids.length - kq : Nat) : Int) ∧ Own w' w.heap.size 3 .i64 v9 (sideL ls ns off (ids.take (ids.length - kq)) on) ∧ Below w.heap.size w w' ∧ w'.heap[w.heap.size]? = some (.cells #[.slice B ns.length d, .int .i64 off] 26 (0, 0)) ∧ (∀ k, v9.ownBlock = some k → k ≠ w.heap.size))
  case atStart => exact ⟨Nat.le_refl _, by simp, by simp [sideL]; exact World.ownsRow_nil _ _ _ _, hb2, HP2.out, fun k hk => by simp [Value.ownBlock] at hk⟩
  case round =>
    clear HP2 hb2
    obtain ⟨hk, rfl, hO, hB, hP, hne⟩ := hrel
    have HB := Lib.hid hB
    have HP := Lib.hid hP
    have HO := Lib.hid hO
    have HNE := Lib.hid hne
    have hc0 : wr.cell? ⟨w.heap.size, 0, none⟩ = some (.slice B ns.length d) := by simp [World.cell?, hP]
    have hc1 : wr.cell? ⟨w.heap.size, 1, none⟩ = some (.int .i64 off) := by simp [World.cell?, hP]
    clear hB hP hO hne
    cases gk with
    | zero =>
      simp only [Nat.sub_zero, List.take_length] at HO ⊢
      have hlt0 : ¬ ((ids.length : Int) < (ids.length : Int)) := by omega
      go_wp2_with fail
      go_ret
      exact ⟨_, rfl, HO.out, HB.out⟩
    | succ k1 =>
      obtain ⟨i, hi⟩ : ∃ i, ids.length - (k1 + 1) = i := ⟨_, rfl⟩
      have hi2 : ids.length - k1 = i + 1 := by omega
      have HI := Lib.hid hi2
      have hlt : i < ids.length := by omega
      rw [hi] at HO ⊢
      obtain ⟨ad, rfl, hca⟩ := (KA.out.below HB.out).2 i hlt
      obtain ⟨id, hid⟩ : ∃ x, ids.getD i 0 = x := ⟨_, rfl⟩
      rw [hid] at hca
      have htk : ids.take (i + 1) = ids.take i ++ [id] := by rw [← hid, List.take_add_one]; simp [List.getD, hlt]
      have HTK := Lib.hid htk
      have hti : (ids.take i).length ≤ 1000000 := by simp; omega
      have hl0 : (sideL ls ns off (ids.take i) on).length ≤ 1000000 := Nat.le_trans (sideL_len _ _ _ _ _) hti
      have hwz := HB.out.size
      obtain ⟨z, hz⟩ : ∃ z, margin ns off (itemZ ls id) = z := ⟨_, rfl⟩
      obtain ⟨r, hr⟩ : ∃ r, decide (0 ≤ z) = r := ⟨_, rfl⟩
      have hon : onB ls ns off id = r := by unfold onB; rw [hz, hr]
      have HON := Lib.hid hon
      have HZ := Lib.hid hz
      obtain ⟨yl, hyl⟩ : ∃ yl, itemZ ls id = yl := ⟨_, rfl⟩
      have HYL := Lib.hid hyl
      have bi : (i : Int) < (ids.length : Int) := by omega
      have hit := Lib.hid (HYL.out ▸ Item_calls LA lc ls id : ∀ W, Rows W .i32 LA ls → Calls Try.prog 47 #[.slice LA ls.length lc, .int .i64 id] W (ItemPost W yl))
      have hry : R32 yl := by rw [← HYL.out]; exact itemZ_r32 HR.out id
      have HRY32 := Lib.hid hry
      have hmz : margin ns off yl = z := by rw [← HYL.out]; exact HZ.out
      have HMZ := Lib.hid hmz
      have hbr := World.block_lt_of_cell? _ _ hca
      have hwlt := obj_lt HP.out
      obtain ⟨A9, c9, rfl, hc9, _⟩ := HO.out.shape
      have hb0 : Below wr.heap.size wr wr := Below.refl _ _
      clear hi hi2 hid htk hti hon hyl hry hmz hz
      cases r with
      | true =>
        cases on with
        | true =>
          go_wp2_with fail
          go_region_held3 (fun w' => w'.cell? (ad.add i) = some (.int .i64 id) ∧ w'.cell? ⟨w.heap.size, 0, none⟩ = some (.slice B ns.length d) ∧ w'.cell? ⟨w.heap.size, 1, none⟩ = some (.int .i64 off) ∧ Below wr.heap.size wr w')
            (first | exact ⟨cell_below (B := wr.heap.size) (w := wr) (by first | ((repeat (first | assumption | exact Below.refl _ _ | apply below_drew1 | apply below_alloc1)); done)) hca hbr, cell_below (B := wr.heap.size) (w := wr) (by first | ((repeat (first | assumption | exact Below.refl _ _ | apply below_drew1 | apply below_alloc1)); done)) hc0 hwlt, cell_below (B := wr.heap.size) (w := wr) (by first | ((repeat (first | assumption | exact Below.refl _ _ | apply below_drew1 | apply below_alloc1)); done)) hc1 hwlt, (by first | ((repeat (first | assumption | exact Below.refl _ _ | apply below_drew1 | apply below_alloc1)); done))⟩ | go_keep)
            (first
              | (go_at_call 47; go_split_ands; (with_reducible refine (hit.out _ (HIT.out.below (HB.out.trans (Below.mono (B := wr.heap.size) (by first | ((repeat (first | assumption | exact Below.refl _ _ | apply below_drew1 | apply below_alloc1)); done)) hwz)))).mono ?_); rintro e wq ⟨⟨BY, dy, he, hdy, hrd⟩, hwq⟩; subst hwq; subst he; have HRD := Lib.hid (show Rd wr .i32 BY yl from hrd); clear hrd)
              | (go_at_call 46; go_split_ands; (with_reducible refine (refMargin_calls B BY d dy ns yl off _ (KN.out.below (HB.out.trans (Below.mono (B := wr.heap.size) (by first | ((repeat (first | assumption | exact Below.refl _ _ | apply below_drew1 | apply below_alloc1)); done)) hwz))) (HRD.out.below (by first | ((repeat (first | assumption | exact Below.refl _ _ | apply below_drew1 | apply below_alloc1)); done))) HN32.out HRY32.out).mono ?_); rintro e wq2 ⟨he, hbq⟩; rw [HMZ.out] at he; subst he; have hbB : Below wr.heap.size wr wq2 := Below.after (by first | ((repeat (first | assumption | exact Below.refl _ _ | apply below_drew1 | apply below_alloc1)); done)) hbq))
          have HBB := Lib.hid hbB
          have hcq := cell_below hbB hca hbr
          have hP7 := obj_below hbB HP.out (obj_lt HP.out)
          have HP7 := Lib.hid hP7
          have HO7 := Lib.hid (HO.out.keep hbB)
          have HB7 := Lib.hid (HB.out.trans (hbB.mono hwz))
          have hz7 := hbB.size
          clear hbB hbq hP7 hb0 hc0 hc1 hca HRD hit
          go_wp2_with (first
            | (at_builtin; refine wpList_appI _ rfl (.tmp 28) (.tmp 33) 23 3 rfl .i64 8 Try.underlying23 info_int (by omega) w.heap.size (.slice A9 _ c9) _ rfl (some ⟨wq2.heap.size, 0, none⟩) 1 [id] rfl (HO7.out.alloc1 _) w (below_alloc1 HB7.out _) (by rw [World.size_alloc]; omega) (Rd.new wq2 .i64 [id] 3 (by simp)) (by simp; omega) ?_; intro v1 w8 ho hgrow hbn hat hnil; have HO8 := Lib.hid ho; have HG8 := Lib.hid hgrow; have HB8 := Lib.hid hbn; have HAT8 := Lib.hid hat; clear ho hgrow hbn hat hnil))
          go_roundg k1
          case measure => omega
          case rel =>
            have hne8 : ∀ k, v1.ownBlock = some k → k ≠ w.heap.size := fun k hk => by
              rcases HAT8.out with h | h
              · exact HNE.out k (h ▸ hk)
              · rw [h] at hk
                injection hk with hk
                rw [World.size_alloc] at hk
                omega
            refine ⟨by omega, by rw [HI.out]; rfl, ?_, HB8.out, HG8.out.obj (obj_below (below_alloc1 (Below.refl _ _) _) HP7.out (obj_lt HP7.out)) fun h => HNE.out _ h rfl, hne8⟩
            rw [HI.out, HTK.out, sideL_snoc, HON.out]
            simpa using HO8.out
        | false =>
          go_wp2_with fail
          go_region_held3 (fun w' => w'.cell? (ad.add i) = some (.int .i64 id) ∧ w'.cell? ⟨w.heap.size, 0, none⟩ = some (.slice B ns.length d) ∧ w'.cell? ⟨w.heap.size, 1, none⟩ = some (.int .i64 off) ∧ Below wr.heap.size wr w')
            (first | exact ⟨cell_below (B := wr.heap.size) (w := wr) (by first | ((repeat (first | assumption | exact Below.refl _ _ | apply below_drew1 | apply below_alloc1)); done)) hca hbr, cell_below (B := wr.heap.size) (w := wr) (by first | ((repeat (first | assumption | exact Below.refl _ _ | apply below_drew1 | apply below_alloc1)); done)) hc0 hwlt, cell_below (B := wr.heap.size) (w := wr) (by first | ((repeat (first | assumption | exact Below.refl _ _ | apply below_drew1 | apply below_alloc1)); done)) hc1 hwlt, (by first | ((repeat (first | assumption | exact Below.refl _ _ | apply below_drew1 | apply below_alloc1)); done))⟩ | go_keep)
            (first
              | (go_at_call 47; go_split_ands; (with_reducible refine (hit.out _ (HIT.out.below (HB.out.trans (Below.mono (B := wr.heap.size) (by first | ((repeat (first | assumption | exact Below.refl _ _ | apply below_drew1 | apply below_alloc1)); done)) hwz)))).mono ?_); rintro e wq ⟨⟨BY, dy, he, hdy, hrd⟩, hwq⟩; subst hwq; subst he; have HRD := Lib.hid (show Rd wr .i32 BY yl from hrd); clear hrd)
              | (go_at_call 46; go_split_ands; (with_reducible refine (refMargin_calls B BY d dy ns yl off _ (KN.out.below (HB.out.trans (Below.mono (B := wr.heap.size) (by first | ((repeat (first | assumption | exact Below.refl _ _ | apply below_drew1 | apply below_alloc1)); done)) hwz))) (HRD.out.below (by first | ((repeat (first | assumption | exact Below.refl _ _ | apply below_drew1 | apply below_alloc1)); done))) HN32.out HRY32.out).mono ?_); rintro e wq2 ⟨he, hbq⟩; rw [HMZ.out] at he; subst he; have hbB : Below wr.heap.size wr wq2 := Below.after (by first | ((repeat (first | assumption | exact Below.refl _ _ | apply below_drew1 | apply below_alloc1)); done)) hbq))
          have HBB := Lib.hid hbB
          have hcq := cell_below hbB hca hbr
          have hP7 := obj_below hbB HP.out (obj_lt HP.out)
          have HP7 := Lib.hid hP7
          have HO7 := Lib.hid (HO.out.keep hbB)
          have HB7 := Lib.hid (HB.out.trans (hbB.mono hwz))
          have hz7 := hbB.size
          clear hbB hbq hP7 hb0 hc0 hc1 hca HRD hit
          go_wp2_with fail
          go_roundg k1
          case measure => omega
          case rel =>
            refine ⟨by omega, by rw [HI.out]; rfl, ?_, HB7.out, HP7.out, HNE.out⟩
            rw [HI.out, HTK.out, sideL_snoc, HON.out]
            simpa using HO7.out
      | false =>
        cases on with
        | true =>
          go_wp2_with fail
          go_region_held3 (fun w' => w'.cell? (ad.add i) = some (.int .i64 id) ∧ w'.cell? ⟨w.heap.size, 0, none⟩ = some (.slice B ns.length d) ∧ w'.cell? ⟨w.heap.size, 1, none⟩ = some (.int .i64 off) ∧ Below wr.heap.size wr w')
            (first | exact ⟨cell_below (B := wr.heap.size) (w := wr) (by first | ((repeat (first | assumption | exact Below.refl _ _ | apply below_drew1 | apply below_alloc1)); done)) hca hbr, cell_below (B := wr.heap.size) (w := wr) (by first | ((repeat (first | assumption | exact Below.refl _ _ | apply below_drew1 | apply below_alloc1)); done)) hc0 hwlt, cell_below (B := wr.heap.size) (w := wr) (by first | ((repeat (first | assumption | exact Below.refl _ _ | apply below_drew1 | apply below_alloc1)); done)) hc1 hwlt, (by first | ((repeat (first | assumption | exact Below.refl _ _ | apply below_drew1 | apply below_alloc1)); done))⟩ | go_keep)
            (first
              | (go_at_call 47; go_split_ands; (with_reducible refine (hit.out _ (HIT.out.below (HB.out.trans (Below.mono (B := wr.heap.size) (by first | ((repeat (first | assumption | exact Below.refl _ _ | apply below_drew1 | apply below_alloc1)); done)) hwz)))).mono ?_); rintro e wq ⟨⟨BY, dy, he, hdy, hrd⟩, hwq⟩; subst hwq; subst he; have HRD := Lib.hid (show Rd wr .i32 BY yl from hrd); clear hrd)
              | (go_at_call 46; go_split_ands; (with_reducible refine (refMargin_calls B BY d dy ns yl off _ (KN.out.below (HB.out.trans (Below.mono (B := wr.heap.size) (by first | ((repeat (first | assumption | exact Below.refl _ _ | apply below_drew1 | apply below_alloc1)); done)) hwz))) (HRD.out.below (by first | ((repeat (first | assumption | exact Below.refl _ _ | apply below_drew1 | apply below_alloc1)); done))) HN32.out HRY32.out).mono ?_); rintro e wq2 ⟨he, hbq⟩; rw [HMZ.out] at he; subst he; have hbB : Below wr.heap.size wr wq2 := Below.after (by first | ((repeat (first | assumption | exact Below.refl _ _ | apply below_drew1 | apply below_alloc1)); done)) hbq))
          have HBB := Lib.hid hbB
          have hcq := cell_below hbB hca hbr
          have hP7 := obj_below hbB HP.out (obj_lt HP.out)
          have HP7 := Lib.hid hP7
          have HO7 := Lib.hid (HO.out.keep hbB)
          have HB7 := Lib.hid (HB.out.trans (hbB.mono hwz))
          have hz7 := hbB.size
          clear hbB hbq hP7 hb0 hc0 hc1 hca HRD hit
          go_wp2_with fail
          go_roundg k1
          case measure => omega
          case rel =>
            refine ⟨by omega, by rw [HI.out]; rfl, ?_, HB7.out, HP7.out, HNE.out⟩
            rw [HI.out, HTK.out, sideL_snoc, HON.out]
            simpa using HO7.out
        | false =>
          go_wp2_with fail
          go_region_held3 (fun w' => w'.cell? (ad.add i) = some (.int .i64 id) ∧ w'.cell? ⟨w.heap.size, 0, none⟩ = some (.slice B ns.length d) ∧ w'.cell? ⟨w.heap.size, 1, none⟩ = some (.int .i64 off) ∧ Below wr.heap.size wr w')
            (first | exact ⟨cell_below (B := wr.heap.size) (w := wr) (by first | ((repeat (first | assumption | exact Below.refl _ _ | apply below_drew1 | apply below_alloc1)); done)) hca hbr, cell_below (B := wr.heap.size) (w := wr) (by first | ((repeat (first | assumption | exact Below.refl _ _ | apply below_drew1 | apply below_alloc1)); done)) hc0 hwlt, cell_below (B := wr.heap.size) (w := wr) (by first | ((repeat (first | assumption | exact Below.refl _ _ | apply below_drew1 | apply below_alloc1)); done)) hc1 hwlt, (by first | ((repeat (first | assumption | exact Below.refl _ _ | apply below_drew1 | apply below_alloc1)); done))⟩ | go_keep)
            (first
              | (go_at_call 47; go_split_ands; (with_reducible refine (hit.out _ (HIT.out.below (HB.out.trans (Below.mono (B := wr.heap.size) (by first | ((repeat (first | assumption | exact Below.refl _ _ | apply below_drew1 | apply below_alloc1)); done)) hwz)))).mono ?_); rintro e wq ⟨⟨BY, dy, he, hdy, hrd⟩, hwq⟩; subst hwq; subst he; have HRD := Lib.hid (show Rd wr .i32 BY yl from hrd); clear hrd)
              | (go_at_call 46; go_split_ands; (with_reducible refine (refMargin_calls B BY d dy ns yl off _ (KN.out.below (HB.out.trans (Below.mono (B := wr.heap.size) (by first | ((repeat (first | assumption | exact Below.refl _ _ | apply below_drew1 | apply below_alloc1)); done)) hwz))) (HRD.out.below (by first | ((repeat (first | assumption | exact Below.refl _ _ | apply below_drew1 | apply below_alloc1)); done))) HN32.out HRY32.out).mono ?_); rintro e wq2 ⟨he, hbq⟩; rw [HMZ.out] at he; subst he; have hbB : Below wr.heap.size wr wq2 := Below.after (by first | ((repeat (first | assumption | exact Below.refl _ _ | apply below_drew1 | apply below_alloc1)); done)) hbq))
          have HBB := Lib.hid hbB
          have hcq := cell_below hbB hca hbr
          have hP7 := obj_below hbB HP.out (obj_lt HP.out)
          have HP7 := Lib.hid hP7
          have HO7 := Lib.hid (HO.out.keep hbB)
          have HB7 := Lib.hid (HB.out.trans (hbB.mono hwz))
          have hz7 := hbB.size
          clear hbB hbq hP7 hb0 hc0 hc1 hca HRD hit
          go_wp2_with (first
            | (at_builtin; refine wpList_appI _ rfl (.tmp 28) (.tmp 33) 23 3 rfl .i64 8 Try.underlying23 info_int (by omega) w.heap.size (.slice A9 _ c9) _ rfl (some ⟨wq2.heap.size, 0, none⟩) 1 [id] rfl (HO7.out.alloc1 _) w (below_alloc1 HB7.out _) (by rw [World.size_alloc]; omega) (Rd.new wq2 .i64 [id] 3 (by simp)) (by simp; omega) ?_; intro v1 w8 ho hgrow hbn hat hnil; have HO8 := Lib.hid ho; have HG8 := Lib.hid hgrow; have HB8 := Lib.hid hbn; have HAT8 := Lib.hid hat; clear ho hgrow hbn hat hnil))
          go_roundg k1
          case measure => omega
          case rel =>
            have hne8 : ∀ k, v1.ownBlock = some k → k ≠ w.heap.size := fun k hk => by
              rcases HAT8.out with h | h
              · exact HNE.out k (h ▸ hk)
              · rw [h] at hk
                injection hk with hk
                rw [World.size_alloc] at hk
                omega
            refine ⟨by omega, by rw [HI.out]; rfl, ?_, HB8.out, HG8.out.obj (obj_below (below_alloc1 (Below.refl _ _) _) HP7.out (obj_lt HP7.out)) fun h => HNE.out _ h rfl, hne8⟩
            rw [HI.out, HTK.out, sideL_snoc, HON.out]
            simpa using HO8.out

theorem rGood_calls (n m : Nat) (w : World) (hn : n ≤ 1000000) (hm : m ≤ 1000000) :
    Calls Try.prog 20 #[.int .i64 n, .int .i64 m] w fun e w' => e = .returned (.bool (goodB n m)) ∧ w = w' := by
  have hg : goodB n m = (decide (0 < n) && decide (0 < m) && decide (n + m ≤ 8 * n) && decide (n + m ≤ 8 * m)) := by
    unfold goodB
    rw [Bool.eq_iff_iff]
    simp only [Bool.and_eq_true, decide_eq_true_eq]
    omega
  have HG := Lib.hid hg
  have hw1 : IntKind.i64.wrap (8 * (n : Int)) = 8 * (n : Int) := by rw [i64_w]; exact wrap64_id _ (by omega)
  have hw3 : IntKind.i64.wrap (8 * (m : Int)) = 8 * (m : Int) := by rw [i64_w]; exact wrap64_id _ (by omega)
  have hw2 : IntKind.i64.wrap ((n : Int) + (m : Int)) = (n : Int) + (m : Int) := by rw [i64_w]; exact wrap64_id _ (by omega)
  clear hg
  rcases Nat.eq_zero_or_pos n with h0 | h0
  · have h0' : decide (0 < n) = false := decide_eq_false (by omega)
    go_enter Try.func20, Try.ntmps20
    go_wp2_with fail
    go_ret
    exact ⟨ret_bool (by rw [HG.out, h0']; rfl), rfl⟩
  · have h0' : decide (0 < n) = true := decide_eq_true h0
    rcases Nat.eq_zero_or_pos m with h1 | h1
    · have h1' : decide (0 < m) = false := decide_eq_false (by omega)
      go_enter Try.func20, Try.ntmps20
      go_wp2_with fail
      go_ret
      exact ⟨ret_bool (by rw [HG.out, h0', h1']; rfl), rfl⟩
    · have h1' : decide (0 < m) = true := decide_eq_true h1
      by_cases h2 : n + m ≤ 8 * n
      · have h2' : decide ((n : Int) + (m : Int) ≤ 8 * (n : Int)) = true := decide_eq_true (by omega)
        go_enter Try.func20, Try.ntmps20
        go_wp2_with fail
        go_ret
        refine ⟨ret_bool ?_, rfl⟩
        rw [HG.out, h0', h1', decide_eq_true h2, Bool.true_and, Bool.true_and, Bool.true_and, Bool.eq_iff_iff, decide_eq_true_iff, decide_eq_true_iff]
        omega
      · have h2' : decide ((n : Int) + (m : Int) ≤ 8 * (n : Int)) = false := decide_eq_false (by omega)
        go_enter Try.func20, Try.ntmps20
        go_wp2_with fail
        go_ret
        exact ⟨ret_bool (by rw [HG.out, h0', h1', decide_eq_false h2]; rfl), rfl⟩
def SomePost (w : World) (dim : Int) (ls : List (List Int)) (n : Nat) (e : Ending) (w' : World) : Prop :=
  ∃ v, e = .returned v ∧ Below w.heap.size w w' ∧ (v = .pointer none ∨ ∃ b, v = .pointer (some ⟨b, 0, none⟩) ∧ w.heap.size ≤ b ∧ It w' b dim.toNat ls ∧ chkV dim ls = 0 ∧ ls.length ≤ 301 ∧ n ≤ 200)
theorem some12_calls (dim : Int) (LA : Option Addr) (lc : Nat) (ls : List (List Int)) (A : Option Addr) (c n : Nat) (w : World) (ha : Rows w .i32 LA ls) (hn : n ≤ 9223372036854775807) :
    Calls Try.prog 14 #[.int .i64 dim, .slice LA ls.length lc, .slice A n c] w (SomePost w dim ls n) := by
  have KA := Lib.hid ha
  clear ha
  go_enter Try.func14, Try.ntmps14
  go_wp2_with fail
  refine (Few_calls LA lc ls _ KA.out).mono ?_
  rintro e _ ⟨few, he, hfew, rfl⟩
  subst he
  have HFEW := Lib.hid hfew
  clear hfew
  cases few with
  | false =>
    go_wp2_with fail
    go_ret
    exact ⟨_, rfl, Below.refl _ _, .inl rfl⟩
  | true =>
    by_cases h2 : 200 < n
    · have h2' : decide ((200 : Int) < (n : Int)) = true := decide_eq_true (by omega)
      go_wp2_with fail
      go_ret
      exact ⟨_, rfl, Below.refl _ _, .inl rfl⟩
    · have h2' : decide ((200 : Int) < (n : Int)) = false := decide_eq_false (by omega)
      have hl3 := HFEW.out rfl
      go_wp2_with fail
      refine (Of_calls dim LA lc ls _ KA.out (by omega)).mono ?_
      rintro e w2 ⟨v, f, he, hchk, hf0, hf1, hbn⟩
      subst he
      have HCHK := Lib.hid hchk
      have HF0 := Lib.hid hf0
      have HF1 := Lib.hid hf1
      have HBN := Lib.hid hbn
      by_cases hf : f = 0
      · have hf' : (f != 0) = false := by simp [hf]
        have HF := Lib.hid hf
        clear hchk hf0 hf1 hbn hf
        go_wp2_with fail
        go_ret
        obtain ⟨b, hv, hb, hit⟩ := HF1.out HF.out
        exact ⟨_, rfl, HBN.out, .inr ⟨b, hv, hb, hit, by rw [HCHK.out, HF.out], hl3, by omega⟩⟩
      · have hf' : (f != 0) = true := by simp [hf]
        clear hchk hf0 hf1 hbn hf
        go_wp2_with fail
        go_ret
        exact ⟨_, rfl, HBN.out, .inl rfl⟩
end Go.Proofs.Ytohmcpblagcfeaa
