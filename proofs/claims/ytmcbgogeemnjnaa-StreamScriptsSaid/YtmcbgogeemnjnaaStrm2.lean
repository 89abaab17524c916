/-
  The reference's stream of a tree (layer 6). Condition: the list reads as numbers of 64 bits; no more than a million trees.
-/
import Derived.Test.YtmcbgogeemnjnaaStrm
import Derived.Deep.RegionLaw
namespace Go.Proofs.Ytmcbgogeemnjnaa
open Go.RowKit
set_option linter.unusedVariables false
set_option linter.unusedSimpArgs false

theorem cnt_lt {n t T j : Nat} (h : t < T) : j < cnt n t T ↔ t + j * T < n := by
  unfold cnt
  rw [← Nat.succ_le_iff, Nat.le_div_iff_mul_le (by omega), Nat.succ_mul]
  omega
theorem refS_true (st : Int) (l : List Int) : refS true st l = fun i => mixAt st (i + 1) := by
  funext i
  unfold refS
  rw [if_pos rfl]
theorem refS_false (st : Int) (l : List Int) : refS false st l = fun i => l.getD i 0 := by
  funext i
  unfold refS
  rw [if_neg (by decide)]
/-- what the reference's stream is: its source, newly made. -/
def RefNew (w w' : World) (s : Nat → Int) (v : Value) : Prop :=
  ∃ b mixed st A c l, v = .pointer (some ⟨b, 0, none⟩) ∧ RefS w' b mixed st A c l 0 ∧ w.heap.size ≤ b ∧ (∀ ad, 0 < l.length → A = some ad → w.heap.size ≤ ad.block) ∧ refS mixed st l = s
set_option maxHeartbeats 3200000 in
theorem refOf_calls (scr : Bool) (seed : Int) (A : Option Addr) (c : Nat) (l : List Int) (tree trees : Int) (w : World) (ha : Rd w .u64 A l) (hl : l.length ≤ 1000000) (htr : -9223372036854775808 ≤ tree ∧ trees ≤ 1000000) :
    Calls Try.prog 26 #[.agg #[.bool scr, .int .u64 seed, .slice A l.length c], .int .i64 tree, .int .i64 trees] w fun e w' => ∃ v, e = .returned v ∧ RefNew w w' (offT scr seed l tree trees) v ∧ Below w.heap.size w w' := by
  have KA := Lib.hid ha
  have lA := ha.1
  clear ha
  obtain ⟨s, hs0⟩ : ∃ s, offT scr seed l tree trees = s := ⟨_, rfl⟩
  rw [hs0]
  have HS := Lib.hid hs0
  clear hs0
  by_cases h1 : tree < 0 ∨ trees ≤ tree
  · have e1 : refS false 0 [] = s := by rw [← HS.out]; unfold offT; rw [if_pos h1, refS_false]; funext i; simp
    have t1 : (tree < 0) ∨ (0 ≤ tree ∧ trees ≤ tree) := by omega
    have HE := Lib.hid e1
    clear e1 h1
    rcases t1 with t1 | ⟨t1, t2⟩
    · have t1' : decide (tree < 0) = true := decide_eq_true t1
      go_enter Try.func26, Try.ntmps26
      go_wp2_with fail
      go_ret
      exact ⟨_, rfl, ⟨w.heap.size + 1, false, 0, none, 0, [], rfl, RefS.mk (by simpa using heap_alloc_new (w.alloc _) _) (Rd.nil _ _ _) (by intro _ h; simp at h), by omega, by intro _ h; simp at h, HE.out⟩, below_alloc1 (below_alloc1 (Below.refl _ _) _) _⟩
    · have t1' : decide (tree < 0) = false := decide_eq_false (by omega)
      have t2' : decide (trees ≤ tree) = true := decide_eq_true t2
      go_enter Try.func26, Try.ntmps26
      go_wp2_with fail
      go_ret
      exact ⟨_, rfl, ⟨w.heap.size + 1, false, 0, none, 0, [], rfl, RefS.mk (by simpa using heap_alloc_new (w.alloc _) _) (Rd.nil _ _ _) (by intro _ h; simp at h), by omega, by intro _ h; simp at h, HE.out⟩, below_alloc1 (below_alloc1 (Below.refl _ _) _) _⟩
  have t1' : decide (tree < 0) = false := decide_eq_false (by omega)
  have t2' : decide (trees ≤ tree) = false := decide_eq_false (by omega)
  obtain ⟨t, rfl⟩ : ∃ k : Nat, tree = k := ⟨tree.toNat, by omega⟩
  obtain ⟨T, rfl⟩ : ∃ k : Nat, trees = k := ⟨trees.toNat, by omega⟩
  have htT : t < T := by omega
  have hT2 : T ≤ 1000000 := by omega
  have e0 : offT scr seed l t T = if scr then fun i => (pk l t T (cnt l.length t T)).getD i 0 else fun i => mixAt (nthOut seed t) (i + 1) := by
    unfold offT
    rw [if_neg h1]
    simp
  rw [HS.out] at e0
  clear h1 HS htr
  cases scr with
  | false =>
    have HE := Lib.hid e0
    obtain ⟨q, hq⟩ : ∃ q, nthOut seed t = q := ⟨_, rfl⟩
    rw [hq] at HE
    have HQ := Lib.hid hq
    clear e0 hq
    go_enter Try.func26, Try.ntmps26
    go_wp2_with fail
    refine (Nth_calls seed t _).mono ?_
    rintro e _ ⟨he, rfl⟩
    rw [HQ.out] at he
    subst he
    go_wp2_with fail
    go_ret
    have h5 := HE.out
    simp only [Bool.false_eq_true, if_false] at h5
    exact ⟨_, rfl, ⟨w.heap.size + 1, true, q, none, 0, [], rfl, RefS.mk (by simpa using heap_alloc_new (w.alloc _) _) (Rd.nil _ _ _) (by intro _ h; simp at h), by omega, by intro _ h; simp at h, by rw [h5, refS_true]⟩, below_alloc1 (below_alloc1 (Below.refl _ _) _) _⟩
  | true =>
    have HE := Lib.hid e0
    clear e0
    go_enter Try.func26, Try.ntmps26
    go_wp2_with fail
    obtain ⟨w1, hw⟩ : ∃ W, w.alloc (.cells #[.bool true, .int .u64 seed, .slice A l.length c] 51) = W := ⟨_, rfl⟩
    rw [hw]
    have hb1 : Below w.heap.size w w1 := by rw [← hw]; exact below_alloc1 (Below.refl _ _) _
    have hd1 : w1.heap[w.heap.size]? = some (.cells #[.bool true, .int .u64 seed, .slice A l.length c] 51 (0, 0)) := by rw [← hw]; exact heap_alloc_new _ _
    have hze : w1.heap.size = w.heap.size + 1 := by rw [← hw]; simp
    have hz1 : w.heap.size + 1 ≤ w1.heap.size := by omega
    have HZE := Lib.hid hze
    clear hze
    clear hw
    have KA1 := Lib.hid (KA.out.below hb1)
    obtain ⟨w2, hw⟩ : ∃ W, w1.alloc (.cells #[.bool false, .int .u64 0, .slice none 0 0, .int .i64 0] 45) = W := ⟨_, rfl⟩
    rw [hw]
    have hb2 : Below w1.heap.size w1 w2 := by rw [← hw]; exact below_alloc1 (Below.refl _ _) _
    have hd2 : w2.heap[w1.heap.size]? = some (.cells #[.bool false, .int .u64 0, .slice none 0 0, .int .i64 0] 45 (0, 0)) := by rw [← hw]; exact heap_alloc_new _ _
    have hz2 : w1.heap.size + 1 ≤ w2.heap.size := by rw [← hw]; simp
    clear hw
    have HD1 := Lib.hid hd1
    rw [HZE.out] at hd2
    have HD2 := Lib.hid hd2
    have hz3 : w1.heap.size ≤ w.heap.size + 1 := by have := HZE.out; omega
    clear hd1 hd2
    obtain ⟨N, hN⟩ : ∃ N, cnt l.length t T = N := ⟨_, rfl⟩
    have HN := Lib.hid hN
    have hNl : N ≤ l.length := by rw [← hN]; exact cnt_le _ _ _ htT
    rw [hN] at HE
    clear hN
    go_loopg [8] N (fun kq v8 w' => kq ≤ N ∧ v8 = .int .i64 ((t + (N - kq) * T : Nat)) ∧ Below w1.heap.size w1 w' ∧ w2.heap.size ≤ w'.heap.size ∧ ∃ v, w'.heap[w.heap.size + 1]? = some (.cells #[.bool false, .int .u64 0, v, .int .i64 0] 45 (0, 0)) ∧ Own w' w2.heap.size 22 .u64 v (pk l t T (N - kq)))
    case atStart => exact ⟨Nat.le_refl _, by simp, hb2, Nat.le_refl _, _, HD2.out, by rw [Nat.sub_self]; exact World.ownsRow_nil _ _ _ _⟩
    case round =>
      obtain ⟨hk, rfl, HB, hzr, v, hd, HO⟩ := hrel
      obtain ⟨A1, c1, rfl, hc1, hr1⟩ := HO.shape
      have HO' := Lib.hid HO
      have HBH := Lib.hid HB
      have HD := Lib.hid hd
      have HR1 := Lib.hid hr1
      have hwz := HB.size
      have hlen := pk_length l t T (N - gk)
      have hcd : wr.cell? ⟨w.heap.size, 2, none⟩ = some (.slice A l.length c) := by
        have := obj_below HB HD1.out (by omega)
        simp [World.cell?, this]
      rw [hlen] at hd hc1 HD HO'
      have hcv : wr.cell? ⟨w.heap.size + 1, 2, none⟩ = some (.slice A1 (N - gk) c1) := by simp [World.cell?, HD.out]
      have hfv : wr.frozen? ⟨w.heap.size + 1, 2, none⟩ = false := by simp [World.frozen?, HD.out]
      clear HO HB hd hr1 hlen
      cases gk with
      | zero =>
        simp only [Nat.sub_zero] at HO' HR1 HD hcv hc1 ⊢
        have hle : ¬ t + N * T < l.length := by have := cnt_lt (n := l.length) (j := N) htT; rw [HN.out] at this; omega
        obtain ⟨z, hz⟩ : ∃ z, t + N * T = z := ⟨_, rfl⟩
        rw [hz] at hle ⊢
        have hle' : decide (z < l.length) = false := decide_eq_false hle
        have hlow : ∀ ad, 0 < N → A1 = some ad → w.heap.size ≤ ad.block ∧ ad.block ≠ w.heap.size + 1 := fun ad h0 e => by
          obtain ⟨g, e2, hg, _⟩ := HO'.out.at_ 0 h0
          rw [e] at e2
          injection e2 with e2
          rw [e2]
          constructor
          · show w.heap.size ≤ g; omega
          · show g ≠ w.heap.size + 1; omega
        have HLOW := Lib.hid hlow
        have hb3 : Below w.heap.size w wr := hb1.trans (HBH.out.mono (by omega))
        clear hz hle hlow
        go_wp2_with fail
        go_ret
        have h5 := HE.out
        simp only [if_true] at h5
        have hpl := pk_length l t T N
        exact ⟨_, rfl, ⟨w.heap.size + 1, false, 0, A1, c1, pk l t T N, rfl, RefS.mk (by rw [hpl]; exact HD.out) HR1.out (by rw [hpl]; intro ad h0 e; exact (HLOW.out ad h0 e).2), by omega, by rw [hpl]; intro ad h0 e; exact (HLOW.out ad h0 e).1, by rw [h5, refS_false]⟩, hb3⟩
      | succ k1 =>
        obtain ⟨j, hj⟩ : ∃ j, N - (k1 + 1) = j := ⟨_, rfl⟩
        have hj2 : N - k1 = j + 1 := by omega
        have HJ := Lib.hid hj2
        have hjN : j < N := by omega
        rw [hj] at HO' HR1 HD hcv hc1 ⊢
        have hlt : t + j * T < l.length := by have := cnt_lt (n := l.length) (j := j) htT; rw [HN.out] at this; omega
        obtain ⟨i, hi⟩ : ∃ i, t + j * T = i := ⟨_, rfl⟩
        have hi2 : t + (j + 1) * T = i + T := by rw [Nat.succ_mul]; omega
        rw [hi] at hlt ⊢
        have hst : pk l t T (j + 1) = pk l t T j ++ [l.getD i 0] := by rw [pk_succ, hi]
        obtain ⟨ad, rfl, hca⟩ := KA1.out.2 i hlt
        have hadl := World.block_lt_of_cell? _ _ hca
        have hca' : wr.cell? (ad.add i) = _ := cell_below HBH.out hca hadl
        obtain ⟨x, hx⟩ : ∃ x, l.getD i 0 = x := ⟨_, rfl⟩
        rw [hx] at hca hca' hst
        have HST := Lib.hid hst
        have HI2 := Lib.hid hi2
        have hplen := pk_length l t T j
        have HPL := Lib.hid hplen
        have hbk : (⟨w.heap.size + 1, 2, none⟩ : Addr).block < w2.heap.size := by show w.heap.size + 1 < w2.heap.size; omega
        have hbk2 : (⟨w.heap.size, 2, none⟩ : Addr).block < w2.heap.size := by show w.heap.size < w2.heap.size; omega
        have hadl2 : (ad.add i).block < w2.heap.size := by omega
        clear hj hj2 hi hi2 hst hplen hx hca
        go_wp2_with fail
        have hbA : Below w2.heap.size wr (wr.alloc (.cells #[.int .u64 x] 22)) := (Below.refl _ _).alloc hzr _
        have ne1 := cell_below hbA hcv hbk
        have ne2 := cell_below hbA hcd hbk2
        have ne3 := cell_below hbA hca' hadl2
        clear hbA
        go_region_law
          (first
            | (refine step_app _ (by rfl) (.tmp 42) (.tmp 48) 23 22 (by rfl) (.int .u64 0) 1 8 Try.underlying23 info_u64 rfl (by omega) (by omega) w2.heap.size (.slice A1 j c1) j (nums .u64 (pk l t T j)) (by rfl) _ 1 1 (by rfl) (by repeat (first | exact HO'.out.row HPL.out | apply own_drew1 | apply own_alloc1)) wr (by repeat (first | exact Below.refl _ _ | assumption | apply below_drew1 | refine Below.alloc ?_ (by first | omega | (simp; omega)) _)) (by simp; omega) [.int .u64 x] (by rfl) (by repeat (first | exact RdC.one' _ _ _ _ (by simp) | apply RdC.drew1 | apply RdC.alloc1)) (by simp [Value.oneCell']) (by omega) ?_; intro v1 w3 hown hgrow hbel hat hnil; obtain ⟨A2, c2, rfl, hc2⟩ := own_shape hown; have hcvz := (Below.frozen (p := ⟨w.heap.size + 1, 2, none⟩) hbel hbk).trans hfv; have hcvw := cell_below hbel hcv hbk; have hcdz := cell_below hbel hcd hbk2; have hcaz := cell_below hbel hca' hadl2))
        all_goals
          have HOB := Lib.hid (obj_below hbel HD.out (by omega))
          have HON := Lib.hid (Own.of_row hown HPL.out)
          have HBL := Lib.hid hbel
          have hz9 := hbel.size
          clear hown hgrow hbel hat hnil
          go_wp2_with fail
          go_roundg k1
          case measure => omega
          case rel =>
            have hbs : Below w1.heap.size w1 w3 := HBH.out.trans (HBL.out.mono (by omega))
            refine ⟨by omega, by rw [HJ.out, HI2.out, Int.natCast_add], below_set hbs (by omega) _ _, by simp [World.setCell]; omega, _, set_blk (cs := [_, _, _, _]) HOB.out 2 _, ?_⟩
            rw [HJ.out, HST.out]
            exact HON.out.only (only_set _ _ _ _) fun b hb e => by have := (HON.out.lt b hb).1; omega
end Go.Proofs.Ytmcbgogeemnjnaa
