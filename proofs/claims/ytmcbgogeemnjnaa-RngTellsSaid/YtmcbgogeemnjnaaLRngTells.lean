/-
  The statement RngTells as a walk: it answers true and leaves all memory that was there as it was. Condition: the arguments are a bool, a number of 64 bits, a list of such, and a list of ints, within the form's reach.
-/
import Derived.Test.YtmcbgogeemnjnaaRng2
import Derived.Test.YtmcbgogeemnjnaaOpen
namespace Go.Proofs.Ytmcbgogeemnjnaa
open Go.RowKit
set_option linter.unusedVariables false
set_option linter.unusedSimpArgs false

set_option maxHeartbeats 3200000 in
set_option maxRecDepth 100000 in
theorem RngTells_law (mixed : Bool) (st : Int) (A : Option Addr) (c : Nat) (l : List Int) (D : Option Addr) (d : Nat) (asks : List Int) (w : World) (hst : (Lit.int .u64 st).wf = true) (ha : Rd w .u64 A l) (hu : ∀ n ∈ l, (Lit.int .u64 n).wf = true) (na : A = none → l = [] ∧ c = 0) (la : l.length * 8 ≤ 140737488351232)
    (hd : Rd w .i64 D asks) (rd : ∀ n ∈ asks, (Lit.int .i64 n).wf = true) (nd : D = none → asks = [] ∧ d = 0) (ld : asks.length * 8 ≤ 140737488351232) :
    Calls Try.prog 6 #[.bool mixed, .int .u64 st, .slice A l.length c, .slice D asks.length d] w fun e w' => e = .returned (.bool true) ∧ Below w.heap.size w w' := by
  have HU := Lib.hid (u64_of_wf hu)
  have KA := Lib.hid ha
  have KD := Lib.hid hd
  have RD : Hid (∀ n ∈ asks, -9223372036854775808 ≤ n ∧ n ≤ 9223372036854775807) := Lib.hid fun n hn => i64_of_wf (rd n hn)
  clear hu ha na hst hd rd nd ld
  by_cases h1 : 200 < l.length
  · have h1' : decide (200 < (l.length : Int)) = true := by simp; omega
    go_enter Try.func6, Try.ntmps6
    go_wp2_with fail
    refine (awake_calls _).mono ?_
    rintro e w1 ⟨rfl, hb1⟩
    go_wp2_with fail
    go_ret
    exact ⟨rfl, hb1⟩
  have h1' : decide (200 < (l.length : Int)) = false := by simp; omega
  replace h1 : l.length ≤ 200 := by omega
  by_cases h2 : 200 < asks.length
  · have h2' : decide (200 < (asks.length : Int)) = true := by simp; omega
    go_enter Try.func6, Try.ntmps6
    go_wp2_with fail
    refine (awake_calls _).mono ?_
    rintro e w1 ⟨rfl, hb1⟩
    go_wp2_with fail
    go_ret
    exact ⟨rfl, hb1⟩
  have h2' : decide (200 < (asks.length : Int)) = false := by simp; omega
  replace h2 : asks.length ≤ 200 := by omega
  go_enter Try.func6, Try.ntmps6
  go_wp2_with fail
  refine (awake_calls _).mono ?_
  rintro e w1 ⟨rfl, hb1⟩
  have hz1 := hb1.size
  go_wp2_with fail
  refine (of_calls mixed st A c l _ (KA.out.below hb1) HU.out (by omega)).mono ?_
  rintro e w2 ⟨v, he, hs, hb2, T, p, rfl⟩
  subst he
  have hb3 : Below w.heap.size w w2 := hb1.trans (hb2.mono hz1)
  have hz2 := hb2.size
  have HS := Lib.hid hs
  clear hs hb2
  go_wp2_with fail
  refine (Count_calls T p w1.heap.size w2.heap.size _ _ HS.out (Nat.le_refl _) hz2).mono ?_
  rintro e w3 ⟨he, hs, hb4⟩
  subst he
  have hb5 : Below w.heap.size w w3 := hb3.trans (hb4.mono hb3.size)
  have hz3 := hb4.size
  have HC := Lib.hid (At.of_ctr hs)
  clear hs hb4 HS
  go_wp2_with fail
  obtain ⟨w4, hw⟩ : ∃ W, w3.alloc (.cells #[.bool mixed, .int .u64 st, .slice A l.length c, .int .i64 0] 45) = W := ⟨_, rfl⟩
  rw [hw]
  have hb6 : Below w.heap.size w w4 := by rw [← hw]; exact hb5.alloc hb5.size _
  have hz4 : w3.heap.size + 1 ≤ w4.heap.size := by rw [← hw]; simp
  have HR : Hid (RefS w4 w3.heap.size mixed st A c l 0) := Lib.hid (RefS.mk (by rw [← hw]; exact heap_alloc_new _ _) (KA.out.below hb6) (fun ad hp e => by have := KA.out.blk_lt ad hp e; have := hb5.size; omega))
  replace HC : Hid (At w4 w1.heap.size w3.heap.size (.iface 25 (.pointer (some ⟨w2.heap.size, 0, none⟩))) (ofS mixed st l) 0) := Lib.hid (HC.out.below (B := w3.heap.size) (by rw [← hw]; exact (Below.refl _ _).alloc (Nat.le_refl _) _) (Nat.le_refl _))
  clear hw
  obtain ⟨n, hn⟩ : ∃ n, asks.length = n := ⟨_, rfl⟩
  have HN := Lib.hid hn
  have hAlt : ∀ ad, 0 < l.length → A = some ad → ad.block < w.heap.size := fun ad hp e => KA.out.blk_lt ad hp e
  have HAL := Lib.hid hAlt
  clear hn hAlt HN
  go_loopg [11] asks.length (fun kq v11 w' => kq ≤ asks.length ∧ v11 = .int .i64 ((asks.length - kq : Nat)) ∧ Below w.heap.size w w' ∧ ∃ k, k ≤ 2 * (asks.length - kq) ∧ At w' w1.heap.size w3.heap.size (.iface 25 (.pointer (some ⟨w2.heap.size, 0, none⟩))) (ofS mixed st l) k ∧ RefS w' w3.heap.size mixed st A c l k)
  case atStart => exact ⟨Nat.le_refl _, by simp, hb6, 0, by omega, HC.out, HR.out⟩
  case round =>
    obtain ⟨hk, rfl, HB, k, hk2, HAT, HRF⟩ := hrel
    have HAT' := Lib.hid HAT
    have HRF' := Lib.hid HRF
    have hz5 := HB.size
    clear HAT HRF HC HR
    cases gk with
    | zero =>
      simp only [Nat.sub_zero]
      go_wp2_with fail
      go_ret
      exact ⟨rfl, HB⟩
    | succ k1 =>
      obtain ⟨i, hi⟩ : ∃ i, asks.length - (k1 + 1) = i := ⟨_, rfl⟩
      have hi2 : asks.length - k1 = i + 1 := by omega
      have hin : i < asks.length := by omega
      rw [hi] at hk2 ⊢
      obtain ⟨ad, rfl, hca⟩ := (KD.out.below HB).2 i hin
      have hx := RD.out (asks.getD i 0) (by simp [List.getD, hin])
      obtain ⟨x, hxe⟩ : ∃ x, asks.getD i 0 = x := ⟨_, rfl⟩
      rw [hxe] at hca hx
      obtain ⟨hx1, hx2⟩ := hx
      have HI := Lib.hid hi2
      clear hi2 hxe
      have hz6 : w3.heap.size < wr.heap.size := obj_lt HRF'.out.1
      have hadl : ad.block < w.heap.size := by
        have h := (KD.out.blk_lt ad (by omega) rfl)
        exact h
      have habl : (ad.add i).block = ad.block := by unfold Addr.add; split <;> rfl
      have hadl2 : (ad.add i).block < w1.heap.size := by omega
      have HADL := Lib.hid habl
      clear habl
      have g24 : ∀ (K2 : Nat) (W : World), RefS W w3.heap.size mixed st A c l K2 → W.cell? ⟨w3.heap.size, 3, none⟩ = some (.int .i64 ((K2 : Nat) : Int)) := fun K2 W h => by simp [World.cell?, h.1]
      have G24 := Lib.hid g24
      clear g24
      by_cases r0 : (i : Int).tmod 3 = 0
      · obtain ⟨q, hq⟩ : ∃ q, bX (ofS mixed st l) k x = q := ⟨_, rfl⟩
        have HQ := Lib.hid hq
        have HQ' : Hid (bX (refS mixed st l) k x = q) := Lib.hid hq
        have t1 : (q != q) = false := by simp
        obtain ⟨k2, hk3⟩ : ∃ k2, k + bK x = k2 := ⟨_, rfl⟩
        have hk4 : k2 ≤ k + 2 := by have := bK_le x; omega
        have t2 : ((k2 : Int) != (k2 : Int)) = false := by simp
        have HK := Lib.hid hk3
        clear hq hk3
        go_wp2_with fail
        go_region_held3 (fun w' => w'.cell? (ad.add i) = some (.int .i64 x) ∧ Below w1.heap.size wr w')
          (first | exact ⟨cell_below (B := w1.heap.size) (w := wr) (by repeat (first | assumption | exact Below.refl _ _ | apply below_drew1 | apply below_alloc1)) hca hadl2, (by repeat (first | assumption | exact Below.refl _ _ | apply below_drew1 | apply below_alloc1))⟩ | go_keep)
          (first
            | (go_at_call 19; go_split_ands; (with_reducible refine (At.below_calls w1.heap.size w3.heap.size (.iface 25 (.pointer (some ⟨w2.heap.size, 0, none⟩))) _ k x _ (HAT'.out.below (B := wr.heap.size) (by repeat (first | assumption | exact Below.refl _ _ | apply below_drew1 | apply below_alloc1)) (by omega)) (by omega) (by omega)).mono ?_); rintro e w6 ⟨he, hat, ho⟩; rw [HQ.out] at he; subst he; rw [HK.out] at hat; have HA6 := Lib.hid hat; have hr6 := HRF'.out.only ((Only.of_below (by repeat (first | assumption | exact Below.refl _ _ | apply below_drew1 | apply below_alloc1))).trans ho) (by intro h; have := h.2; omega) (by intro ad' hp he h; have := HAL.out ad' hp he; have := h.1; omega); have HR6 := Lib.hid hr6; have hB6 : Below w1.heap.size wr w6 := ((by repeat (first | assumption | exact Below.refl _ _ | apply below_drew1 | apply below_alloc1)) : Below w1.heap.size wr _).trans (ho.belowW (C := wr.heap.size) (W := wr) (by repeat (first | assumption | exact Below.refl _ _ | apply below_drew1 | apply below_alloc1)) (by omega) (by intro k hk h; have := h.1; omega)); have hz7 := hB6.size; clear hat ho hr6)
            | (go_at_call 21; go_split_ands; (with_reducible refine (refBelow_calls w3.heap.size mixed st A c l k x _ (HR6.out.below (B := w6.heap.size) (by repeat (first | assumption | exact Below.refl _ _ | apply below_drew1 | apply below_alloc1)) (by omega) (by intro ad' hp he; have := HAL.out ad' hp he; omega)) HU.out (by omega) (by omega)).mono ?_); rintro e w7 ⟨he, hat, ho⟩; rw [HQ'.out] at he; subst he; rw [HK.out] at hat; have HR7 := Lib.hid hat; have hB7 : Below w3.heap.size w6 w7 := ((by repeat (first | assumption | exact Below.refl _ _ | apply below_drew1 | apply below_alloc1)) : Below w3.heap.size w6 _).trans (ho.belowW (C := w6.heap.size) (W := w6) (by repeat (first | assumption | exact Below.refl _ _ | apply below_drew1 | apply below_alloc1)) (by omega) (by intro k hk h; omega)); have HA7 := Lib.hid (HA6.out.below hB7 (Nat.le_refl _)); have hB8 : Below w1.heap.size wr w7 := hB6.trans (hB7.mono (by omega)); clear hat ho))
        have hm := G24.out k2 w7 HR7.out
        go_wp2_with fail
        go_quiet ((go_at_call 16; exact Calls.quiet_of (HA7.out.drewN _).drawn_q))
        go_wp2_with fail
        go_roundg k1
        case measure => omega
        case rel =>
          have hI := HI.out
          rw [hI]
          exact ⟨by omega, rfl, below_drewN (HB.trans (hB8.mono hz1)) _, k2, by omega, HA7.out.drewN _, HR7.out.drewN _⟩
      by_cases r1 : (i : Int).tmod 3 = 1
      · obtain ⟨q, hq⟩ : ∃ q, pX (ofS mixed st l) k x = q := ⟨_, rfl⟩
        obtain ⟨y, hy⟩ : ∃ q, pY (ofS mixed st l) k x = q := ⟨_, rfl⟩
        have HQ := Lib.hid hq
        have HQ' : Hid (pX (refS mixed st l) k x = q) := Lib.hid hq
        have HY := Lib.hid hy
        have HY' : Hid (pY (refS mixed st l) k x = y) := Lib.hid hy
        have t1 : (q != q) = false := by simp
        have t3 : (y != y) = false := by simp
        obtain ⟨k2, hk3⟩ : ∃ k2, k + pK x = k2 := ⟨_, rfl⟩
        have hk4 : k2 ≤ k + 2 := by have := pK_le x; omega
        have t2 : ((k2 : Int) != (k2 : Int)) = false := by simp
        have HK := Lib.hid hk3
        clear hq hk3 hy
        go_wp2_with fail
        refine (At.pair_calls w1.heap.size w3.heap.size (.iface 25 (.pointer (some ⟨w2.heap.size, 0, none⟩))) _ k x _ HAT'.out (by omega) (by omega)).mono ?_
        rintro e w6 ⟨he, hat, ho⟩
        rw [HQ.out, HY.out] at he
        subst he
        rw [HK.out] at hat
        have HA6 := Lib.hid hat
        have hr6 := HRF'.out.only ho (by intro h; have := h.2; omega) (by intro ad' hp he h; have := HAL.out ad' hp he; have := h.1; omega)
        have HR6 := Lib.hid hr6
        have hB6 : Below w1.heap.size wr w6 := ho.below (by omega) (by intro k hk h; have := h.1; omega)
        have hz7 := hB6.size
        have hca6 := cell_below hB6 hca hadl2
        clear hat ho hr6
        go_wp2_with fail
        refine (refPair_calls w3.heap.size mixed st A c l k x _ HR6.out HU.out (by omega) (by omega)).mono ?_
        rintro e w7 ⟨he, hat, ho⟩
        rw [HQ'.out, HY'.out] at he
        subst he
        rw [HK.out] at hat
        have HR7 := Lib.hid hat
        have hB7 : Below w3.heap.size w6 w7 := ho.below (by omega) (by intro k hk h; omega)
        have HA7 := Lib.hid (HA6.out.below hB7 (Nat.le_refl _))
        have hB8 : Below w1.heap.size wr w7 := hB6.trans (hB7.mono (by omega))
        clear hat ho
        have hm := G24.out k2 w7 HR7.out
        go_wp2_with fail
        go_quiet ((go_at_call 16; exact Calls.quiet_of (HA7.out.drewN _).drawn_q))
        go_wp2_with fail
        go_roundg k1
        case measure => omega
        case rel =>
          have hI := HI.out
          rw [hI]
          exact ⟨by omega, rfl, below_drewN (HB.trans (hB8.mono hz1)) _, k2, by omega, HA7.out.drewN _, HR7.out.drewN _⟩
      have r2 : (i : Int).tmod 3 = 2 := by
        rw [Int.tmod_eq_emod_of_nonneg (by omega)] at r0 r1 ⊢
        omega
      obtain ⟨q, hq⟩ : ∃ q, ofS mixed st l k = q := ⟨_, rfl⟩
      have HQ := Lib.hid hq
      have HQ' : Hid (refS mixed st l k = q) := Lib.hid hq
      have t1 : (q != q) = false := by simp
      obtain ⟨k2, hk3⟩ : ∃ k2, k + 1 = k2 := ⟨_, rfl⟩
      have hk4 : k2 ≤ k + 2 := by omega
      have t2 : ((k2 : Int) != (k2 : Int)) = false := by simp
      have HK := Lib.hid hk3
      clear hq hk3
      go_wp2_with fail
      refine (At.counter_calls HAT'.out (by omega)).mono ?_
      rintro e w6 ⟨he, hat, ho⟩
      rw [HQ.out] at he
      subst he
      rw [HK.out] at hat
      have HA6 := Lib.hid hat
      have hr6 := HRF'.out.only ho (by intro h; have := h.2; omega) (by intro ad' hp he h; have := HAL.out ad' hp he; have := h.1; omega)
      have HR6 := Lib.hid hr6
      have hB6 : Below w1.heap.size wr w6 := ho.below (by omega) (by intro k hk h; have := h.1; omega)
      have hz7 := hB6.size
      have hca6 := cell_below hB6 hca hadl2
      clear hat ho hr6
      go_wp2_with fail
      refine (refDraw_calls w3.heap.size mixed st A c l k _ HR6.out (by omega)).mono ?_
      rintro e w7 ⟨he, hat, ho⟩
      rw [HQ'.out] at he
      subst he
      rw [HK.out] at hat
      have HR7 := Lib.hid hat
      have hB7 : Below w3.heap.size w6 w7 := ho.below (by omega) (by intro k hk h; omega)
      have HA7 := Lib.hid (HA6.out.below hB7 (Nat.le_refl _))
      have hB8 : Below w1.heap.size wr w7 := hB6.trans (hB7.mono (by omega))
      clear hat ho
      have hm := G24.out k2 w7 HR7.out
      go_wp2_with fail
      go_quiet ((go_at_call 16; exact Calls.quiet_of (HA7.out.drewN _).drawn_q))
      go_wp2_with fail
      go_roundg k1
      case measure => omega
      case rel =>
        have hI := HI.out
        rw [hI]
        exact ⟨by omega, rfl, below_drewN (HB.trans (hB8.mono hz1)) _, k2, by omega, HA7.out.drewN _, HR7.out.drewN _⟩
end Go.Proofs.Ytmcbgogeemnjnaa
