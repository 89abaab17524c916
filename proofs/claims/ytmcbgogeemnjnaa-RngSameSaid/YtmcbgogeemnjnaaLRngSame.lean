/-
  The statement RngSame as a walk: it answers true and leaves all memory that was there as it was. Condition: the arguments are a bool, a number of 64 bits, a list of such, a byte, and a list of ints, within the form's reach.
-/
import Derived.Test.YtmcbgogeemnjnaaRng2
import Derived.Test.YtmcbgogeemnjnaaOpen
namespace Go.Proofs.Ytmcbgogeemnjnaa
open Go.RowKit
set_option linter.unusedVariables false
set_option linter.unusedSimpArgs false

set_option maxHeartbeats 3200000 in
set_option maxRecDepth 100000 in
theorem RngSame_law (mixed : Bool) (st : Int) (A : Option Addr) (c : Nat) (l : List Int) (m : Int) (D : Option Addr) (d : Nat) (asks : List Int) (w : World) (hst : (Lit.int .u64 st).wf = true) (ha : Rd w .u64 A l) (hu : ∀ n ∈ l, (Lit.int .u64 n).wf = true) (na : A = none → l = [] ∧ c = 0) (la : l.length * 8 ≤ 140737488351232) (hm : (Lit.int .u8 m).wf = true)
    (hd : Rd w .i64 D asks) (rd : ∀ n ∈ asks, (Lit.int .i64 n).wf = true) (nd : D = none → asks = [] ∧ d = 0) (ld : asks.length * 8 ≤ 140737488351232) :
    Calls Try.prog 5 #[.bool mixed, .int .u64 st, .slice A l.length c, .int .u8 m, .slice D asks.length d] w fun e w' => e = .returned (.bool true) ∧ Below w.heap.size w w' := by
  have HU := Lib.hid (u64_of_wf hu)
  have KA := Lib.hid ha
  have KD := Lib.hid hd
  have RD : Hid (∀ n ∈ asks, -9223372036854775808 ≤ n ∧ n ≤ 9223372036854775807) := Lib.hid fun n hn => i64_of_wf (rd n hn)
  obtain ⟨m, rfl⟩ : ∃ k : Nat, m = k := ⟨m.toNat, by simp [Lit.wf, IntKind.min, IntKind.max, IntKind.signed, IntKind.bits] at hm; omega⟩
  have hm2 : m ≤ 255 := by simp [Lit.wf, IntKind.min, IntKind.max, IntKind.signed, IntKind.bits] at hm; omega
  clear hu ha na hst hd rd nd ld hm
  by_cases h0 : 200 < l.length
  · have h0' : decide (200 < (l.length : Int)) = true := by simp; omega
    go_enter Try.func5, Try.ntmps5
    go_wp2_with fail
    refine (awake_calls _).mono ?_
    rintro e w1 ⟨rfl, hb1⟩
    go_wp2_with fail
    go_ret
    exact ⟨rfl, hb1⟩
  have h0' : decide (200 < (l.length : Int)) = false := by simp; omega
  replace h0 : l.length ≤ 200 := by omega
  by_cases h1 : 100 < asks.length
  · have h1' : decide (100 < (asks.length : Int)) = true := by simp; omega
    go_enter Try.func5, Try.ntmps5
    go_wp2_with fail
    refine (awake_calls _).mono ?_
    rintro e w1 ⟨rfl, hb1⟩
    go_wp2_with fail
    go_ret
    exact ⟨rfl, hb1⟩
  have h1' : decide (100 < (asks.length : Int)) = false := by simp; omega
  replace h1 : asks.length ≤ 100 := by omega
  have hn := iface_nil
  go_enter Try.func5, Try.ntmps5
  go_wp2_with fail
  refine (awake_calls _).mono ?_
  rintro e w1 ⟨rfl, hb1⟩
  have hz1 := hb1.size
  go_wp2_with fail
  refine (of_calls mixed st A c l _ (KA.out.below hb1) HU.out (by omega)).mono ?_
  rintro e w2 ⟨v, he, hs, hb2, T, p, rfl⟩
  subst he
  have hb3 : Below w.heap.size w w2 := hb1.trans (hb2.mono hz1)
  have hz2 := hb2.size
  have HS := Lib.hid (At.of_src hs)
  clear hs hb2
  go_wp2_with fail
  refine (of_calls mixed st A c l _ (KA.out.below hb3) HU.out (by omega)).mono ?_
  rintro e w3 ⟨v, he, hs, hb4, T', p', rfl⟩
  subst he
  have hb5 : Below w.heap.size w w3 := hb3.trans (hb4.mono hb3.size)
  have hz3 := hb4.size
  have HT := Lib.hid hs
  replace HS := Lib.hid (HS.out.below hb4 (Nat.le_refl _))
  clear hs hb4
  go_wp2_with fail
  refine (Count_calls T' p' w2.heap.size w3.heap.size _ _ HT.out (Nat.le_refl _) hz3).mono ?_
  rintro e w4 ⟨he, hs, hb6⟩
  subst he
  have hb7 : Below w.heap.size w w4 := hb5.trans (hb6.mono hb5.size)
  have hz4 := hb6.size
  have HC := Lib.hid (At.of_ctr hs)
  replace HS := Lib.hid (HS.out.below hb6 (by omega))
  clear hs hb6 HT
  go_wp2_with fail
  refine (of_calls mixed st A c l _ (KA.out.below hb7) HU.out (by omega)).mono ?_
  rintro e w5 ⟨v, he, hs, hb8, T2, p2, rfl⟩
  subst he
  have hb9 : Below w.heap.size w w5 := hb7.trans (hb8.mono hb7.size)
  have hz5 := hb8.size
  have HO := Lib.hid (At.of_src hs)
  replace HS := Lib.hid (HS.out.below hb8 (by omega))
  replace HC := Lib.hid (HC.out.below hb8 (by omega))
  obtain ⟨T2, a2, e1, hT2⟩ := HO.out.shape
  injection e1 with e1 e2
  subst e1 e2
  obtain ⟨T, a1, e1, hT⟩ := HS.out.shape
  injection e1 with e1 e2
  subst e1 e2
  have mt := hT.meth a1
  have ct := hT.call (.pointer (some a1))
  have mt2 := hT2.meth a2
  have ct2 := hT2.call (.pointer (some a2))
  clear hs hb8
  go_wp2_with fail
  go_loopg [14] m (fun kq v14 w' => kq ≤ m ∧ v14 = .int .i64 ((m - kq : Nat)) ∧ Below w.heap.size w w' ∧ At w' w1.heap.size w2.heap.size (.iface T (.pointer (some a1))) (ofS mixed st l) 0 ∧ At w' w2.heap.size w4.heap.size (.iface 25 (.pointer (some ⟨w3.heap.size, 0, none⟩))) (ofS mixed st l) 0 ∧ w5.heap.size ≤ w'.heap.size ∧ At w' w4.heap.size w5.heap.size (.iface T2 (.pointer (some a2))) (ofS mixed st l) (m - kq))
  case atStart => exact ⟨Nat.le_refl _, by simp, hb9, HS.out, HC.out, Nat.le_refl _, by rw [Nat.sub_self]; exact HO.out⟩
  case round =>
    obtain ⟨hk, rfl, HB, HS1, HC1, hzr, HO1⟩ := hrel
    replace HS := Lib.hid HS1
    replace HC := Lib.hid HC1
    replace HO := Lib.hid HO1
    clear HS1 HC1 HO1
    cases gk with
    | succ k1 =>
      obtain ⟨i, hi⟩ : ∃ i, m - (k1 + 1) = i := ⟨_, rfl⟩
      have hi2 : m - k1 = i + 1 := by omega
      have hin : i < m := by omega
      rw [hi] at HO ⊢
      have HI := Lib.hid hi2
      clear hi2
      go_wp2_with fail
      refine (HO.out.draw_calls (by omega)).mono ?_
      rintro e w6 ⟨he, hat, ho⟩
      subst he
      have hb : Below w4.heap.size wr w6 := ho.below (by omega) (fun k hk h => by have := h.1; omega)
      have hz7 := hb.size
      have HO2 := Lib.hid hat
      have HS2 := Lib.hid (HS.out.below hb (by omega))
      have HC2 := Lib.hid (HC.out.below hb (by omega))
      clear ho hat
      go_wp2_with fail
      go_roundg k1
      case measure => omega
      case rel =>
        have hI := HI.out
        rw [hI]
        exact ⟨by omega, rfl, HB.trans (hb.mono (by omega)), HS2.out, HC2.out, by omega, HO2.out⟩
    | zero =>
      simp only [Nat.sub_zero]
      clear HO
      go_wp2_with fail
      go_loopg [15, 16, 17, 18, 19] asks.length (fun kq v15 v16 v17 v18 v19 w' => kq ≤ asks.length ∧ v15 = .int .i64 ((asks.length - kq : Nat)) ∧ Below w.heap.size w w' ∧ ∃ k, k ≤ 3 * (asks.length - kq) ∧ At w' w1.heap.size w2.heap.size (.iface T (.pointer (some a1))) (ofS mixed st l) k ∧ At w' w2.heap.size w4.heap.size (.iface 25 (.pointer (some ⟨w3.heap.size, 0, none⟩))) (ofS mixed st l) k ∧ w5.heap.size ≤ w'.heap.size)
      case atStart => exact ⟨Nat.le_refl _, by simp, HB, 0, by omega, HS.out, HC.out, hzr⟩
      case round =>
        clear HS HC
        obtain ⟨hk, rfl, HB2, k, hkk, HS1, HC1, hzr2⟩ := hrel
        have HS := Lib.hid HS1
        have HC := Lib.hid HC1
        clear HS1 HC1
        cases gk with
        | zero =>
          simp only [Nat.sub_zero] at hkk ⊢
          obtain ⟨q, hq⟩ : ∃ q, ofS mixed st l k = q := ⟨_, rfl⟩
          have HQ := Lib.hid hq
          have t1 : (q == q) = true := by simp
          clear hq
          go_wp2_with fail
          refine (HS.out.draw_calls (by omega)).mono ?_
          rintro e w6 ⟨he, hat, ho⟩
          rw [HQ.out] at he
          subst he
          have hb : Below w.heap.size wr w6 := ho.below (by omega) (fun k hk h => by have := h.1; omega)
          have HC2 := Lib.hid (HC.out.only ho fun k hk1 hk3 h => by have := h.2; omega)
          clear ho hat
          go_wp2_with fail
          refine (HC2.out.counter_calls (by omega)).mono ?_
          rintro e w7 ⟨he, hat, ho⟩
          rw [HQ.out] at he
          subst he
          have hb' : Below w.heap.size w6 w7 := ho.below (by have := hb.size; omega) (fun k hk h => by have := h.1; omega)
          clear ho hat
          go_wp2_with fail
          go_ret
          exact ⟨rfl, (HB2.trans hb).trans hb'⟩
        | succ k1 =>
          obtain ⟨i, hi⟩ : ∃ i, asks.length - (k1 + 1) = i := ⟨_, rfl⟩
          have hi2 : asks.length - k1 = i + 1 := by omega
          have hin : i < asks.length := by omega
          rw [hi] at hkk ⊢
          obtain ⟨ad, rfl, hca⟩ := (KD.out.below HB2).2 i hin
          have hx := RD.out (asks.getD i 0) (by simp [List.getD, hin])
          obtain ⟨x, hxe⟩ : ∃ x, asks.getD i 0 = x := ⟨_, rfl⟩
          rw [hxe] at hca hx
          obtain ⟨hx1, hx2⟩ := hx
          have hadl : ad.block < w.heap.size := KD.out.blk_lt ad (by omega) rfl
          have habl : (ad.add i).block = ad.block := by unfold Addr.add; split <;> rfl
          have hadl2 : (ad.add i).block < w1.heap.size := by omega
          have HI := Lib.hid hi2
          obtain ⟨q, hq⟩ : ∃ q, pX (ofS mixed st l) k x = q := ⟨_, rfl⟩
          obtain ⟨y, hy⟩ : ∃ q, pY (ofS mixed st l) k x = q := ⟨_, rfl⟩
          obtain ⟨k2, hk3⟩ : ∃ k2, k + pK x = k2 := ⟨_, rfl⟩
          have hk4 : k2 ≤ k + 2 := by have := pK_le x; omega
          obtain ⟨z, hz⟩ : ∃ q, bX (ofS mixed st l) k2 x = q := ⟨_, rfl⟩
          obtain ⟨k3, hk5⟩ : ∃ k3, k2 + bK x = k3 := ⟨_, rfl⟩
          have hk6 : k3 ≤ k2 + 1 := by have := bK_le x; omega
          have HQ := Lib.hid hq
          have HY := Lib.hid hy
          have HZ := Lib.hid hz
          have HK := Lib.hid hk3
          have HK2 := Lib.hid hk5
          have t1 : (q != q) = false := by simp
          have t2 : (y != y) = false := by simp
          have t3 : (z != z) = false := by simp
          clear hi2 hxe habl hq hy hz hk3 hk5
          go_wp2_with fail
          refine (At.pair_calls w1.heap.size w2.heap.size (.iface T (.pointer (some a1))) _ k x _ HS.out (by omega) (by omega)).mono ?_
          rintro e w6 ⟨he, hat, ho⟩
          rw [HQ.out, HY.out] at he
          subst he
          rw [HK.out] at hat
          have HS6 := Lib.hid hat
          have HC6 := Lib.hid (HC.out.only ho fun k hk1 hk3 h => by have := h.2; omega)
          have hB6 : Below w1.heap.size wr w6 := ho.below (by omega) (by intro k hk h; have := h.1; omega)
          have hz6 := hB6.size
          have hca6 := cell_below hB6 hca hadl2
          clear hat ho
          go_wp2_with fail
          refine (At.pair_calls w2.heap.size w4.heap.size (.iface 25 (.pointer (some ⟨w3.heap.size, 0, none⟩))) _ k x _ HC6.out (by omega) (by omega)).mono ?_
          rintro e w7 ⟨he, hat, ho⟩
          rw [HQ.out, HY.out] at he
          subst he
          rw [HK.out] at hat
          have HC7 := Lib.hid hat
          have hb7 : Below w2.heap.size w6 w7 := ho.below (by omega) (by intro k hk h; have := h.1; omega)
          have HS7 := Lib.hid (HS6.out.below hb7 (Nat.le_refl _))
          have hB7 : Below w1.heap.size wr w7 := hB6.trans (hb7.mono (by omega))
          have hz7 := hB7.size
          have hca7 := cell_below hB7 hca hadl2
          clear hat ho hb7
          go_wp2_with fail
          go_region_held3 (fun w' => w'.cell? (ad.add i) = some (.int .i64 x) ∧ Below w1.heap.size w7 w')
            (first | exact ⟨cell_below (B := w1.heap.size) (w := w7) (by repeat (first | assumption | exact Below.refl _ _ | apply below_drew1 | apply below_alloc1)) hca7 hadl2, (by repeat (first | assumption | exact Below.refl _ _ | apply below_drew1 | apply below_alloc1))⟩ | go_keep)
            (first
              | (go_at_call_of 19 (Value.iface T (.pointer (some a1))); go_split_ands; (with_reducible refine (At.below_calls w1.heap.size w2.heap.size (.iface T (.pointer (some a1))) _ k2 x _ (HS7.out.below (B := w7.heap.size) (by repeat (first | assumption | exact Below.refl _ _ | apply below_drew1 | apply below_alloc1)) (by omega)) (by omega) (by omega)).mono ?_); rintro e w8 ⟨he, hat, ho⟩; rw [HZ.out] at he; subst he; rw [HK2.out] at hat; have HS8 := Lib.hid hat; have HC8 := Lib.hid (HC7.out.only ((Only.of_below (by repeat (first | assumption | exact Below.refl _ _ | apply below_drew1 | apply below_alloc1))).trans ho) fun k hk1 hk3 h => by have := h.2; omega); have hB8 : Below w1.heap.size w7 w8 := ((by repeat (first | assumption | exact Below.refl _ _ | apply below_drew1 | apply below_alloc1)) : Below w1.heap.size w7 _).trans (ho.belowW (C := w7.heap.size) (W := w7) (by repeat (first | assumption | exact Below.refl _ _ | apply below_drew1 | apply below_alloc1)) (by omega) (by intro k hk h; have := h.1; omega)); have hz8 := hB8.size; clear hat ho)
              | (go_at_call 19; go_split_ands; (with_reducible refine (At.below_calls w2.heap.size w4.heap.size (.iface 25 (.pointer (some ⟨w3.heap.size, 0, none⟩))) _ k2 x _ (HC8.out.below (B := w8.heap.size) (by repeat (first | assumption | exact Below.refl _ _ | apply below_drew1 | apply below_alloc1)) (by omega)) (by omega) (by omega)).mono ?_); rintro e w9 ⟨he, hat, ho⟩; rw [HZ.out] at he; subst he; rw [HK2.out] at hat; have HC9 := Lib.hid hat; have hb9 : Below w2.heap.size w8 w9 := ((by repeat (first | assumption | exact Below.refl _ _ | apply below_drew1 | apply below_alloc1)) : Below w2.heap.size w8 _).trans (ho.belowW (C := w8.heap.size) (W := w8) (by repeat (first | assumption | exact Below.refl _ _ | apply below_drew1 | apply below_alloc1)) (by omega) (by intro k hk h; have := h.1; omega)); have HS9 := Lib.hid (HS8.out.below hb9 (Nat.le_refl _)); have hB9 : Below w1.heap.size w7 w9 := hB8.trans (hb9.mono (by omega)); have hz9 := hB9.size; clear hat ho hb9))
          go_wp2_with fail
          go_roundg k1
          case measure => omega
          case rel =>
            have hI := HI.out
            rw [hI]
            exact ⟨by omega, rfl, HB2.trans ((hB7.trans hB9).mono hz1), k3, by omega, HS9.out, HC9.out, by omega⟩
end Go.Proofs.Ytmcbgogeemnjnaa
