/-
  The statement HeapPeeks: the walk. Conditions: the numbers lie in their kinds' ranges.
-/
import Derived.Test.YtacgkoclammggaaLaw07
import Derived.Test.YtacgkoclammggaaOpen
namespace Go.Proofs.Ytacgkoclammggaa
open Go.RowKit
set_option linter.unusedVariables false
set_option linter.unusedSimpArgs false

theorem u8_of_wf {n : Int} (h : (Lit.int .u8 n).wf = true) : 0 ≤ n ∧ n ≤ 255 := by
  simp [Lit.wf, IntKind.min, IntKind.max, IntKind.signed, IntKind.bits] at h
  omega
theorem min_cons {x y z : Int} {l : List Int} (hy : IsMin y l) (hz : IsMin z (x :: l)) : z = if y < x then y else x := by
  refine hz.uniq ⟨?_, fun a ha => ?_⟩
  · split
    · exact List.mem_cons_of_mem _ hy.1
    · exact List.mem_cons_self
  · rcases List.mem_cons.1 ha with rfl | ha
    · split <;> omega
    · have := hy.2 a ha
      split <;> omega
set_option maxHeartbeats 3200000 in
set_option maxRecDepth 100000 in
theorem HeapPeeks_law (A : Option Addr) (c : Nat) (l : List Int) (x n : Int) (w : World) (ha : Rd w .i64 A l) (hu : ∀ n ∈ l, (Lit.int .i64 n).wf = true) (na : A = none → l = [] ∧ c = 0) (la : l.length * 8 ≤ 140737488351232) (hx : (Lit.int .i64 x).wf = true) (hn : (Lit.int .u8 n).wf = true) :
    Calls Try.prog 5 #[.slice A l.length c, .int .i64 x, .int .u8 n] w fun e w' => e = .returned (.bool true) ∧ Below w.heap.size w w' := by
  have KA := Lib.hid ha
  have hn0 : 0 ≤ n ∧ n ≤ 255 := u8_of_wf hn
  clear ha hu na hx hn
  by_cases h0 : 100 < l.length
  · have h0' : decide (100 < l.length) = true := decide_eq_true h0
    go_enter Try.func5, Try.ntmps5
    go_wp2_with fail
    refine (awake7_calls _).mono ?_
    rintro e w1 ⟨he, hb⟩
    subst he
    go_wp2_with fail
    go_ret
    exact ⟨rfl, hb⟩
  have h0' : decide (100 < l.length) = false := decide_eq_false h0
  replace h0 : l.length ≤ 100 := by omega
  obtain ⟨m, hm⟩ : ∃ m : Nat, n.tmod 5 = (m : Int) := ⟨(n.tmod 5).toNat, by rw [Int.tmod_eq_emod_of_nonneg hn0.1]; omega⟩
  have hm4 : m ≤ 4 := by rw [Int.tmod_eq_emod_of_nonneg hn0.1] at hm; omega
  have hwm : IntKind.i64.wrap (m : Int) = (m : Int) := by rw [i64_w]; exact wrap64_id _ (by omega)
  have hwm2 : IntKind.u8.wrap (m : Int) = (m : Int) := by rw [IntKind.wrap_u8]; omega
  have HWM := Lib.hid hwm
  have HWM2 := Lib.hid hwm2
  clear hn0 hwm hwm2
  go_enter Try.func5, Try.ntmps5
  go_wp2_with fail
  refine (awake7_calls _).mono ?_
  rintro e w1 ⟨he, hb1⟩
  subst he
  go_wp2_with fail
  refine (New_calls A c l _ (KA.out.below hb1) (by omega)).mono ?_
  rintro e w2 ⟨b, v, L, he, hlo, hH, hok, hpm, hbn⟩
  subst he
  have hb2 : Below w.heap.size w w2 := hb1.trans (hbn.mono hb1.size)
  have hwb : w.heap.size ≤ b := Nat.le_trans hb1.size hlo
  have hz2 := hb2.size
  have HH := Lib.hid hH
  have HOK := Lib.hid hok
  have HPM := Lib.hid hpm
  clear hH hok hpm hbn hlo h0'
  cases L with
  | nil =>
    go_wp2_with fail
    refine (Peek_none b b v _ HH.out).mono ?_
    rintro e _ ⟨he, q1, rfl⟩
    subst he
    obtain rfl : l = [] := HPM.out.symm.eq_nil
    have hwm := HWM.out
    have hwm2 := HWM2.out
    go_wp2_with fail
    go_loopg [10] m (fun kq v10 w' => kq ≤ m ∧ v10 = .int .i64 ((m - kq : Nat) : Int) ∧ ∃ q, w' = w2.drewN q)
    case atStart => exact ⟨Nat.le_refl _, by simp, q1, rfl⟩
    case round =>
      obtain ⟨hk, rfl, q, rfl⟩ := hrel
      cases gk with
      | zero =>
        simp only [Nat.sub_zero]
        go_wp2_with fail
        refine (HLen_calls b b v [] _ (HH.out.drewN q)).mono ?_
        rintro e _ ⟨he, q3, rfl⟩
        subst he
        go_wp2_with fail
        refine (Push_calls b b v [] x _ (HH.out.drewN _) HOK.out (by simp)).mono ?_
        rintro e w3 ⟨he, v3, L3, ⟨hH3, hok3, hon3, _⟩, hpm3⟩
        subst he
        have hb3 : Below w.heap.size w w3 := (below_drewN hb2 (q + q3)).trans (hon3.below (by simpa using hz2) fun k hk h => h.elim (fun h => by omega) fun h => by have := (HH.out.2.1.lt k h).1; omega)
        have hz3 := hb3.size
        cases L3 with
        | nil => exact absurd hpm3.length_eq (by simp)
        | cons z L3 =>
          have hmz := HeapOk.min hok3 (hpm3.trans ((HPM.out).cons x))
          have hl3 : L3.length = 0 := by have h := (hpm3.trans ((HPM.out).cons x)).length_eq; simpa using h
          have H3 := Lib.hid hH3
          have O3 := Lib.hid hok3
          have HL3 := Lib.hid hl3
          have HMZ := Lib.hid hmz
          clear hH3 hok3 hon3 hpm3 hl3 hmz
          go_wp2_with fail
          refine (Pop_some b b v3 z L3 _ H3.out O3.out (by have := HL3.out; omega)).mono ?_
          rintro e w4 ⟨he, v4, L4, ⟨hH4, _, hon4, _⟩, hpm4⟩
          subst he
          have hb4 : Below w.heap.size w w4 := hb3.trans (hon4.below hz3 fun k hk h => h.elim (fun h => by omega) fun h => by have := (H3.out.2.1.lt k h).1; omega)
          have hl4 : ((L4.length : Nat) : Int) = 0 := by rw [hpm4.length_eq, HL3.out]; rfl
          have H4 := Lib.hid hH4
          have HL4 := Lib.hid hl4
          clear hH4 hon4 hpm4 hl4
          obtain rfl : z = x := HMZ.out.uniq ⟨by simp, by simp⟩
          go_wp2_with fail
          refine (HLen_calls b b v4 L4 _ H4.out).mono ?_
          rintro e _ ⟨he, q4, rfl⟩
          rw [HL4.out] at he
          subst he
          have hzz : (z == z) = true := by simp
          go_wp2_with fail
          go_ret
          exact ⟨by simp, below_drewN hb4 q4⟩
      | succ k1 =>
        obtain ⟨i, hi⟩ : ∃ i, m - (k1 + 1) = i := ⟨_, rfl⟩
        have hi2 : m - k1 = i + 1 := by omega
        have hlt : i < m := by omega
        rw [hi]
        have HI := Lib.hid hi2
        clear hi hi2
        go_wp2_with fail
        refine (Peek_none b b v _ (HH.out.drewN _)).mono ?_
        rintro e _ ⟨he, q2, rfl⟩
        subst he
        go_wp2_with fail
        go_roundg k1
        case measure => omega
        case rel => exact ⟨by omega, by rw [HI.out]; rfl, _, rfl⟩
  | cons y L =>
    go_wp2_with fail
    refine (Peek_some b b v y L _ HH.out).mono ?_
    rintro e _ ⟨he, q1, rfl⟩
    subst he
    have hmin := HeapOk.min HOK.out HPM.out
    have hlen : l.length = L.length + 1 := by rw [← HPM.out.length_eq]; simp
    have hyy : (y != y) = false := by simp
    have hpos : decide (0 < l.length) = true := decide_eq_true (by omega)
    have HMIN := Lib.hid hmin
    have HLEN := Lib.hid hlen
    clear hmin hlen
    have hwm := HWM.out
    have hwm2 := HWM2.out
    go_wp2_with fail
    go_loopg [10] m (fun kq v10 w' => kq ≤ m ∧ v10 = .int .i64 ((m - kq : Nat) : Int) ∧ ∃ q, w' = w2.drewN q)
    case atStart => exact ⟨Nat.le_refl _, by simp, q1, rfl⟩
    case round =>
      obtain ⟨hk, rfl, q, rfl⟩ := hrel
      cases gk with
      | zero =>
        simp only [Nat.sub_zero]
        go_wp2_with fail
        refine (HLen_calls b b v (y :: L) _ (HH.out.drewN q)).mono ?_
        rintro e _ ⟨he, q3, rfl⟩
        have hll : (((y :: L : List Int).length : Nat) : Int) = (l.length : Int) := by rw [HLEN.out]; simp
        rw [hll] at he
        clear hll
        subst he
        go_wp2_with fail
        refine (Push_calls b b v (y :: L) x _ (HH.out.drewN _) HOK.out (by have := HLEN.out; simp; omega)).mono ?_
        rintro e w3 ⟨he, v3, L3, ⟨hH3, hok3, hon3, _⟩, hpm3⟩
        subst he
        have hb3 : Below w.heap.size w w3 := (below_drewN hb2 (q + q3)).trans (hon3.below (by simpa using hz2) fun k hk h => h.elim (fun h => by omega) fun h => by have := (HH.out.2.1.lt k h).1; omega)
        have hz3 := hb3.size
        cases L3 with
        | nil => exact absurd hpm3.length_eq (by simp)
        | cons z L3 =>
          have hmz := HeapOk.min hok3 (hpm3.trans ((HPM.out).cons x))
          have hl3 : L3.length = l.length := by have h := (hpm3.trans ((HPM.out).cons x)).length_eq; simpa using h
          have H3 := Lib.hid hH3
          have O3 := Lib.hid hok3
          have HL3 := Lib.hid hl3
          have HMZ := Lib.hid hmz
          clear hH3 hok3 hon3 hpm3 hl3 hmz
          go_wp2_with fail
          refine (Pop_some b b v3 z L3 _ H3.out O3.out (by have := HL3.out; omega)).mono ?_
          rintro e w4 ⟨he, v4, L4, ⟨hH4, _, hon4, _⟩, hpm4⟩
          subst he
          have hb4 : Below w.heap.size w w4 := hb3.trans (hon4.below hz3 fun k hk h => h.elim (fun h => by omega) fun h => by have := (H3.out.2.1.lt k h).1; omega)
          have hl4 : ((L4.length : Nat) : Int) = ((l.length : Nat) : Int) := by rw [hpm4.length_eq, HL3.out]
          have H4 := Lib.hid hH4
          have HL4 := Lib.hid hl4
          clear hH4 hon4 hpm4 hl4
          have hzv := min_cons HMIN.out HMZ.out
          by_cases hyx : y < x
          · have hyx' : decide (y < x) = true := decide_eq_true hyx
            obtain rfl : z = y := by rw [hzv, if_pos hyx]
            clear hzv
            go_wp2_with fail
            refine (HLen_calls b b v4 L4 _ H4.out).mono ?_
            rintro e _ ⟨he, q4, rfl⟩
            rw [HL4.out] at he
            subst he
            have hzz : (z == z) = true := by simp
            go_wp2_with fail
            go_ret
            exact ⟨by simp, below_drewN hb4 q4⟩
          · have hyx' : decide (y < x) = false := decide_eq_false hyx
            obtain rfl : z = x := by rw [hzv, if_neg hyx]
            clear hzv
            go_wp2_with fail
            refine (HLen_calls b b v4 L4 _ H4.out).mono ?_
            rintro e _ ⟨he, q4, rfl⟩
            rw [HL4.out] at he
            subst he
            have hzz : (z == z) = true := by simp
            go_wp2_with fail
            go_ret
            exact ⟨by simp, below_drewN hb4 q4⟩
      | succ k1 =>
        obtain ⟨i, hi⟩ : ∃ i, m - (k1 + 1) = i := ⟨_, rfl⟩
        have hi2 : m - k1 = i + 1 := by omega
        have hlt : i < m := by omega
        rw [hi]
        have HI := Lib.hid hi2
        clear hi hi2
        go_wp2_with fail
        refine (Peek_some b b v y L _ (HH.out.drewN _)).mono ?_
        rintro e _ ⟨he, q2, rfl⟩
        subst he
        go_wp2_with fail
        go_roundg k1
        case measure => omega
        case rel => exact ⟨by omega, by rw [HI.out]; rfl, _, rfl⟩
end Go.Proofs.Ytacgkoclammggaa
