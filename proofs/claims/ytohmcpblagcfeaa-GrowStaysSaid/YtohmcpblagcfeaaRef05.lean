
/-
  The reference's source (layer 5): what it holds in memory, and the contract of each draw. Condition of each: its block is as its word says.
-/
import Derived.Test.YtohmcpblagcfeaaRng
namespace Go.Proofs.Ytohmcpblagcfeaa
open Go.RowKit
set_option linter.unusedVariables false
set_option maxRecDepth 100000
set_option linter.unusedSimpArgs false

theorem nth_start (st n : Int) : IntKind.u64.wrap (st + IntKind.u64.wrap (IntKind.u64.wrap (wrap64 (n + 1)) * 11400714819323198485)) = IntKind.u64.wrap (st + (n + 1) * 11400714819323198485) := by
  rw [wrap_u64', wrap_u64', wrap_u64', wrap_u64']
  have h : wrap64 (n + 1) % 18446744073709551616 = (n + 1) % 18446744073709551616 := by unfold wrap64; omega
  rw [h]
  generalize n + 1 = m
  have e1 : m % 18446744073709551616 * 11400714819323198485 % 18446744073709551616 = m * 11400714819323198485 % 18446744073709551616 := by omega
  rw [e1]
  omega
def nthOut (st n : Int) : Int := mixOut (IntKind.u64.wrap (st + (n + 1) * 11400714819323198485))
theorem nthOut_nat (st : Int) (n : Nat) : nthOut st n = mixAt st (n + 1) := by
  unfold nthOut mixAt
  congr 3
theorem Nth_calls (st n : Int) (w : World) :
    Calls Try.prog 76 #[.int .u64 st, .int .i64 n] w fun e w' => e = .returned (.int .u64 (nthOut st n)) ∧ w = w' := by
  have hs := nth_start st n
  unfold nthOut
  obtain ⟨z, hz⟩ : ∃ z, IntKind.u64.wrap (st + (n + 1) * 11400714819323198485) = z := ⟨_, rfl⟩
  rw [hz] at hs ⊢
  have bz : 0 ≤ z ∧ z ≤ 18446744073709551615 := by rw [← hz]; exact u64_bd _
  have qz := quo_u64 z 1073741824 bz (by omega)
  obtain ⟨a, ha⟩ : ∃ a, IntKind.u64.wrap (bits .xor .u64 z (z / 1073741824) * 13787848793156543929) = a := ⟨_, rfl⟩
  have ba : 0 ≤ a ∧ a ≤ 18446744073709551615 := by rw [← ha]; exact u64_bd _
  have qa := quo_u64 a 134217728 ba (by omega)
  obtain ⟨c, hc⟩ : ∃ a', IntKind.u64.wrap (bits .xor .u64 a (a / 134217728) * 10723151780598845931) = a' := ⟨_, rfl⟩
  have bc : 0 ≤ c ∧ c ≤ 18446744073709551615 := by rw [← hc]; exact u64_bd _
  have qc := quo_u64 c 2147483648 bc (by omega)
  have e2 : mixOut z = bits .xor .u64 c (c / 2147483648) := by rw [← hc, ← ha]; rfl
  rw [e2]
  clear e2 hz bz ba bc
  go_enter Try.func76, Try.ntmps76
  go_wp2
  go_ret
  exact ⟨rfl, rfl⟩

/-- The reference's source at block b. -/
def RefS (w : World) (b : Nat) (mixed : Bool) (st : Int) (A : Option Addr) (c : Nat) (l : List Int) (n : Nat) : Prop :=
  w.heap[b]? = some (.cells #[.bool mixed, .int .u64 st, .slice A l.length c, .int .i64 n] 59 (0, 0)) ∧ Rd w .u64 A l ∧ ∀ ad, 0 < l.length → A = some ad → ad.block ≠ b
def refS (mixed : Bool) (st : Int) (l : List Int) (n : Nat) : Int := if mixed then mixAt st (n + 1) else l.getD n 0
theorem RefS.only {w w' : World} {S : Nat → Prop} {b : Nat} {mixed : Bool} {st : Int} {A : Option Addr} {c : Nat} {l : List Int} {n : Nat} (h : RefS w b mixed st A c l n) (ho : Only S w w') (hb : ¬ S b) (ha : ∀ ad, 0 < l.length → A = some ad → ¬ S ad.block) : RefS w' b mixed st A c l n := by
  refine ⟨ho.obj h.1 hb, ⟨h.2.1.1, fun j hj => ?_⟩, h.2.2⟩
  obtain ⟨ad, e, hc⟩ := h.2.1.2 j hj
  have hbl : (ad.add j).block = ad.block := by unfold Addr.add; split <;> rfl
  exact ⟨ad, e, ho.cell hc (by rw [hbl]; exact ha ad (by omega) e)⟩
theorem refDraw_calls (b : Nat) (mixed : Bool) (st : Int) (A : Option Addr) (c : Nat) (l : List Int) (n : Nat) (w : World) (h : RefS w b mixed st A c l n) (hn : n ≤ 4611686018427387904) :
    Calls Try.prog 74 #[.pointer (some ⟨b, 0, none⟩)] w fun e w' => e = .returned (.int .u64 (refS mixed st l n)) ∧ RefS w' b mixed st A c l (n + 1) ∧ Only (· = b) w w' := by
  obtain ⟨hb, hr, hne⟩ := h
  have h0 : w.cell? ⟨b, 0, none⟩ = some (.bool mixed) := by simp [World.cell?, hb]
  have h1 : w.cell? ⟨b, 1, none⟩ = some (.int .u64 st) := by simp [World.cell?, hb]
  have h2 : w.cell? ⟨b, 2, none⟩ = some (.slice A l.length c) := by simp [World.cell?, hb]
  have h3 : w.cell? ⟨b, 3, none⟩ = some (.int .i64 n) := by simp [World.cell?, hb]
  have hf : w.frozen? ⟨b, 3, none⟩ = false := by simp [World.frozen?, hb]
  have hl := hr.1
  have fin : RefS (w.setCell ⟨b, 3, none⟩ (.int .i64 ((n + 1 : Nat) : Int))) b mixed st A c l (n + 1) := by
    refine ⟨set_blk (cs := [_, _, _, _]) hb 3 _, ⟨hr.1, fun j hj => ?_⟩, hne⟩
    obtain ⟨ad, e, hc⟩ := hr.2 j hj
    have hbl : (ad.add j).block = ad.block := by unfold Addr.add; split <;> rfl
    exact ⟨ad, e, (only_set w b 3 _).cell hc (by rw [hbl]; exact hne ad (by omega) e)⟩
  have hN : ((n + 1 : Nat) : Int) = (n : Int) + 1 := by omega
  rw [hN] at fin
  have FIN := Lib.hid fin
  have HR := Lib.hid hr
  clear hb fin hr hN
  cases mixed with
  | true =>
    have e1 : refS true st l n = nthOut st n := by rw [nthOut_nat]; rfl
    rw [e1]
    obtain ⟨q, hq⟩ : ∃ q, nthOut st n = q := ⟨_, rfl⟩
    rw [hq]
    have HQ := Lib.hid hq
    clear e1 hq
    go_enter Try.func74, Try.ntmps74
    go_wp2_with fail
    refine (Nth_calls st n _).mono ?_
    rintro e _ ⟨he, rfl⟩
    rw [HQ.out] at he
    subst he
    go_wp2_with fail
    go_ret
    exact ⟨rfl, FIN.out, only_set _ _ _ _⟩
  | false =>
    by_cases hlt : n < l.length
    · obtain ⟨ad, rfl, hcell⟩ := HR.out.2 n hlt
      have hbl : (ad.add n).block = ad.block := by unfold Addr.add; split <;> rfl
      have hcell' : (w.setCell ⟨b, 3, none⟩ (.int .i64 ((n : Int) + 1))).cell? (ad.add n) = some (.int .u64 (l.getD n 0)) := (only_set w b 3 _).cell hcell (by rw [hbl]; exact hne ad (by omega) rfl)
      clear hbl
      have e1 : refS false st l n = l.getD n 0 := rfl
      rw [e1]
      obtain ⟨q, hq⟩ : ∃ q, l.getD n 0 = q := ⟨_, rfl⟩
      rw [hq] at hcell hcell' ⊢
      clear e1 hq
      have hi : (n : Int) < (l.length : Int) := by omega
      go_enter Try.func74, Try.ntmps74
      go_wp2_with fail
      go_ret
      exact ⟨rfl, FIN.out, only_set _ _ _ _⟩
    · have e1 : refS false st l n = 0 := by
        show l.getD n 0 = 0
        simp [List.getD, List.getElem?_eq_none (show l.length ≤ n by omega)]
      rw [e1]
      have hi : decide ((n : Int) < (l.length : Int)) = false := by simp; omega
      clear e1
      go_enter Try.func74, Try.ntmps74
      go_wp2_with fail
      go_ret
      exact ⟨rfl, FIN.out, only_set _ _ _ _⟩
theorem refS_bd (mixed : Bool) (st : Int) {l : List Int} (n : Nat) (hu : U64 l) : 0 ≤ refS mixed st l n ∧ refS mixed st l n ≤ 18446744073709551615 := by
  cases mixed with
  | true => exact mixAt_bd st (n + 1)
  | false => exact hu.at n

theorem refBelow_none (p : Value) (n : Int) (w : World) (h : n < 1) :
    Calls Try.prog 69 #[p, .int .i64 n] w fun e w' => e = .returned (.int .i64 0) ∧ w = w' := by
  go_enter Try.func69, Try.ntmps69
  go_wp2_with fail
  go_ret
  exact ⟨rfl, rfl⟩
theorem refBelow_draw (b : Nat) (mixed : Bool) (st : Int) (A : Option Addr) (c : Nat) (l : List Int) (k : Nat) (n : Int) (w : World) (h : RefS w b mixed st A c l k) (hu : U64 l) (hk : k ≤ 4611686018427387904) (hn : 1 ≤ n ∧ n ≤ 9223372036854775807) :
    Calls Try.prog 69 #[.pointer (some ⟨b, 0, none⟩), .int .i64 n] w fun e w' => e = .returned (.int .i64 (belowN (refS mixed st l k) n)) ∧ RefS w' b mixed st A c l (k + 1) ∧ Only (· = b) w w' := by
  have hx := refS_bd mixed st k hu
  obtain ⟨x, hxe⟩ : ∃ x, refS mixed st l k = x := ⟨_, rfl⟩
  rw [hxe] at hx ⊢
  have HX := Lib.hid hxe
  have HS := Lib.hid h
  have hu2 : IntKind.u64.wrap n = n := u64_id _ (by omega)
  obtain ⟨hn1, hn2⟩ := hn
  clear hxe h
  go_enter Try.func69, Try.ntmps69
  go_wp2_with fail
  refine (refDraw_calls b mixed st A c l k _ HS.out hk).mono ?_
  rintro e w1 ⟨he, hs1, ho⟩
  rw [HX.out] at he
  subst he
  have H1 := Lib.hid hs1
  clear hs1
  go_wp2_with fail
  go_ret
  refine ⟨ret_int ?_, H1.out, ho⟩
  have h1 := Int.emod_nonneg x (show n ≠ 0 by omega)
  have h2 := Int.emod_lt_of_pos x (show 0 < n by omega)
  exact wrap64_id _ (by omega)
theorem refPair_none (p : Value) (n : Int) (w : World) (h : n < 2) :
    Calls Try.prog 55 #[p, .int .i64 n] w fun e w' => e = .returned (.tuple #[.int .i64 0, .int .i64 0]) ∧ w = w' := by
  go_enter Try.func55, Try.ntmps55
  go_wp2_with fail
  go_ret2
  exact ⟨rfl, rfl⟩
theorem refPair_draw (b : Nat) (mixed : Bool) (st : Int) (A : Option Addr) (c : Nat) (l : List Int) (k : Nat) (n : Int) (w : World) (h : RefS w b mixed st A c l k) (hu : U64 l) (hk : k ≤ 4611686018427387000) (hn : 2 ≤ n ∧ n ≤ 9223372036854775807) :
    Calls Try.prog 55 #[.pointer (some ⟨b, 0, none⟩), .int .i64 n] w fun e w' => e = .returned (.tuple #[.int .i64 (belowN (refS mixed st l k) n), .int .i64 (pairB (refS mixed st l k) (refS mixed st l (k + 1)) n)]) ∧ RefS w' b mixed st A c l (k + 2) ∧ Only (· = b) w w' := by
  obtain ⟨x, hx⟩ : ∃ a, belowN (refS mixed st l k) n = a := ⟨_, rfl⟩
  obtain ⟨y, hy⟩ : ∃ b, belowN (refS mixed st l (k + 1)) (n - 1) = b := ⟨_, rfl⟩
  have hp : pairB (refS mixed st l k) (refS mixed st l (k + 1)) n = if x ≤ y then y + 1 else y := by unfold pairB; rw [hx, hy]
  have ba := belowN_bd (refS mixed st l k) n (by omega)
  have bb := belowN_bd (refS mixed st l (k + 1)) (n - 1) (by omega)
  rw [hx] at ba
  rw [hy] at bb
  obtain ⟨a1, a2⟩ := ba
  obtain ⟨b1, b2⟩ := bb
  obtain ⟨n1, n2⟩ := hn
  rw [hx, hp]
  have EA := Lib.hid hx
  have EB := Lib.hid hy
  have HS := Lib.hid h
  clear hx hy hp h
  by_cases hab : x ≤ y
  · rw [if_pos hab]
    have hab' : decide (x ≤ y) = true := decide_eq_true hab
    go_enter Try.func55, Try.ntmps55
    go_wp2_with fail
    refine (refBelow_draw b mixed st A c l k n _ HS.out hu (by omega) (by omega)).mono ?_
    rintro e w1 ⟨he, hs1, ho1⟩
    rw [EA.out] at he
    subst he
    have H1 := Lib.hid hs1
    clear hs1
    go_wp2_with fail
    refine (refBelow_draw b mixed st A c l (k + 1) (n - 1) _ H1.out hu (by omega) (by omega)).mono ?_
    rintro e w2 ⟨he, hs2, ho2⟩
    rw [EB.out] at he
    subst he
    have H2 := Lib.hid hs2
    clear hs2
    go_wp2_with fail
    go_ret2
    exact ⟨rfl, H2.out, ho1.trans ho2⟩
  · rw [if_neg hab]
    have hab' : decide (x ≤ y) = false := decide_eq_false hab
    go_enter Try.func55, Try.ntmps55
    go_wp2_with fail
    refine (refBelow_draw b mixed st A c l k n _ HS.out hu (by omega) (by omega)).mono ?_
    rintro e w1 ⟨he, hs1, ho1⟩
    rw [EA.out] at he
    subst he
    have H1 := Lib.hid hs1
    clear hs1
    go_wp2_with fail
    refine (refBelow_draw b mixed st A c l (k + 1) (n - 1) _ H1.out hu (by omega) (by omega)).mono ?_
    rintro e w2 ⟨he, hs2, ho2⟩
    rw [EB.out] at he
    subst he
    have H2 := Lib.hid hs2
    clear hs2
    go_wp2_with fail
    go_ret2
    exact ⟨rfl, H2.out, ho1.trans ho2⟩
theorem RefS.below {w w' : World} {B b : Nat} {mixed : Bool} {st : Int} {A : Option Addr} {c : Nat} {l : List Int} {n : Nat} (h : RefS w b mixed st A c l n) (ho : Below B w w') (hb : b < B) (ha : ∀ ad, 0 < l.length → A = some ad → ad.block < B) : RefS w' b mixed st A c l n :=
  h.only (S := fun k => B ≤ k) ⟨ho.os, ho.tape, ho.output, ho.size, fun i _ hs => ho.block i (by omega)⟩ (by omega) fun ad h1 h2 => by have := ha ad h1 h2; omega
theorem Rd.blk_lt {w : World} {k : IntKind} {A : Option Addr} {xs : List Int} (h : Rd w k A xs) (ad : Addr) (hl : 0 < xs.length) (e : A = some ad) : ad.block < w.heap.size := by
  obtain ⟨ad', e', hc⟩ := h.2 0 hl
  rw [e] at e'
  injection e' with e'
  subst e'
  have hbl : (ad.add 0).block = ad.block := by unfold Addr.add; split <;> rfl
  rw [← hbl]
  exact World.block_lt_of_cell? _ _ hc
theorem RefS.mk {w : World} {b : Nat} {mixed : Bool} {st : Int} {A : Option Addr} {c : Nat} {l : List Int} {n : Nat} (hb : w.heap[b]? = some (.cells #[.bool mixed, .int .u64 st, .slice A l.length c, .int .i64 n] 59 (0, 0))) (h : Rd w .u64 A l) (hne : ∀ ad, 0 < l.length → A = some ad → ad.block ≠ b) : RefS w b mixed st A c l n := ⟨hb, h, hne⟩
end Go.Proofs.Ytohmcpblagcfeaa
