/-
  The statement DataRows as a walk: it answers true and leaves all memory that was there as it was. Condition: the arguments are an int, a list of lists of int32, and two ints, within the form's reach.
-/
import Derived.Test.YtgjcajffkhjlbaaLaw10
import Derived.Test.YtgjcajffkhjlbaaVecMath
namespace Go.Proofs.Ytgjcajffkhjlbaa
open Go.RowKit
set_option linter.unusedVariables false
set_option linter.unusedSimpArgs false

theorem chkL_all {dim : Int} {ls : List (List Int)} (h : chkL dim ls = 0) : ∀ j, j < ls.length → checkV (ls.getD j []) dim = 0 := by
  induction ls with
  | nil => intro j hj; simp at hj
  | cons x xs ih =>
    unfold chkL at h
    split at h
    · contradiction
    · rename_i h0
      intro j hj
      cases j with
      | zero => simpa [List.getD] using h0
      | succ j => simpa [List.getD] using ih h j (by simpa using hj)

set_option maxHeartbeats 6400000 in
set_option maxRecDepth 100000 in
theorem DataRows_law (dim : Int) (A : Option Addr) (c : Nat) (ls : List (List Int)) (a b : Int) (w : World)
    (hdim : (Lit.int .i64 dim).wf = true) (hlc : ls.length ≤ c) (ha : Rows w .i32 A ls) (hwf : ∀ xs ∈ ls, ∀ n ∈ xs, (Lit.int .i32 n).wf = true) (hia : (Lit.int .i64 a).wf = true) (hib : (Lit.int .i64 b).wf = true) :
    Calls Try.prog 17 #[.int .i64 dim, .slice A ls.length c, .int .i64 a, .int .i64 b] w fun e w' => e = .returned (.bool true) ∧ Below w.heap.size w w' := by
  have KA := Lib.hid ha
  have lA := ha.1
  clear hdim ha hwf hia hib
  go_enter Try.func17, Try.ntmps17
  go_wp2_with fail
  refine (awake10_calls _).mono ?_
  rintro e w1 ⟨he, hb1⟩
  subst he
  have hz1 := hb1.size
  go_wp2_with fail
  refine (Few_calls A c ls _ (KA.out.below hb1)).mono ?_
  rintro e _ ⟨bo, he, hfew, rfl⟩
  subst he
  cases bo with
  | false =>
    go_wp2_with fail
    go_ret
    exact ⟨rfl, hb1⟩
  | true =>
    have hl := hfew rfl
    clear hfew
    go_wp2_with fail
    refine (Of_calls dim A c ls _ (KA.out.below hb1) (by omega)).mono ?_
    rintro e w2 ⟨v, f, he, hf, hbad, hgood, hb2⟩
    subst he
    have hb3 : Below w.heap.size w w2 := hb1.trans (hb2.mono hz1)
    have hz3 := hb3.size
    have HF := Lib.hid hf
    have HGD := Lib.hid hgood
    have HBD := Lib.hid hbad
    clear hgood hbad hf
    by_cases hf0 : f = 0
    · subst hf0
      have hin : ¬ (dim < 1 ∨ 1024 < dim) := fun h => by have := HF.out; unfold chkV at this; rw [if_pos h] at this; cases this
      have hck : chkL dim ls = 0 := by have := HF.out; unfold chkV at this; rwa [if_neg hin] at this
      obtain ⟨D, rfl⟩ : ∃ k : Nat, dim = k := ⟨dim.toNat, by omega⟩
      have HALL := Lib.hid (chkL_all hck)
      obtain ⟨bx, rfl, hlo, hit⟩ := HGD.out rfl
      rw [Int.toNat_natCast] at hit
      have HX := Lib.hid hit
      have hd1 : 1 ≤ D := hit.1
      have hd2 : D ≤ 1024 := hit.2.1
      clear HGD HBD hit hck hin HF
      go_wp2_with fail
      refine (New_calls D _ hd1 hd2).mono ?_
      rintro e w3 ⟨he, hit, hb4⟩
      subst he
      have HY := Lib.hid hit
      clear hit
      go_wp2_with fail
      go_loopg [13] ls.length (fun kq v13 w' => kq ≤ ls.length ∧ v13 = .int .i64 ((ls.length - kq : Nat)) ∧ It w' w2.heap.size D (ls.take (ls.length - kq)) ∧ Below w2.heap.size w2 w')
      case atStart => exact ⟨Nat.le_refl _, by simp, by rw [Nat.sub_self]; exact HY.out, hb4⟩
      case round =>
        obtain ⟨hk, rfl, hit, hb⟩ := hrel
        have HIT := Lib.hid hit
        have HB := Lib.hid hb
        have hzr := hb.size
        clear hit hb HY
        cases gk with
        | succ k1 =>
          obtain ⟨i, hi⟩ : ∃ i, ls.length - (k1 + 1) = i := ⟨_, rfl⟩
          have hi2 : ls.length - k1 = i + 1 := by omega
          have HI2 := Lib.hid hi2
          have hlt : i < ls.length := by omega
          rw [hi] at HIT ⊢
          obtain ⟨ad, B, cB, rfl, hcell, hcB, hrd⟩ := ((KA.out.below hb3).below HB.out).2 i hlt
          obtain ⟨xs, hxs⟩ : ∃ xs, ls.getD i [] = xs := ⟨_, rfl⟩
          rw [hxs] at hcell hcB hrd
          have HXS := Lib.hid hxs
          have HRD := Lib.hid hrd
          have hcz := HALL.out i hlt
          rw [hxs] at hcz
          have HCZ := Lib.hid hcz
          have htl : (ls.take i).length = i := by simp; omega
          have HTL := Lib.hid htl
          have hii : ((i : Int) != (i : Int)) = false := by simp
          clear hi hi2 hxs hrd htl hcz
          go_wp2_with fail
          refine (Add_calls w2.heap.size D (ls.take i) B cB xs _ HIT.out HRD.out HCZ.out (by rw [HTL.out]; omega)).mono ?_
          rintro e w4 ⟨he, hit, hb⟩
          rw [HTL.out] at he
          subst he
          have HIT2 := Lib.hid hit
          have HB2 := Lib.hid (HB.out.trans hb)
          clear hit hb
          go_wp2_with fail
          go_roundg k1
          case measure => omega
          case rel =>
            rw [HI2.out]
            exact ⟨by omega, rfl, by rw [take_snoc _ _ hlt, HXS.out]; exact HIT2.out, HB2.out⟩
        | zero =>
          simp only [Nat.sub_zero] at HIT ⊢
          rw [List.take_length] at HIT
          have hb5 : Below w.heap.size w wr := hb3.trans (HB.out.mono hz3)
          have HX2 := Lib.hid (HX.out.below HB.out)
          have hz5 := hb5.size
          clear HX HB hb4
          by_cases ha : a < 0
          · skip
            by_cases hb : b < 0
            · skip
              have hpa : decide (0 ≤ a) = false := decide_eq_false (by omega)
              have HOa : Hid (a < 0 ∨ (ls.length : Int) ≤ a) := Lib.hid (.inl ha)
              have hpb : decide (0 ≤ b) = false := decide_eq_false (by omega)
              have HOb : Hid (b < 0 ∨ (ls.length : Int) ≤ b) := Lib.hid (.inl hb)
              go_wp2_with fail
              refine (At_none bx _ ls a _ HX2.out HOa.out).mono ?_
              rintro e w5 ⟨he, hbq⟩
              subst he
              have hb6 : Below w.heap.size w w5 := hb5.trans (hbq.mono hb5.size)
              have HX3 := Lib.hid (HX2.out.below hbq)
              have HY3 := Lib.hid (HIT.out.below hbq)
              clear hbq
              go_wp2_with fail
              refine (At_none w2.heap.size _ ls b _ HY3.out HOb.out).mono ?_
              rintro e w6 ⟨he, hbq⟩
              subst he
              have hb7 : Below w.heap.size w w6 := hb6.trans (hbq.mono hb6.size)
              go_wp2_with fail
              go_ret
              exact ⟨rfl, hb7⟩
            by_cases hb2 : (ls.length : Int) ≤ b
            · skip
              have hpa : decide (0 ≤ a) = false := decide_eq_false (by omega)
              have HOa : Hid (a < 0 ∨ (ls.length : Int) ≤ a) := Lib.hid (.inl ha)
              have hpb : decide (0 ≤ b) = true := decide_eq_true (by omega)
              have hqb : decide (b < (ls.length : Int)) = false := decide_eq_false (by omega)
              have HOb : Hid (b < 0 ∨ (ls.length : Int) ≤ b) := Lib.hid (.inr hb2)
              go_wp2_with fail
              refine (At_none bx _ ls a _ HX2.out HOa.out).mono ?_
              rintro e w5 ⟨he, hbq⟩
              subst he
              have hb6 : Below w.heap.size w w5 := hb5.trans (hbq.mono hb5.size)
              have HX3 := Lib.hid (HX2.out.below hbq)
              have HY3 := Lib.hid (HIT.out.below hbq)
              clear hbq
              go_wp2_with fail
              refine (At_none w2.heap.size _ ls b _ HY3.out HOb.out).mono ?_
              rintro e w6 ⟨he, hbq⟩
              subst he
              have hb7 : Below w.heap.size w w6 := hb6.trans (hbq.mono hb6.size)
              go_wp2_with fail
              go_ret
              exact ⟨rfl, hb7⟩
            have hpa : decide (0 ≤ a) = false := decide_eq_false (by omega)
            have HOa : Hid (a < 0 ∨ (ls.length : Int) ≤ a) := Lib.hid (.inl ha)
            obtain ⟨kb, rfl⟩ : ∃ k : Nat, b = k := ⟨b.toNat, by omega⟩
            have hkb : kb < ls.length := by omega
            have hpb : decide ((0 : Int) ≤ (kb : Int)) = true := decide_eq_true (by omega)
            have hqb : decide (kb < ls.length) = true := decide_eq_true hkb
            have hczb := checkV_zero (HALL.out kb hkb)
            obtain ⟨xb, hxb⟩ : ∃ xs, ls.getD kb [] = xs := ⟨_, rfl⟩
            rw [hxb] at hczb
            have HSb := Lib.hid hxb
            have HCb := Lib.hid hczb
            clear hxb hczb
            go_wp2_with fail
            refine (At_none bx _ ls a _ HX2.out HOa.out).mono ?_
            rintro e w5 ⟨he, hbq⟩
            subst he
            have hb6 : Below w.heap.size w w5 := hb5.trans (hbq.mono hb5.size)
            have HX3 := Lib.hid (HX2.out.below hbq)
            have HY3 := Lib.hid (HIT.out.below hbq)
            clear hbq
            go_wp2_with fail
            refine (At_calls w2.heap.size _ ls kb _ HY3.out hkb).mono ?_
            rintro e w6 ⟨vb, he, hownb, hbq⟩
            subst he
            rw [HSb.out] at hownb
            obtain ⟨Ab, cb, rfl, hcb, hrb⟩ := hownb.shape
            have HRb := Lib.hid hrb
            clear hownb hrb
            have hb7 : Below w.heap.size w w6 := hb6.trans (hbq.mono hb6.size)
            go_wp2_with fail
            go_ret
            exact ⟨rfl, hb7⟩
          by_cases ha2 : (ls.length : Int) ≤ a
          · skip
            by_cases hb : b < 0
            · skip
              have hpa : decide (0 ≤ a) = true := decide_eq_true (by omega)
              have hqa : decide (a < (ls.length : Int)) = false := decide_eq_false (by omega)
              have HOa : Hid (a < 0 ∨ (ls.length : Int) ≤ a) := Lib.hid (.inr ha2)
              have hpb : decide (0 ≤ b) = false := decide_eq_false (by omega)
              have HOb : Hid (b < 0 ∨ (ls.length : Int) ≤ b) := Lib.hid (.inl hb)
              go_wp2_with fail
              refine (At_none bx _ ls a _ HX2.out HOa.out).mono ?_
              rintro e w5 ⟨he, hbq⟩
              subst he
              have hb6 : Below w.heap.size w w5 := hb5.trans (hbq.mono hb5.size)
              have HX3 := Lib.hid (HX2.out.below hbq)
              have HY3 := Lib.hid (HIT.out.below hbq)
              clear hbq
              go_wp2_with fail
              refine (At_none w2.heap.size _ ls b _ HY3.out HOb.out).mono ?_
              rintro e w6 ⟨he, hbq⟩
              subst he
              have hb7 : Below w.heap.size w w6 := hb6.trans (hbq.mono hb6.size)
              go_wp2_with fail
              go_ret
              exact ⟨rfl, hb7⟩
            by_cases hb2 : (ls.length : Int) ≤ b
            · skip
              have hpa : decide (0 ≤ a) = true := decide_eq_true (by omega)
              have hqa : decide (a < (ls.length : Int)) = false := decide_eq_false (by omega)
              have HOa : Hid (a < 0 ∨ (ls.length : Int) ≤ a) := Lib.hid (.inr ha2)
              have hpb : decide (0 ≤ b) = true := decide_eq_true (by omega)
              have hqb : decide (b < (ls.length : Int)) = false := decide_eq_false (by omega)
              have HOb : Hid (b < 0 ∨ (ls.length : Int) ≤ b) := Lib.hid (.inr hb2)
              go_wp2_with fail
              refine (At_none bx _ ls a _ HX2.out HOa.out).mono ?_
              rintro e w5 ⟨he, hbq⟩
              subst he
              have hb6 : Below w.heap.size w w5 := hb5.trans (hbq.mono hb5.size)
              have HX3 := Lib.hid (HX2.out.below hbq)
              have HY3 := Lib.hid (HIT.out.below hbq)
              clear hbq
              go_wp2_with fail
              refine (At_none w2.heap.size _ ls b _ HY3.out HOb.out).mono ?_
              rintro e w6 ⟨he, hbq⟩
              subst he
              have hb7 : Below w.heap.size w w6 := hb6.trans (hbq.mono hb6.size)
              go_wp2_with fail
              go_ret
              exact ⟨rfl, hb7⟩
            have hpa : decide (0 ≤ a) = true := decide_eq_true (by omega)
            have hqa : decide (a < (ls.length : Int)) = false := decide_eq_false (by omega)
            have HOa : Hid (a < 0 ∨ (ls.length : Int) ≤ a) := Lib.hid (.inr ha2)
            obtain ⟨kb, rfl⟩ : ∃ k : Nat, b = k := ⟨b.toNat, by omega⟩
            have hkb : kb < ls.length := by omega
            have hpb : decide ((0 : Int) ≤ (kb : Int)) = true := decide_eq_true (by omega)
            have hqb : decide (kb < ls.length) = true := decide_eq_true hkb
            have hczb := checkV_zero (HALL.out kb hkb)
            obtain ⟨xb, hxb⟩ : ∃ xs, ls.getD kb [] = xs := ⟨_, rfl⟩
            rw [hxb] at hczb
            have HSb := Lib.hid hxb
            have HCb := Lib.hid hczb
            clear hxb hczb
            go_wp2_with fail
            refine (At_none bx _ ls a _ HX2.out HOa.out).mono ?_
            rintro e w5 ⟨he, hbq⟩
            subst he
            have hb6 : Below w.heap.size w w5 := hb5.trans (hbq.mono hb5.size)
            have HX3 := Lib.hid (HX2.out.below hbq)
            have HY3 := Lib.hid (HIT.out.below hbq)
            clear hbq
            go_wp2_with fail
            refine (At_calls w2.heap.size _ ls kb _ HY3.out hkb).mono ?_
            rintro e w6 ⟨vb, he, hownb, hbq⟩
            subst he
            rw [HSb.out] at hownb
            obtain ⟨Ab, cb, rfl, hcb, hrb⟩ := hownb.shape
            have HRb := Lib.hid hrb
            clear hownb hrb
            have hb7 : Below w.heap.size w w6 := hb6.trans (hbq.mono hb6.size)
            go_wp2_with fail
            go_ret
            exact ⟨rfl, hb7⟩
          by_cases hb : b < 0
          · skip
            obtain ⟨ka, rfl⟩ : ∃ k : Nat, a = k := ⟨a.toNat, by omega⟩
            have hka : ka < ls.length := by omega
            have hpa : decide ((0 : Int) ≤ (ka : Int)) = true := decide_eq_true (by omega)
            have hqa : decide (ka < ls.length) = true := decide_eq_true hka
            have hcza := checkV_zero (HALL.out ka hka)
            obtain ⟨xa, hxa⟩ : ∃ xs, ls.getD ka [] = xs := ⟨_, rfl⟩
            rw [hxa] at hcza
            have HSa := Lib.hid hxa
            have HCa := Lib.hid hcza
            clear hxa hcza
            have hpb : decide (0 ≤ b) = false := decide_eq_false (by omega)
            have HOb : Hid (b < 0 ∨ (ls.length : Int) ≤ b) := Lib.hid (.inl hb)
            go_wp2_with fail
            refine (At_calls bx _ ls ka _ HX2.out hka).mono ?_
            rintro e w5 ⟨va, he, howna, hbq⟩
            subst he
            rw [HSa.out] at howna
            obtain ⟨Aa, ca, rfl, hca, hra⟩ := howna.shape
            have HRa := Lib.hid hra
            clear howna hra
            have hb6 : Below w.heap.size w w5 := hb5.trans (hbq.mono hb5.size)
            have HX3 := Lib.hid (HX2.out.below hbq)
            have HY3 := Lib.hid (HIT.out.below hbq)
            clear hbq
            go_wp2_with fail
            refine (At_none w2.heap.size _ ls b _ HY3.out HOb.out).mono ?_
            rintro e w6 ⟨he, hbq⟩
            subst he
            have hb7 : Below w.heap.size w w6 := hb6.trans (hbq.mono hb6.size)
            go_wp2_with fail
            go_ret
            exact ⟨rfl, hb7⟩
          by_cases hb2 : (ls.length : Int) ≤ b
          · skip
            obtain ⟨ka, rfl⟩ : ∃ k : Nat, a = k := ⟨a.toNat, by omega⟩
            have hka : ka < ls.length := by omega
            have hpa : decide ((0 : Int) ≤ (ka : Int)) = true := decide_eq_true (by omega)
            have hqa : decide (ka < ls.length) = true := decide_eq_true hka
            have hcza := checkV_zero (HALL.out ka hka)
            obtain ⟨xa, hxa⟩ : ∃ xs, ls.getD ka [] = xs := ⟨_, rfl⟩
            rw [hxa] at hcza
            have HSa := Lib.hid hxa
            have HCa := Lib.hid hcza
            clear hxa hcza
            have hpb : decide (0 ≤ b) = true := decide_eq_true (by omega)
            have hqb : decide (b < (ls.length : Int)) = false := decide_eq_false (by omega)
            have HOb : Hid (b < 0 ∨ (ls.length : Int) ≤ b) := Lib.hid (.inr hb2)
            go_wp2_with fail
            refine (At_calls bx _ ls ka _ HX2.out hka).mono ?_
            rintro e w5 ⟨va, he, howna, hbq⟩
            subst he
            rw [HSa.out] at howna
            obtain ⟨Aa, ca, rfl, hca, hra⟩ := howna.shape
            have HRa := Lib.hid hra
            clear howna hra
            have hb6 : Below w.heap.size w w5 := hb5.trans (hbq.mono hb5.size)
            have HX3 := Lib.hid (HX2.out.below hbq)
            have HY3 := Lib.hid (HIT.out.below hbq)
            clear hbq
            go_wp2_with fail
            refine (At_none w2.heap.size _ ls b _ HY3.out HOb.out).mono ?_
            rintro e w6 ⟨he, hbq⟩
            subst he
            have hb7 : Below w.heap.size w w6 := hb6.trans (hbq.mono hb6.size)
            go_wp2_with fail
            go_ret
            exact ⟨rfl, hb7⟩
          obtain ⟨ka, rfl⟩ : ∃ k : Nat, a = k := ⟨a.toNat, by omega⟩
          have hka : ka < ls.length := by omega
          have hpa : decide ((0 : Int) ≤ (ka : Int)) = true := decide_eq_true (by omega)
          have hqa : decide (ka < ls.length) = true := decide_eq_true hka
          have hcza := checkV_zero (HALL.out ka hka)
          obtain ⟨xa, hxa⟩ : ∃ xs, ls.getD ka [] = xs := ⟨_, rfl⟩
          rw [hxa] at hcza
          have HSa := Lib.hid hxa
          have HCa := Lib.hid hcza
          clear hxa hcza
          obtain ⟨kb, rfl⟩ : ∃ k : Nat, b = k := ⟨b.toNat, by omega⟩
          have hkb : kb < ls.length := by omega
          have hpb : decide ((0 : Int) ≤ (kb : Int)) = true := decide_eq_true (by omega)
          have hqb : decide (kb < ls.length) = true := decide_eq_true hkb
          have hczb := checkV_zero (HALL.out kb hkb)
          obtain ⟨xb, hxb⟩ : ∃ xs, ls.getD kb [] = xs := ⟨_, rfl⟩
          rw [hxb] at hczb
          have HSb := Lib.hid hxb
          have HCb := Lib.hid hczb
          clear hxb hczb
          have hla : xa.length = D := by have := HCa.out.2.2.1; omega
          have hlb : xb.length = D := by have := HCb.out.2.2.1; omega
          have hfb := far_bd HCb.out.2.2.2 HCa.out.2.2.2 (by omega)
          have hfz := far_zero (xs := xb) (ys := xa) (by omega)
          have hfc := far_comm xa xb
          obtain ⟨q, hq⟩ : ∃ q, far xb xa = q := ⟨_, rfl⟩
          rw [hq] at hfb hfz hfc
          have hqw : wrap64 q = q := wrap64_id _ (by omega)
          have HQ1 : Hid (wrap64 (far xb xa) = q) := Lib.hid (by rw [hq, hqw])
          have HQ2 : Hid (wrap64 (far xa xb) = q) := Lib.hid (by rw [hfc, hqw])
          have hqq : (q == q) = true := by simp
          obtain ⟨pe, hpe⟩ : ∃ p, decide (xa = xb) = p := ⟨_, rfl⟩
          have hqp : (q == 0) = pe := by
            rw [← hpe]
            by_cases e : xa = xb
            · have : q = 0 := hfz.2 e.symm
              simp [this, e]
            · have : q ≠ 0 := fun h => e (hfz.1 h).symm
              simp [this, e]
          have HPE := Lib.hid hpe
          have hpp : (pe == pe) = true := by simp
          clear hla hlb hfb hfz hfc hq hqw hpe
          go_wp2_with fail
          refine (At_calls bx _ ls ka _ HX2.out hka).mono ?_
          rintro e w5 ⟨va, he, howna, hbq⟩
          subst he
          rw [HSa.out] at howna
          obtain ⟨Aa, ca, rfl, hca, hra⟩ := howna.shape
          have HRa := Lib.hid hra
          clear howna hra
          have hb6 : Below w.heap.size w w5 := hb5.trans (hbq.mono hb5.size)
          have HX3 := Lib.hid (HX2.out.below hbq)
          have HY3 := Lib.hid (HIT.out.below hbq)
          clear hbq
          go_wp2_with fail
          refine (At_calls w2.heap.size _ ls kb _ HY3.out hkb).mono ?_
          rintro e w6 ⟨vb, he, hownb, hbq⟩
          subst he
          rw [HSb.out] at hownb
          obtain ⟨Ab, cb, rfl, hcb, hrb⟩ := hownb.shape
          have HRb := Lib.hid hrb
          clear hownb hrb
          have hb7 : Below w.heap.size w w6 := hb6.trans (hbq.mono hb6.size)
          have HX4 := Lib.hid (HX3.out.below hbq)
          have HY4 := Lib.hid (HY3.out.below hbq)
          have HRa2 := Lib.hid (HRa.out.below hbq)
          clear hbq
          go_wp2_with fail
          refine (iFar_calls bx _ ls kb Aa ca xa _ HX4.out hkb (by rw [HSb.out]; exact HCb.out.2.2.2.r32) HRa2.out HCa.out.2.2.2.r32).mono ?_
          rintro e w7 ⟨he, hbq⟩
          rw [HSb.out, HQ1.out] at he
          subst he
          have hb8 : Below w.heap.size w w7 := hb7.trans (hbq.mono hb7.size)
          have HX5 := Lib.hid (HX4.out.below hbq)
          have HY5 := Lib.hid (HY4.out.below hbq)
          have HRa3 := Lib.hid (HRa2.out.below hbq)
          have HRb3 := Lib.hid (HRb.out.below hbq)
          clear hbq
          go_wp2_with fail
          refine (iFar_calls w2.heap.size _ ls ka Ab cb xb _ HY5.out hka (by rw [HSa.out]; exact HCa.out.2.2.2.r32) HRb3.out HCb.out.2.2.2.r32).mono ?_
          rintro e w8 ⟨he, hbq⟩
          rw [HSa.out, HQ2.out] at he
          subst he
          have hb9 : Below w.heap.size w w8 := hb8.trans (hbq.mono hb8.size)
          have HX6 := Lib.hid (HX5.out.below hbq)
          have HRa4 := Lib.hid (HRa3.out.below hbq)
          have HRb4 := Lib.hid (HRb3.out.below hbq)
          clear hbq
          go_wp2_with fail
          refine (iFar_calls bx _ ls kb Aa ca xa _ HX6.out hkb (by rw [HSb.out]; exact HCb.out.2.2.2.r32) HRa4.out HCa.out.2.2.2.r32).mono ?_
          rintro e w9 ⟨he, hbq⟩
          rw [HSb.out, HQ1.out] at he
          subst he
          have hb10 : Below w.heap.size w w9 := hb9.trans (hbq.mono hb9.size)
          have HRa5 := Lib.hid (HRa4.out.below hbq)
          have HRb5 := Lib.hid (HRb4.out.below hbq)
          clear hbq
          go_wp2_with fail
          refine (refSame_b Aa Ab ca cb xa xb _ HRa5.out HRb5.out).mono ?_
          rintro e w10 ⟨he, hbq⟩
          rw [HPE.out] at he
          subst he
          have hb11 : Below w.heap.size w w10 := hb10.trans (hbq.mono hb10.size)
          go_wp2_with fail
          go_ret
          exact ⟨rfl, hb11⟩
    · obtain rfl := HBD.out hf0
      have hf1 : (f != 0) = true := by simp [hf0]
      clear HGD HBD hf0
      by_cases hin : dim < 1 ∨ 1024 < dim
      · have HIN := Lib.hid hin
        clear hin
        go_wp2_with fail
        refine (New_none dim _ HIN.out).mono ?_
        rintro e _ ⟨he, rfl⟩
        subst he
        go_wp2_with fail
        go_ret
        exact ⟨rfl, hb3⟩
      · obtain ⟨D, rfl⟩ : ∃ k : Nat, dim = k := ⟨dim.toNat, by omega⟩
        have hd1 : 1 ≤ D := by omega
        have hd2 : D ≤ 1024 := by omega
        clear hin
        go_wp2_with fail
        refine (New_calls D _ hd1 hd2).mono ?_
        rintro e w3 ⟨he, hit, hb4⟩
        subst he
        have hb5 := hb3.trans (hb4.mono hz3)
        clear hit
        go_wp2_with fail
        go_ret
        exact ⟨rfl, hb5⟩
end Go.Proofs.Ytgjcajffkhjlbaa
