/-
  The statement DataOf as a walk: it answers true and leaves all memory that was there as it was. Condition: the arguments are an int, a list of lists of int32, an int, and a list of int32, within the form's reach.
-/
import Derived.Test.YtgjcajffkhjlbaaLaw10
namespace Go.Proofs.Ytgjcajffkhjlbaa
open Go.RowKit
set_option linter.unusedVariables false
set_option linter.unusedSimpArgs false

set_option maxHeartbeats 3200000 in
set_option maxRecDepth 100000 in
theorem DataOf_law (dim : Int) (A : Option Addr) (c : Nat) (ls : List (List Int)) (id : Int) (B : Option Addr) (d : Nat) (ys : List Int) (w : World)
    (hdim : (Lit.int .i64 dim).wf = true) (hlc : ls.length ≤ c) (ha : Rows w .i32 A ls) (hwf : ∀ xs ∈ ls, ∀ n ∈ xs, (Lit.int .i32 n).wf = true) (hid : (Lit.int .i64 id).wf = true) (hb : Rd w .i32 B ys) (rb : ∀ n ∈ ys, (Lit.int .i32 n).wf = true) (nb : B = none → ys = [] ∧ d = 0) (lb : ys.length * 4 ≤ 140737488351232) :
    Calls Try.prog 16 #[.int .i64 dim, .slice A ls.length c, .int .i64 id, .slice B ys.length d] w fun e w' => e = .returned (.bool true) ∧ Below w.heap.size w w' := by
  have KA := Lib.hid ha
  have KB := Lib.hid hb
  have RB := Lib.hid (r32_of_wf rb)
  have RA : Hid (∀ k, k < ls.length → R32 (ls.getD k [])) := Lib.hid fun k hk => r32_of_wf (hwf _ (by simp [List.getD, hk]))
  have lA := ha.1
  have hid2 := Lib.hid (i64_of_wf hid)
  clear hdim ha hwf hid hb rb nb
  by_cases hv : 2000 < ys.length
  · have hv' : decide (2000 < (ys.length : Int)) = true := by simp; omega
    go_enter Try.func16, Try.ntmps16
    go_wp2_with fail
    refine (awake10_calls _).mono ?_
    rintro e w1 ⟨he, hb1⟩
    subst he
    go_wp2_with fail
    refine (Few_calls A c ls _ (KA.out.below hb1)).mono ?_
    rintro e _ ⟨bo, he, _, rfl⟩
    subst he
    cases bo
    · go_wp2_with fail
      go_ret
      exact ⟨rfl, hb1⟩
    · go_wp2_with fail
      go_ret
      exact ⟨rfl, hb1⟩
  have hv' : decide (2000 < (ys.length : Int)) = false := by simp; omega
  replace hv : ys.length ≤ 2000 := by omega
  have hbe : (binOp .eql 46 (.pointer none) (.pointer none)).run Try.prog = (binOp .eql 46 (.pointer none) (.pointer none)).run Try.prog := rfl
  clear hbe
  go_enter Try.func16, Try.ntmps16
  go_wp2_with fail
  refine (awake10_calls _).mono ?_
  rintro e w1 ⟨he, hb1⟩
  subst he
  have hz1 := hb1.size
  go_wp2_with fail
  refine (Few_calls A c ls _ (KA.out.below hb1)).mono ?_
  rintro e _ ⟨bo, he, hfew, rfl⟩
  subst he
  cases bo with
  | false =>
    go_wp2_with fail
    go_ret
    exact ⟨rfl, hb1⟩
  | true =>
    have hl := hfew rfl
    clear hfew
    go_wp2_with fail
    refine (Of_calls dim A c ls _ (KA.out.below hb1) (by omega)).mono ?_
    rintro e w2 ⟨v, f, he, hf, hbad, hgood, hb2⟩
    subst he
    have hb3 : Below w.heap.size w w2 := hb1.trans (hb2.mono hz1)
    have hz3 := hb3.size
    have HF := Lib.hid hf
    have HGD := Lib.hid hgood
    have HBD := Lib.hid hbad
    clear hgood hbad hf
    by_cases hf0 : f = 0
    · subst hf0
      obtain ⟨b, rfl, hlo, hit⟩ := HGD.out rfl
      have HI := Lib.hid hit
      have hblt := hit.lt
      clear HGD HBD hit
      go_wp2_with fail
      refine (refCheckL_calls dim A c ls _ (KA.out.below hb3) (by omega)).mono ?_
      rintro e _ ⟨he, rfl⟩
      rw [HF.out] at he
      subst he
      go_wp2_with fail
      refine (Len_calls b _ _ _ HI.out).mono ?_
      rintro e w3 ⟨he, m, rfl⟩
      subst he
      obtain ⟨w3, hw3⟩ : ∃ W, w2.drewN m = W := ⟨_, rfl⟩
      have hb4 : Below w.heap.size w w3 := by rw [← hw3]; exact below_drewN hb3 m
      have HI3 := Lib.hid (show It w3 b _ ls by rw [← hw3]; exact HI.out.drewN m)
      have hz4 := hb4.size
      rw [hw3]
      clear hw3 HI
      by_cases ho : id < 0 ∨ (ls.length : Int) ≤ id
      · have HO := Lib.hid ho
        by_cases h1 : id < 0
        · have h1' : decide (id < 0) = true := decide_eq_true h1
          clear ho
          go_wp2_with fail
          refine (At_none b _ ls id _ HI3.out HO.out).mono ?_
          rintro e w5 ⟨he, hb5⟩
          subst he
          have hb6 : Below w.heap.size w w5 := hb4.trans (hb5.mono hz4)
          have HI5 := Lib.hid (HI3.out.below hb5)
          clear hb5
          go_wp2_with fail
          refine (iFar_none b _ ls id B d ys _ HI5.out HO.out (KB.out.below hb6) RB.out).mono ?_
          rintro e w6 ⟨he, hb7⟩
          subst he
          have hb8 : Below w.heap.size w w6 := hb6.trans (hb7.mono hb6.size)
          go_wp2_with fail
          go_ret
          exact ⟨rfl, hb8⟩
        · have h1' : decide (id < 0) = false := decide_eq_false h1
          have h2' : decide ((ls.length : Int) ≤ id) = true := decide_eq_true (by omega)
          clear ho
          go_wp2_with fail
          refine (At_none b _ ls id _ HI3.out HO.out).mono ?_
          rintro e w5 ⟨he, hb5⟩
          subst he
          have hb6 : Below w.heap.size w w5 := hb4.trans (hb5.mono hz4)
          have HI5 := Lib.hid (HI3.out.below hb5)
          clear hb5
          go_wp2_with fail
          refine (iFar_none b _ ls id B d ys _ HI5.out HO.out (KB.out.below hb6) RB.out).mono ?_
          rintro e w6 ⟨he, hb7⟩
          subst he
          have hb8 : Below w.heap.size w w6 := hb6.trans (hb7.mono hb6.size)
          go_wp2_with fail
          go_ret
          exact ⟨rfl, hb8⟩
      · obtain ⟨k, rfl⟩ : ∃ k : Nat, id = k := ⟨id.toNat, by omega⟩
        have hk : k < ls.length := by omega
        have h1' : decide ((k : Int) < 0) = false := decide_eq_false (by omega)
        have h2' : decide (ls.length ≤ k) = false := decide_eq_false (by omega)
        clear ho
        have hRX := RA.out k hk
        obtain ⟨xs, hxs⟩ : ∃ xs, ls.getD k [] = xs := ⟨_, rfl⟩
        have HXS := Lib.hid hxs
        rw [hxs] at hRX
        have RX := Lib.hid hRX
        obtain ⟨q, hq⟩ : ∃ q, wrap64 (far xs ys) = q := ⟨_, rfl⟩
        have HQ := Lib.hid hq
        have hqq : (q == q) = true := by simp
        clear hxs hRX hq
        go_wp2_with fail
        refine (At_calls b _ ls k _ HI3.out hk).mono ?_
        rintro e w5 ⟨v, he, hown, hb5⟩
        subst he
        rw [HXS.out] at hown
        obtain ⟨A1, c1, rfl, hc1, hr1⟩ := hown.shape
        have HR1 := Lib.hid hr1
        have hb6 : Below w.heap.size w w5 := hb4.trans (hb5.mono hz4)
        have HI5 := Lib.hid (HI3.out.below hb5)
        obtain ⟨ad, B2, c2, rfl, hcell, hc2, hrd⟩ := (KA.out.below hb6).2 k hk
        rw [HXS.out] at hcell hc2 hrd
        have HRD := Lib.hid hrd
        have hadl := World.block_lt_of_cell? _ _ hcell
        clear hown hr1 hb5 hrd
        go_wp2_with fail
        go_region_held3 (fun w' => w'.cell? (ad.add k) = some (.slice B2 xs.length c2) ∧ Below w5.heap.size w5 w')
          (first | exact ⟨cell_below (B := w5.heap.size) (w := w5) (by repeat (first | assumption | exact Below.refl _ _ | apply below_drew1 | apply below_alloc1)) hcell hadl, (by repeat (first | assumption | exact Below.refl _ _ | apply below_drew1 | apply below_alloc1))⟩ | go_keep)
          (first
            | (go_at_call 22; go_split_ands; (with_reducible refine (refSame_b A1 B2 c1 c2 xs xs _ (HR1.out.below (by repeat (first | assumption | exact Below.refl _ _ | apply below_drew1 | apply below_alloc1))) (HRD.out.below (by repeat (first | assumption | exact Below.refl _ _ | apply below_drew1 | apply below_alloc1)))).mono ?_); rintro e w6 ⟨he, hbn⟩; rw [decide_eq_true (rfl : xs = xs)] at he; subst he; have hB6 : Below w5.heap.size w5 w6 := Below.after (by repeat (first | assumption | exact Below.refl _ _ | apply below_drew1 | apply below_alloc1)) hbn)
            | (go_at_call 54; go_split_ands; (with_reducible refine (iFar_calls b _ ls k B d ys _ (HI5.out.below (by repeat (first | assumption | exact Below.refl _ _ | apply below_drew1 | apply below_alloc1))) hk (by rw [HXS.out]; exact RX.out) ((KB.out.below hb6).below (by repeat (first | assumption | exact Below.refl _ _ | apply below_drew1 | apply below_alloc1))) RB.out).mono ?_); rintro e w7 ⟨he, hbn⟩; rw [HXS.out, HQ.out] at he; subst he; have hB7 : Below w5.heap.size w5 w7 := Below.after (by repeat (first | assumption | exact Below.refl _ _ | apply below_drew1 | apply below_alloc1)) hbn)
            | (go_at_call 41; go_split_ands; (with_reducible refine (refFar_b B2 B c2 d xs ys _ (HRD.out.below (by repeat (first | assumption | exact Below.refl _ _ | apply below_drew1 | apply below_alloc1))) ((KB.out.below hb6).below (by repeat (first | assumption | exact Below.refl _ _ | apply below_drew1 | apply below_alloc1))) RX.out RB.out).mono ?_); rintro e w8 ⟨he, hbn⟩; rw [HQ.out] at he; subst he; have hB8 : Below w5.heap.size w5 w8 := Below.after (by repeat (first | assumption | exact Below.refl _ _ | apply below_drew1 | apply below_alloc1)) hbn))
        have hb9 : Below w.heap.size w w8 := hb6.trans (hB8.mono hb6.size)
        go_wp2_with fail
        go_ret
        exact ⟨rfl, hb9⟩
    · obtain rfl := HBD.out hf0
      have hf1 : (f != 0) = true := by simp [hf0]
      have hff : (f == f) = true := by simp
      clear HGD HBD hf0
      go_wp2_with fail
      refine (refCheckL_calls dim A c ls _ (KA.out.below hb3) (by omega)).mono ?_
      rintro e _ ⟨he, rfl⟩
      rw [HF.out] at he
      subst he
      go_wp2_with fail
      go_ret
      exact ⟨rfl, hb3⟩
end Go.Proofs.Ytgjcajffkhjlbaa
