/-
  The statement VecNew as a walk: it answers true and leaves all memory that was there as it was. Condition: the two arguments read as lists of int32 within the form's reach.
-/
import Derived.Test.YtgjcajffkhjlbaaLaw03
namespace Go.Proofs.Ytgjcajffkhjlbaa
open Go.RowKit
set_option linter.unusedVariables false
set_option linter.unusedSimpArgs false

theorem VecNew_law (A : Option Addr) (c : Nat) (xs : List Int) (B : Option Addr) (d : Nat) (ys : List Int) (w : World) (ha : Rd w .i32 A xs) (ra : ∀ n ∈ xs, (Lit.int .i32 n).wf = true) (na : A = none → xs = [] ∧ c = 0) (la : xs.length * 4 ≤ 140737488351232)
    (hb : Rd w .i32 B ys) (rb : ∀ n ∈ ys, (Lit.int .i32 n).wf = true) (nb : B = none → ys = [] ∧ d = 0) (lb : ys.length * 4 ≤ 140737488351232) :
    Calls Try.prog 3 #[.slice A xs.length c, .slice B ys.length d] w fun e w' => e = .returned (.bool true) ∧ Below w.heap.size w w' := by
  clear ra rb na nb
  by_cases hf : xs.length ≤ 1100 ∧ ys.length ≤ 1100
  · have hfew := Lib.hid (few_calls A B xs.length ys.length c d)
    rw [decide_eq_true hf] at hfew
    go_enter Try.func3, Try.ntmps3
    go_wp2_with fail
    refine (awake_calls _).mono ?_
    rintro e w1 ⟨rfl, hb1⟩
    go_wp2_with fail
    refine (hfew.out _).mono ?_
    rintro e _ ⟨rfl, rfl⟩
    obtain ⟨hf1, hf2⟩ := hf
    go_wp2_with (first
      | (at_builtin; refine wpList_appI _ rfl (.tmp 17) (.tmp 18) 22 21 rfl .i32 4 Try.underlying22 info_i32 (by omega) w1.heap.size _ [] rfl A c xs rfl (Own.empty w1 _ _) w1 ((Below.refl _ _).alloc (Nat.le_refl _) _) (by simp) ((ha.below hb1).alloc _) (by simp; omega) ?_; intro v1 w2 ho1 hgrow1 hbel1 hat1 hnil1; clear hat1 hnil1 hgrow1; rw [List.nil_append] at ho1; have HO1 := Lib.hid ho1; clear ho1; have hb2 : Below w.heap.size w w2 := hb1.trans (hbel1.mono hb1.size))
      | (at_builtin; refine wpList_appI _ rfl (.tmp 20) (.tmp 21) 22 21 rfl .i32 4 Try.underlying22 info_i32 (by omega) w2.heap.size _ [] rfl B d ys rfl (Own.empty w2 _ _) w2 ((Below.refl _ _).alloc (Nat.le_refl _) _) (by simp) ((hb.below hb2).alloc _) (by simp; omega) ?_; intro v2 w3 ho2 hgrow2 hbel2 hat2 hnil2; clear hat2 hnil2 hgrow2; rw [List.nil_append] at ho2; have HO2 := Lib.hid ho2; clear ho2; have hb3 : Below w.heap.size w w3 := hb2.trans (hbel2.mono hb2.size))
      | (go_at_call 20; refine (Clone_calls A c xs _ (ha.below hb3) (by omega)).mono ?_; rintro e w4 ⟨v3, rfl, ho3, _, hbel3⟩; have HO3 := Lib.hid ho3; clear ho3; have hb4 : Below w.heap.size w w4 := hb3.trans (hbel3.mono hb3.size))
      | (go_at_call 21; refine (Less_calls A B c d xs ys _ (ha.below hb4) (hb.below hb4) (by omega)).mono ?_; rintro e w5 ⟨v4, rfl, ho4, hbel4, hblk4⟩; have HO4 := Lib.hid ho4; have HB4 := Lib.hid hblk4; clear ho4 hblk4; have hb5 : Below w.heap.size w w5 := hb4.trans (hbel4.mono hb4.size)))
    obtain ⟨A3, c3, rfl, hc3, hrd3⟩ := HO3.out.shape
    obtain ⟨A4, c4, rfl, hc4, hrd4⟩ := HO4.out.shape
    obtain ⟨A1, c1, rfl, hc1, hR1⟩ := (HO1.out.keep hbel2).shape
    obtain ⟨A2, c2, rfl, hc2, hR2⟩ := HO2.out.shape
    have R1 := Lib.hid hR1
    have R2 := Lib.hid hR2
    have R3 := Lib.hid (ha.below hb3)
    have R4 := Lib.hid (hb.below hb3)
    clear hR1 hR2 HO1 HO2
    have hb35 : Below w3.heap.size w3 w5 := hbel3.trans (hbel4.mono hbel3.size)
    obtain ⟨n4, hn4⟩ : ∃ n, (less xs ys).length = n := ⟨_, rfl⟩
    rw [hn4] at HO4 HB4 hc4 ⊢
    have hn4' : n4 ≤ 1100 := by rw [← hn4]; simp [less, lessN]; omega
    clear hn4 hrd3 hrd4
    have HW : Hid (Own w5 w3.heap.size 21 .i32 (.slice A3 xs.length c3) xs) := HO3.out.keep hbel4
    have hz5 := hbel4.size
    have hz4 := hbel3.size
    go_loopg [9] xs.length (fun kq v9 w' => kq ≤ xs.length ∧ v9 = .int .i64 ((xs.length - kq : Nat)) ∧ (∃ L : List Int, Hid (Own w' w3.heap.size 21 .i32 (.slice A3 xs.length c3) L)) ∧ Below w3.heap.size w5 w' ∧ (∃ L : List Int, Hid (Own w' w4.heap.size 21 .i32 (.slice A4 n4 c4) L)))
    case atStart => exact ⟨Nat.le_refl _, by simp, ⟨_, HW⟩, Below.refl _ _, ⟨_, HO4⟩⟩
    case round =>
      obtain ⟨hk, rfl, ⟨L, HL⟩, hbl, ⟨M, HM⟩⟩ := hrel
      have hlL : xs.length = L.length := HL.out.rd.1
      cases gk with
      | zero =>
        simp only [Nat.sub_zero]
        clear hlL
        go_wp2
        obtain ⟨w6, rfl⟩ : ∃ w6 : World, w6 = wr := ⟨_, rfl⟩
        have hb36 : Below w3.heap.size w3 w6 := hb35.trans hbl
        have hz6 := hbl.size
        go_loopg [10] n4 (fun kq v10 w' => kq ≤ n4 ∧ v10 = .int .i64 ((n4 - kq : Nat)) ∧ (∃ L : List Int, Hid (Own w' w4.heap.size 21 .i32 (.slice A4 n4 c4) L)) ∧ Below w4.heap.size w6 w')
        case atStart => exact ⟨Nat.le_refl _, by simp, ⟨_, HM⟩, Below.refl _ _⟩
        case round =>
          obtain ⟨hk, rfl, ⟨L2, HL2⟩, hbl2⟩ := hrel
          have hlL : n4 = L2.length := HL2.out.rd.1
          cases gk with
          | zero =>
            simp only [Nat.sub_zero]
            clear hlL
            have hb3r : Below w3.heap.size w3 wr := hb36.trans (hbl2.mono hz4)
            have hz3 := hb3.size
            have hb7 : Below w.heap.size w wr := hb3.trans (hb3r.mono hz3)
            go_wp2_with fail
            refine (refSame_b A A1 c c1 xs xs _ (R3.out.below hb3r) (R1.out.below hb3r)).mono ?_
            rintro e w7 ⟨rfl, hb8⟩
            rw [decide_eq_true (rfl : xs = xs)]
            have hb3s : Below w3.heap.size w3 w7 := hb3r.trans (hb8.mono hb3r.size)
            go_wp2_with fail
            refine (refSame_b B A2 d c2 ys ys _ (R4.out.below hb3s) (R2.out.below hb3s)).mono ?_
            rintro e w8 ⟨rfl, hb9⟩
            rw [decide_eq_true (rfl : ys = ys)]
            have hb10 : Below w.heap.size w w8 := hb3.trans ((hb3s.trans (hb9.mono hb3s.size)).mono hz3)
            have hx : ((xs.length : Int) == (xs.length : Int)) = true := by simp
            clear hb8 hb9
            go_wp2
            go_ret
            exact ⟨rfl, hb10⟩
          | succ k1 =>
            obtain ⟨i, hi⟩ : ∃ i, n4 - (k1 + 1) = i := ⟨_, rfl⟩
            have hi2 : n4 - k1 = i + 1 := by omega
            have HI := Lib.hid hi2
            have hin : i < n4 := by omega
            rw [hi]
            obtain ⟨g, rfl, hg1, hg2, hcell, hfr, hset, _⟩ := HL2.out.at_ i hin
            have HS := Lib.hid hset
            generalize L2.getD i 0 = x at *
            clear hi hi2 hlL hset
            go_wp2
            go_roundg k1
            case rel => exact ⟨by omega, by rw [HI.out]; rfl, ⟨_, HS.out _⟩, below_set hbl2 hg1 _ _⟩
            case measure => omega
      | succ k1 =>
        obtain ⟨i, hi⟩ : ∃ i, xs.length - (k1 + 1) = i := ⟨_, rfl⟩
        have hi2 : xs.length - k1 = i + 1 := by omega
        have HI := Lib.hid hi2
        have hin : i < xs.length := by omega
        rw [hi]
        obtain ⟨g, rfl, hg1, hg2, hcell, hfr, hset, _⟩ := HL.out.at_ i hin
        have HS := Lib.hid hset
        have hM2 : ∀ b, (Value.slice A4 n4 c4).ownBlock = some b → ¬ b = g := by
          intro b hb e
          subst e
          have h1 := (HM.out.lt b hb).1
          have h2 := (HO3.out.lt b rfl).2
          omega
        have HM2 := Lib.hid hM2
        generalize L.getD i 0 = x at *
        clear hi hi2 hlL hset hM2
        go_wp2
        go_roundg k1
        case rel => exact ⟨by omega, by rw [HI.out]; rfl, ⟨_, HS.out _⟩, below_set hbl hg1 _ _, ⟨_, HM.out.only (only_set _ _ _ _) HM2.out⟩⟩
        case measure => omega
  · have hfew := Lib.hid (few_calls A B xs.length ys.length c d)
    rw [decide_eq_false hf] at hfew
    go_enter Try.func3, Try.ntmps3
    go_wp2_with fail
    refine (awake_calls _).mono ?_
    rintro e w1 ⟨rfl, hb1⟩
    go_wp2_with fail
    refine (hfew.out _).mono ?_
    rintro e _ ⟨rfl, rfl⟩
    go_wp2_with fail
    go_ret
    exact ⟨rfl, hb1⟩
end Go.Proofs.Ytgjcajffkhjlbaa
