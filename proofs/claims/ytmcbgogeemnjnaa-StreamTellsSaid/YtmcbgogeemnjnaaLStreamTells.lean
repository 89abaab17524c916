/-
  The statement StreamTells as a walk: it answers true and leaves all memory that was there as it was. Condition: the arguments are draws, three ints, and a number of 64 bits, within the form's reach.
-/
import Derived.Test.YtmcbgogeemnjnaaLaw06
import Derived.Test.YtmcbgogeemnjnaaOpen
namespace Go.Proofs.Ytmcbgogeemnjnaa
open Go.RowKit
set_option linter.unusedVariables false
set_option linter.unusedSimpArgs false

set_option maxHeartbeats 3200000 in
set_option maxRecDepth 100000 in
theorem StreamTells_law (scr : Bool) (dseed : Int) (A : Option Addr) (c : Nat) (l : List Int) (tree trees n seed : Int) (w : World) (hcl : l.length ≤ c) (hds : (Lit.int .u64 dseed).wf = true) (ha : Rd w .u64 A l) (hu : ∀ n ∈ l, (Lit.int .u64 n).wf = true)
    (htr : (Lit.int .i64 tree).wf = true) (htrs : (Lit.int .i64 trees).wf = true) (hn : (Lit.int .i64 n).wf = true) (hseed : (Lit.int .u64 seed).wf = true) :
    Calls Try.prog 8 #[.agg #[.bool scr, .int .u64 dseed, .slice A l.length c], .int .i64 tree, .int .i64 trees, .int .i64 n, .int .u64 seed] w fun e w' => e = .returned (.bool true) ∧ Below w.heap.size w w' := by
  have HU := Lib.hid (u64_of_wf hu)
  have KA := Lib.hid ha
  have lA := ha.1
  replace htr := i64_of_wf htr
  replace htrs := i64_of_wf htrs
  replace hn := i64_of_wf hn
  obtain ⟨htr1, htr2⟩ := htr
  obtain ⟨htrs1, htrs2⟩ := htrs
  obtain ⟨hn1, hn2⟩ := hn
  clear hu ha hds hseed
  by_cases h0 : 500 < l.length
  · have h0' : decide (500 < (l.length : Int)) = true := by simp; omega
    have k_w : Below w.heap.size w w := Below.refl _ _
    go_enter Try.func8, Try.ntmps8
    go_wp2_with fail
    obtain ⟨w1, hw⟩ : ∃ W, w.alloc (.cells #[.bool scr, .int .u64 dseed, .slice A l.length c] 51) = W := ⟨_, rfl⟩
    rw [hw]
    have hbn : Below w.heap.size w w1 := by rw [← hw]; exact below_alloc1 (Below.refl _ _) _
    have b3 : w1.heap[w.heap.size]? = some (.cells #[.bool scr, .int .u64 dseed, .slice A l.length c] 51 (0, 0)) := by rw [← hw]; exact heap_alloc_new _ _
    clear hw
    have k_w_w1 : Below w.heap.size w w1 := k_w.trans (hbn.mono k_w.size)
    clear k_w
    clear hbn
    have b2 := b3
    clear b3
    have h_d0 : w1.cell? ⟨w.heap.size, 0, none⟩ = some (.bool scr) := by simp [World.cell?, b2]
    have h_d1 : w1.cell? ⟨w.heap.size, 1, none⟩ = some (.int .u64 dseed) := by simp [World.cell?, b2]
    have h_d2 : w1.cell? ⟨w.heap.size, 2, none⟩ = some (.slice A l.length c) := by simp [World.cell?, b2]
    have b_d := Lib.hid b2
    clear b2
    go_wp2_with fail
    refine (awake6_calls _  ).mono ?_
    rintro e w2 ⟨he, hbn⟩
    subst he
    have k_w_w2 : Below w.heap.size w w2 := k_w_w1.trans (hbn.mono k_w_w1.size)
    clear k_w_w1
    have b2 := obj_below hbn b_d.out (obj_lt b_d.out)
    clear b_d h_d0 h_d1 h_d2
    have h_d0 : w2.cell? ⟨w.heap.size, 0, none⟩ = some (.bool scr) := by simp [World.cell?, b2]
    have h_d1 : w2.cell? ⟨w.heap.size, 1, none⟩ = some (.int .u64 dseed) := by simp [World.cell?, b2]
    have h_d2 : w2.cell? ⟨w.heap.size, 2, none⟩ = some (.slice A l.length c) := by simp [World.cell?, b2]
    have b_d := Lib.hid b2
    clear b2
    clear hbn
    go_wp2_with fail
    go_ret
    exact ⟨rfl, k_w_w2⟩
  have h0' : decide (500 < (l.length : Int)) = false := by simp; omega
  replace h0 : l.length ≤ 500 := by omega
  by_cases h1 : 1000 < trees
  · have h1' : decide (1000 < trees) = true := by simp; omega
    have k_w : Below w.heap.size w w := Below.refl _ _
    go_enter Try.func8, Try.ntmps8
    go_wp2_with fail
    obtain ⟨w1, hw⟩ : ∃ W, w.alloc (.cells #[.bool scr, .int .u64 dseed, .slice A l.length c] 51) = W := ⟨_, rfl⟩
    rw [hw]
    have hbn : Below w.heap.size w w1 := by rw [← hw]; exact below_alloc1 (Below.refl _ _) _
    have b3 : w1.heap[w.heap.size]? = some (.cells #[.bool scr, .int .u64 dseed, .slice A l.length c] 51 (0, 0)) := by rw [← hw]; exact heap_alloc_new _ _
    clear hw
    have k_w_w1 : Below w.heap.size w w1 := k_w.trans (hbn.mono k_w.size)
    clear k_w
    clear hbn
    have b2 := b3
    clear b3
    have h_d0 : w1.cell? ⟨w.heap.size, 0, none⟩ = some (.bool scr) := by simp [World.cell?, b2]
    have h_d1 : w1.cell? ⟨w.heap.size, 1, none⟩ = some (.int .u64 dseed) := by simp [World.cell?, b2]
    have h_d2 : w1.cell? ⟨w.heap.size, 2, none⟩ = some (.slice A l.length c) := by simp [World.cell?, b2]
    have b_d := Lib.hid b2
    clear b2
    go_wp2_with fail
    refine (awake6_calls _  ).mono ?_
    rintro e w2 ⟨he, hbn⟩
    subst he
    have k_w_w2 : Below w.heap.size w w2 := k_w_w1.trans (hbn.mono k_w_w1.size)
    clear k_w_w1
    have b2 := obj_below hbn b_d.out (obj_lt b_d.out)
    clear b_d h_d0 h_d1 h_d2
    have h_d0 : w2.cell? ⟨w.heap.size, 0, none⟩ = some (.bool scr) := by simp [World.cell?, b2]
    have h_d1 : w2.cell? ⟨w.heap.size, 1, none⟩ = some (.int .u64 dseed) := by simp [World.cell?, b2]
    have h_d2 : w2.cell? ⟨w.heap.size, 2, none⟩ = some (.slice A l.length c) := by simp [World.cell?, b2]
    have b_d := Lib.hid b2
    clear b2
    clear hbn
    go_wp2_with fail
    go_ret
    exact ⟨rfl, k_w_w2⟩
  have h1' : decide (1000 < trees) = false := by simp; omega
  replace h1 : trees ≤ 1000 := by omega
  by_cases h2 : 1000000 < n
  · have h2' : decide (1000000 < n) = true := by simp; omega
    have k_w : Below w.heap.size w w := Below.refl _ _
    go_enter Try.func8, Try.ntmps8
    go_wp2_with fail
    obtain ⟨w1, hw⟩ : ∃ W, w.alloc (.cells #[.bool scr, .int .u64 dseed, .slice A l.length c] 51) = W := ⟨_, rfl⟩
    rw [hw]
    have hbn : Below w.heap.size w w1 := by rw [← hw]; exact below_alloc1 (Below.refl _ _) _
    have b3 : w1.heap[w.heap.size]? = some (.cells #[.bool scr, .int .u64 dseed, .slice A l.length c] 51 (0, 0)) := by rw [← hw]; exact heap_alloc_new _ _
    clear hw
    have k_w_w1 : Below w.heap.size w w1 := k_w.trans (hbn.mono k_w.size)
    clear k_w
    clear hbn
    have b2 := b3
    clear b3
    have h_d0 : w1.cell? ⟨w.heap.size, 0, none⟩ = some (.bool scr) := by simp [World.cell?, b2]
    have h_d1 : w1.cell? ⟨w.heap.size, 1, none⟩ = some (.int .u64 dseed) := by simp [World.cell?, b2]
    have h_d2 : w1.cell? ⟨w.heap.size, 2, none⟩ = some (.slice A l.length c) := by simp [World.cell?, b2]
    have b_d := Lib.hid b2
    clear b2
    go_wp2_with fail
    refine (awake6_calls _  ).mono ?_
    rintro e w2 ⟨he, hbn⟩
    subst he
    have k_w_w2 : Below w.heap.size w w2 := k_w_w1.trans (hbn.mono k_w_w1.size)
    clear k_w_w1
    have b2 := obj_below hbn b_d.out (obj_lt b_d.out)
    clear b_d h_d0 h_d1 h_d2
    have h_d0 : w2.cell? ⟨w.heap.size, 0, none⟩ = some (.bool scr) := by simp [World.cell?, b2]
    have h_d1 : w2.cell? ⟨w.heap.size, 1, none⟩ = some (.int .u64 dseed) := by simp [World.cell?, b2]
    have h_d2 : w2.cell? ⟨w.heap.size, 2, none⟩ = some (.slice A l.length c) := by simp [World.cell?, b2]
    have b_d := Lib.hid b2
    clear b2
    clear hbn
    go_wp2_with fail
    go_ret
    exact ⟨rfl, k_w_w2⟩
  have h2' : decide (1000000 < n) = false := by simp; omega
  replace h2 : n ≤ 1000000 := by omega
  have hif := iface_nil
  obtain ⟨s, hs0⟩ : ∃ s, offT scr dseed l tree trees = s := ⟨_, rfl⟩
  have ES := Lib.hid hs0
  clear hs0
  have k_w : Below w.heap.size w w := Below.refl _ _
  go_enter Try.func8, Try.ntmps8
  go_wp2_with fail
  obtain ⟨w1, hw⟩ : ∃ W, w.alloc (.cells #[.bool scr, .int .u64 dseed, .slice A l.length c] 51) = W := ⟨_, rfl⟩
  rw [hw]
  have hbn : Below w.heap.size w w1 := by rw [← hw]; exact below_alloc1 (Below.refl _ _) _
  have b3 : w1.heap[w.heap.size]? = some (.cells #[.bool scr, .int .u64 dseed, .slice A l.length c] 51 (0, 0)) := by rw [← hw]; exact heap_alloc_new _ _
  clear hw
  have k_w_w1 : Below w.heap.size w w1 := k_w.trans (hbn.mono k_w.size)
  clear k_w
  clear hbn
  have b2 := b3
  clear b3
  have h_d0 : w1.cell? ⟨w.heap.size, 0, none⟩ = some (.bool scr) := by simp [World.cell?, b2]
  have h_d1 : w1.cell? ⟨w.heap.size, 1, none⟩ = some (.int .u64 dseed) := by simp [World.cell?, b2]
  have h_d2 : w1.cell? ⟨w.heap.size, 2, none⟩ = some (.slice A l.length c) := by simp [World.cell?, b2]
  have b_d := Lib.hid b2
  clear b2
  go_wp2_with fail
  refine (awake6_calls _  ).mono ?_
  rintro e w2 ⟨he, hbn⟩
  subst he
  have k_w_w2 : Below w.heap.size w w2 := k_w_w1.trans (hbn.mono k_w_w1.size)
  clear k_w_w1
  have b2 := obj_below hbn b_d.out (obj_lt b_d.out)
  clear b_d h_d0 h_d1 h_d2
  have h_d0 : w2.cell? ⟨w.heap.size, 0, none⟩ = some (.bool scr) := by simp [World.cell?, b2]
  have h_d1 : w2.cell? ⟨w.heap.size, 1, none⟩ = some (.int .u64 dseed) := by simp [World.cell?, b2]
  have h_d2 : w2.cell? ⟨w.heap.size, 2, none⟩ = some (.slice A l.length c) := by simp [World.cell?, b2]
  have b_d := Lib.hid b2
  clear b2
  clear hbn
  go_wp2_with fail
  go_region_held3 (fun w' => w'.cell? ⟨w.heap.size, 0, none⟩ = some (.bool scr) ∧ w'.cell? ⟨w.heap.size, 1, none⟩ = some (.int .u64 dseed) ∧ w'.cell? ⟨w.heap.size, 2, none⟩ = some (.slice A l.length c) ∧ Below w2.heap.size w2 w')
    (first | exact ⟨cell_below (B := w2.heap.size) (w := w2) (by repeat (first | assumption | exact Below.refl _ _ | apply below_drew1 | apply below_alloc1)) h_d0 (World.block_lt_of_cell? _ _ h_d0), cell_below (B := w2.heap.size) (w := w2) (by repeat (first | assumption | exact Below.refl _ _ | apply below_drew1 | apply below_alloc1)) h_d1 (World.block_lt_of_cell? _ _ h_d1), cell_below (B := w2.heap.size) (w := w2) (by repeat (first | assumption | exact Below.refl _ _ | apply below_drew1 | apply below_alloc1)) h_d2 (World.block_lt_of_cell? _ _ h_d2), (by repeat (first | assumption | exact Below.refl _ _ | apply below_drew1 | apply below_alloc1))⟩ | go_keep)
    (first
      | (go_at_call 25; go_split_ands; (with_reducible refine (sOf_calls scr dseed A c l tree trees _ ((KA.out.below k_w_w2).below (by repeat (first | assumption | exact Below.refl _ _ | apply below_drew1 | apply below_alloc1))) HU.out (by omega) (by omega)).mono ?_); rintro e w3 ⟨v, he, hs, hbn, T, p, rfl⟩; subst he; rw [ES.out] at hs; have hB2 : Below w2.heap.size w2 w3 := Below.after (by repeat (first | assumption | exact Below.refl _ _ | apply below_drew1 | apply below_alloc1)) hbn; have hlo : w.heap.size ≤ w2.heap.size := k_w_w2.size; have HS2 := Lib.hid (hs.wide (lo' := w.heap.size) (hi' := w3.heap.size) (Nat.le_trans hlo (Below.size (B := w2.heap.size) (by repeat (first | assumption | exact Below.refl _ _ | apply below_drew1 | apply below_alloc1)))) (Nat.le_refl _)); clear hs; have hbs : Below w3.heap.size w3 w3 := Below.refl _ _)
      | (go_at_call 26; go_split_ands; (with_reducible refine (refOf_calls scr dseed A c l tree trees _ ((KA.out.below k_w_w2).below (by repeat (first | assumption | exact Below.refl _ _ | apply below_drew1 | apply below_alloc1))) (by omega) (by omega)).mono ?_); rintro e w4 ⟨v, he, hr, hbn⟩; subst he; rw [ES.out] at hr; obtain ⟨bR, mixed, st, A', c', l', rfl, hr, hb1, hal, hst⟩ := hr; have hB3 : Below w2.heap.size w2 w4 := Below.after (by repeat (first | assumption | exact Below.refl _ _ | apply below_drew1 | apply below_alloc1)) hbn; have hszs := (Below.after (a := w3) (by repeat (first | assumption | exact Below.refl _ _ | apply below_drew1)) hbn : Below w3.heap.size w3 w4); have hb2 : w3.heap.size ≤ bR := Nat.le_trans (Below.size (B := w3.heap.size) (w := w3) (by repeat (first | assumption | exact Below.refl _ _ | apply below_drew1))) hb1; have hal2 : ∀ ad, 0 < l'.length → A' = some ad → w3.heap.size ≤ ad.block := fun ad x y => Nat.le_trans (Below.size (B := w3.heap.size) (w := w3) (by repeat (first | assumption | exact Below.refl _ _ | apply below_drew1))) (hal ad x y); clear hal hb1; have HS3 := Lib.hid ((At.of_src HS2.out).below hszs (Nat.le_refl _)); have HR := Lib.hid hr; have HAL := Lib.hid hal2; have HST := Lib.hid hst; clear hal2 hst hr)
    )
  have hbz : Below w2.heap.size w2 w4 := by assumption
  have k_w_w4 : Below w.heap.size w w4 := k_w_w2.trans (hbz.mono k_w_w2.size)
  clear k_w_w2
  have b2 := obj_below hbz b_d.out (obj_lt b_d.out)
  clear b_d h_d0 h_d1 h_d2
  have h_d0 : w4.cell? ⟨w.heap.size, 0, none⟩ = some (.bool scr) := by simp [World.cell?, b2]
  have h_d1 : w4.cell? ⟨w.heap.size, 1, none⟩ = some (.int .u64 dseed) := by simp [World.cell?, b2]
  have h_d2 : w4.cell? ⟨w.heap.size, 2, none⟩ = some (.slice A l.length c) := by simp [World.cell?, b2]
  have b_d := Lib.hid b2
  clear b2
  clear hbz
  obtain ⟨T, a, e1, hT⟩ := HS3.out.shape
  injection e1 with e1 e2
  subst e1 e2
  have mt := hT.meth a
  have ct := hT.call (.pointer (some a))
  have hzR : bR < w4.heap.size := obj_lt HR.out.1
  have hz23 := hB2.size
  clear HS2 hbs hbn h_d0 h_d1 h_d2 b_d hB2 hB3 ES
  go_wp2_with fail
  go_loopg [13] 20 (fun kq v13 w' => kq ≤ 20 ∧ v13 = .int .i64 ((20 - kq : Nat)) ∧ Below w.heap.size w w' ∧ At w' w.heap.size w3.heap.size (.iface T (.pointer (some a))) s (20 - kq) ∧ RefS w' bR mixed st A' c' l' (20 - kq))
  case atStart => exact ⟨Nat.le_refl _, by simp, k_w_w4, HS3.out, HR.out⟩
  case round =>
    clear HS3 HR
    obtain ⟨hk, rfl, HB, HS1, HR1⟩ := hrel
    have HS := Lib.hid HS1
    have HR := Lib.hid HR1
    have hzr := HB.size
    have hbr : bR < wr.heap.size := obj_lt HR1.1
    clear HS1 HR1
    cases gk with
    | zero =>
      simp only [Nat.sub_zero]
      clear HS HR
      by_cases hneg : n < 0
      · have hz0 : nth0 seed n = 0 := by unfold nth0; rw [if_pos hneg]
        have HZ0 := Lib.hid hz0
        have hneg' : decide (n < 0) = true := decide_eq_true hneg
        clear hz0
        go_wp2_with fail
        refine (sNth_calls seed n _).mono ?_
        rintro e w5 ⟨he, hb⟩
        rw [HZ0.out] at he
        subst he
        have hb5 := HB.trans (hb.mono hzr)
        clear hb
        go_wp2_with fail
        go_ret
        exact ⟨rfl, hb5⟩
      · have hz0 : nth0 seed n = nthOut seed n := by unfold nth0; rw [if_neg hneg]
        obtain ⟨q, hq⟩ : ∃ q, nthOut seed n = q := ⟨_, rfl⟩
        rw [hq] at hz0
        have HQ := Lib.hid hq
        have HZ0 := Lib.hid hz0
        have hneg' : decide (n < 0) = false := decide_eq_false hneg
        have hqq : (q == q) = true := by simp
        clear hz0 hq
        go_wp2_with fail
        refine (sNth_calls seed n _).mono ?_
        rintro e w5 ⟨he, hb⟩
        rw [HZ0.out] at he
        subst he
        have hb5 := HB.trans (hb.mono hzr)
        clear hb
        go_wp2_with fail
        refine (Nth_calls seed n _).mono ?_
        rintro e _ ⟨he, rfl⟩
        rw [HQ.out] at he
        subst he
        go_wp2_with fail
        go_ret
        exact ⟨rfl, hb5⟩
    | succ k1 =>
      obtain ⟨i, hi⟩ : ∃ i, 20 - (k1 + 1) = i := ⟨_, rfl⟩
      have hi2 : 20 - k1 = i + 1 := by omega
      have hin : i < 20 := by omega
      rw [hi] at HS HR ⊢
      have HI := Lib.hid hi2
      obtain ⟨q, hq⟩ : ∃ q, s i = q := ⟨_, rfl⟩
      have HQ := Lib.hid hq
      have hq2 : refS mixed st l' i = q := by rw [HST.out, hq]
      have HQ2 := Lib.hid hq2
      have t1 : (q != q) = false := by simp
      clear hi2 hq hq2
      go_wp2_with fail
      refine (HS.out.draw_calls (by omega)).mono ?_
      rintro e w5 ⟨he, hat, ho⟩
      rw [HQ.out] at he
      subst he
      have HS5 := Lib.hid hat
      have HR5 := Lib.hid (HR.out.only ho (by intro h; have := h.2; omega) (by intro ad hp he h; have := HAL.out ad hp he; have := h.2; omega))
      have hb5 := HB.trans (ho.below hzr (by intro k hk h; have := h.1; omega))
      have hz5 := hb5.size
      have hz6 := ho.size
      clear hat ho
      go_wp2_with fail
      refine (refDraw_calls bR mixed st A' c' l' i _ HR5.out (by omega)).mono ?_
      rintro e w6 ⟨he, hat, ho⟩
      rw [HQ2.out] at he
      subst he
      have HR6 := Lib.hid hat
      have HS6 := Lib.hid (HS5.out.only ho fun k hk1 hk2 h => by omega)
      have hb6 := hb5.trans (ho.below hz5 (by intro k hk h; omega))
      clear hat ho
      go_wp2_with fail
      go_roundg k1
      case measure => omega
      case rel =>
        rw [HI.out]
        exact ⟨by omega, rfl, hb6, HS6.out, HR6.out⟩
end Go.Proofs.Ytmcbgogeemnjnaa
