/-
  The heap of numbers: Len, Peek, sink, Pop, New. Condition: the heap's blocks are as the word Hp says; no more than a million numbers.
-/
import Derived.Test.YtacgkoclammggaaHeap
namespace Go.Proofs.Ytacgkoclammggaa
open Go.RowKit
set_option linter.unusedVariables false
set_option linter.unusedSimpArgs false

theorem HLen_calls (b lo : Nat) (v : Value) (l : List Int) (w : World) (h : Hp w b lo v l) :
    Calls Try.prog 26 #[.pointer (some ⟨b, 0, none⟩)] w fun e w' => e = .returned (.int .i64 l.length) ∧ ∃ n, w' = w.drewN n := by
  obtain ⟨h1, h2, h3, h4⟩ := h
  obtain ⟨A, c, rfl, hlc, hrd⟩ := h2.shape
  have hc1 : w.cell? ⟨b, 1, none⟩ = some (.slice A l.length c) := by simp [World.cell?, h1]
  clear h1 h2 hrd
  go_enter Try.func26, Try.ntmps26
  go_wp2_with fail
  go_ret
  exact ⟨rfl, 0, rfl⟩
theorem Peek_none (b lo : Nat) (v : Value) (w : World) (h : Hp w b lo v []) :
    Calls Try.prog 24 #[.pointer (some ⟨b, 0, none⟩)] w fun e w' => e = .returned (.tuple #[.int .i64 0, .bool false]) ∧ ∃ n, w' = w.drewN n := by
  obtain ⟨h1, h2, h3, h4⟩ := h
  obtain ⟨A, c, rfl, hlc, hrd⟩ := h2.shape
  have hc1 : w.cell? ⟨b, 1, none⟩ = some (.slice A 0 c) := by simp [World.cell?, h1]
  clear h1 h2 hrd
  go_enter Try.func24, Try.ntmps24
  go_wp2_with fail
  go_ret2
  exact ⟨rfl, 0, rfl⟩
theorem Peek_some (b lo : Nat) (v : Value) (x : Int) (l : List Int) (w : World) (h : Hp w b lo v (x :: l)) :
    Calls Try.prog 24 #[.pointer (some ⟨b, 0, none⟩)] w fun e w' => e = .returned (.tuple #[.int .i64 x, .bool true]) ∧ ∃ n, w' = w.drewN n := by
  obtain ⟨h1, h2, h3, h4⟩ := h
  obtain ⟨A, c, rfl, hlc, hrd⟩ := h2.shape
  obtain ⟨g, rfl, _, _, hc0, hf0, _, _⟩ := h2.at_ 0 (by simp)
  have hc1 : w.cell? ⟨b, 1, none⟩ = some (.slice (some ⟨g, 0, none⟩) (l.length + 1) c) := by simp [World.cell?, h1]
  have hcx : w.cell? ⟨g, 0, none⟩ = some (.int .i64 x) := by simpa using hc0
  have hne : (((l.length + 1 : Nat) : Int) == 0) = false := by simp; omega
  have hb0 : (0 : Int) < (l.length : Int) + 1 := by omega
  clear h1 h2 hrd hc0
  go_enter Try.func24, Try.ntmps24
  go_wp2_with fail
  go_ret2
  exact ⟨rfl, 0, rfl⟩

/-! ### sink -/
def bst (L : List Int) (n best kid : Nat) : Nat := if kid < n ∧ L.getD kid 0 < L.getD best 0 then kid else best
theorem bst_done {L : List Int} {k : Nat} (h : DownOk ltI L k) (hl : bst L L.length (bst L L.length k (2 * k + 1)) (2 * k + 2) = k) : HeapOk ltI L := by
  refine h.stop fun i a b h0 hp ha hb => ?_
  have hil := get_lt ha
  have hkl := get_lt hb
  have ea : L.getD i 0 = a := by simp [List.getD, ha]
  have eb : L.getD k 0 = b := by simp [List.getD, hb]
  have h1 : bst L L.length k (2 * k + 1) = k := by
    unfold bst at hl ⊢
    split
    · rename_i hh
      rw [if_pos hh] at hl
      split at hl <;> omega
    · rfl
  rw [h1] at hl
  have hi : i = 2 * k + 1 ∨ i = 2 * k + 2 := by omega
  refine decide_eq_false fun hlt => ?_
  rcases hi with hi | hi
  · rw [← hi] at h1
    unfold bst at h1
    rw [if_pos ⟨hil, by rw [ea, eb]; exact hlt⟩] at h1
    omega
  · rw [← hi] at hl
    unfold bst at hl
    rw [if_pos ⟨hil, by rw [ea, eb]; exact hlt⟩] at hl
    omega
theorem bst_swap {L : List Int} {k j : Nat} {a b : Int} (h : DownOk ltI L k) (hk : k < L.length) (hl : bst L L.length (bst L L.length k (2 * k + 1)) (2 * k + 2) = j) (hj : j ≠ k) (ha : L.getD k 0 = a) (hb : L.getD j 0 = b) : j < L.length ∧ k < j ∧ DownOk ltI (swp L k j b a) j := by
  have hkid : ∀ i x, 0 < i → (i - 1) / 2 = k → L[i]? = some x → (i = 2 * k + 1 ∨ i = 2 * k + 2) ∧ i < L.length ∧ L.getD i 0 = x := fun i x h0 hp hx => ⟨by omega, get_lt hx, by simp [List.getD, hx]⟩
  unfold bst at hl
  by_cases h1 : 2 * k + 1 < L.length ∧ L.getD (2 * k + 1) 0 < L.getD k 0
  · rw [if_pos h1] at hl
    by_cases h2 : 2 * k + 2 < L.length ∧ L.getD (2 * k + 2) 0 < L.getD (2 * k + 1) 0
    · rw [if_pos h2] at hl
      subst hl
      refine ⟨h2.1, by omega, h.swap ltI_wo (by omega) (by omega) (ha ▸ get_getD hk) (hb ▸ get_getD h2.1) (decide_eq_true (by omega)) fun i x h0 hp hx => ?_⟩
      obtain ⟨hi, hil, hxx⟩ := hkid i x h0 hp hx
      refine decide_eq_false fun hlt => ?_
      rcases hi with rfl | rfl <;> omega
    · rw [if_neg h2] at hl
      subst hl
      refine ⟨h1.1, by omega, h.swap ltI_wo (by omega) (by omega) (ha ▸ get_getD hk) (hb ▸ get_getD h1.1) (decide_eq_true (by omega)) fun i x h0 hp hx => ?_⟩
      obtain ⟨hi, hil, hxx⟩ := hkid i x h0 hp hx
      refine decide_eq_false fun hlt => ?_
      rcases hi with rfl | rfl
      · omega
      · exact h2 ⟨hil, by omega⟩
  · rw [if_neg h1] at hl
    by_cases h2 : 2 * k + 2 < L.length ∧ L.getD (2 * k + 2) 0 < L.getD k 0
    · rw [if_pos h2] at hl
      subst hl
      refine ⟨h2.1, by omega, h.swap ltI_wo (by omega) (by omega) (ha ▸ get_getD hk) (hb ▸ get_getD h2.1) (decide_eq_true (by omega)) fun i x h0 hp hx => ?_⟩
      obtain ⟨hi, hil, hxx⟩ := hkid i x h0 hp hx
      refine decide_eq_false fun hlt => ?_
      rcases hi with rfl | rfl
      · exact h1 ⟨hil, by omega⟩
      · omega
    · rw [if_neg h2] at hl
      exact absurd hl.symm hj
theorem bst_lt {L : List Int} {n best kid : Nat} (h : best < n ∨ ¬ kid < n) : bst L n best kid < n ∨ bst L n best kid = best := by
  unfold bst
  split
  · rename_i hh; exact .inl hh.1
  · exact .inr rfl
theorem quiet_add {P : Program} {f : FuncId} {args : Array Value} {w : World} {q x : Nat} {v : Value} (h : Calls P f args (w.drewN (q + x)) fun e w' => e = .returned v ∧ ∃ n, w' = (w.drewN (q + x)).drewN n) : Calls P f args (w.drewN (q + x)) fun e w' => e = .returned v ∧ ∃ n, w' = w.drewN (q + n) :=
  h.mono (by rintro e w' ⟨h1, n, rfl⟩; exact ⟨h1, x + n, by rw [World.drewN_drewN, Nat.add_assoc]⟩)
theorem index2 (a b : Int) (w : World) : (Instr.index 157 (.agg #[.int .i64 a, .int .i64 b]) (.int .i64 0)).run Try.prog w = .ok (.int .i64 a) w ∧ (Instr.index 157 (.agg #[.int .i64 a, .int .i64 b]) (.int .i64 1)).run Try.prog w = .ok (.int .i64 b) w := by
  constructor <;> simp [Instr.index, asIntOf, run_underlying Try.underlying157, part, isAgg, run_underlying Try.underlying3, go_sem]
set_option maxHeartbeats 6400000 in
set_option maxRecDepth 1000000 in
theorem sink_calls (b lo : Nat) (A : Option Addr) (n c : Nat) (l : List Int) (w : World) (h : Hp w b lo (.slice A n c) l) (hln : l.length = n) (hok : DownOk ltI l 0) (hl : n ≤ 1000000) :
    Calls Try.prog 68 #[.pointer (some ⟨b, 0, none⟩)] w fun e w' => e = .returned (.tuple #[]) ∧ ∃ l', Hp w' b lo (.slice A n c) l' ∧ HeapOk ltI l' ∧ l'.Perm l ∧ Only (HpB (.slice A n c) b) w w' := by
  have HH := Lib.hid h
  have HOK := Lib.hid hok
  clear h hok
  go_enter Try.func68, Try.ntmps68
  go_wp2_with fail
  go_loopg [2] n (fun kq v2 w' => ∃ (k : Nat) (L : List Int), n ≤ k + kq ∧ k ≤ n ∧ v2 = .int .i64 ((k : Nat) : Int) ∧ Hp w' b lo (.slice A n c) L ∧ L.length = n ∧ DownOk ltI L k ∧ L.Perm l ∧ Only (HpB (.slice A n c) b) w w')
  case atStart => exact ⟨0, l, by omega, by omega, rfl, HH.out, hln, HOK.out, List.Perm.refl _, Only.refl _ _⟩
  case round =>
    clear HH HOK hln
    obtain ⟨k, L, hkq, hkn, rfl, hH, hLl, hdn, hpm, hon⟩ := hrel
    obtain ⟨m, hm⟩ : ∃ m, 2 * k = m := ⟨_, rfl⟩
    obtain ⟨k1, hk1⟩ : ∃ m, 2 * k + 1 = m := ⟨_, rfl⟩
    obtain ⟨k2, hk2⟩ : ∃ m, 2 * k + 2 = m := ⟨_, rfl⟩
    have hw0 : IntKind.i64.wrap (2 * (k : Int)) = (m : Int) := by rw [i64_w, show 2 * (k : Int) = (m : Int) by omega]; exact wrap64_id _ (by omega)
    have hw1 : IntKind.i64.wrap ((m : Int) + 1) = (k1 : Int) := by rw [i64_w, show (m : Int) + 1 = (k1 : Int) by omega]; exact wrap64_id _ (by omega)
    have hw2 : IntKind.i64.wrap ((m : Int) + 2) = (k2 : Int) := by rw [i64_w, show (m : Int) + 2 = (k2 : Int) by omega]; exact wrap64_id _ (by omega)
    obtain ⟨b1, hb1⟩ : ∃ m, bst L n k k1 = m := ⟨_, rfl⟩
    obtain ⟨b2, hb2⟩ : ∃ m, bst L n b1 k2 = m := ⟨_, rfl⟩
    have HH := Lib.hid hH
    have HDN := Lib.hid hdn
    have HPM := Lib.hid hpm
    have HON := Lib.hid hon
    have HM := Lib.hid hm
    have HK1 := Lib.hid hk1
    have HK2 := Lib.hid hk2
    have HB1 := Lib.hid hb1
    have HB2 := Lib.hid hb2
    have hc1 : wr.cell? ⟨b, 1, none⟩ = some (.slice A n c) := by have h := hH.1; simp [World.cell?, h]
    have hc0 : wr.cell? ⟨b, 0, none⟩ = some (.func (.func 19) #[] #[]) := by have h := hH.1; simp [World.cell?, h]
    have hix := index2 (k1 : Int) (k2 : Int)
    have hx0 := fun w => (hix w).1
    have hx1 := fun w => (hix w).2
    clear hix
    clear hH hdn hpm hon hm hk1 hk2 hb1 hb2
    go_wp2_with fail
    obtain ⟨wk, hwk⟩ : ∃ W, wr = W := ⟨_, rfl⟩
    have HWK := Lib.hid hwk
    clear hwk
    go_loopg [3, 14] 2 (fun gq v3 v14 w' => ∃ q, ((gq = 2 ∧ v14 = .int .i64 0 ∧ v3 = .int .i64 (k : Int)) ∨ (gq = 1 ∧ v14 = .int .i64 1 ∧ v3 = .int .i64 (b1 : Int)) ∨ (gq = 0 ∧ v14 = .int .i64 2 ∧ v3 = .int .i64 (b2 : Int))) ∧ w' = wk.drewN q)
    case atStart => exact ⟨0, .inl ⟨rfl, rfl, rfl⟩, HWK.out⟩
    case round =>
      obtain ⟨q, hcase, hwq⟩ := hrel
      have hwke := HWK.out
      subst hwke
      subst hwq
      rcases hcase with ⟨rfl, rfl, rfl⟩ | ⟨rfl, rfl, rfl⟩ | ⟨rfl, rfl, rfl⟩
      · skip
        by_cases hKn : k1 < n
        · obtain ⟨g, rfl, _, _, hcK, _, _, _⟩ := HH.out.2.1.at_ k1 hKn
          have hBn : k < n := by have := HK1.out; omega
          obtain ⟨g', hg', _, _, hcB, _, _, _⟩ := HH.out.2.1.at_ k hBn
          injection hg' with hg'
          injection hg' with hg'
          subst hg'
          obtain ⟨xK, hxK⟩ : ∃ x, L.getD k1 0 = x := ⟨_, rfl⟩
          obtain ⟨xB, hxB⟩ : ∃ x, L.getD k 0 = x := ⟨_, rfl⟩
          rw [hxK] at hcK
          rw [hxB] at hcB
          have bK : (k1 : Int) < (n : Int) := by omega
          have bB : (k : Int) < (n : Int) := by omega
          by_cases hlt : xK < xB
          · have hR : b1 = k1 := by rw [← HB1.out]; unfold bst; rw [if_pos ⟨hKn, by rw [hxK, hxB]; exact hlt⟩]
            have hlt' : decide (xK < xB) = true := decide_eq_true hlt
            have HRR := Lib.hid hR
            clear hxK hxB hR
            go_wp2_with fail
            go_quiet (exact quiet_add (Less_calls _ _ _))
            go_wp2_with fail
            go_roundg 1
            case measure => omega
            case rel => exact ⟨_, .inr (.inl ⟨rfl, rfl, by rw [HRR.out]⟩), rfl⟩
          · have hR : b1 = k := by rw [← HB1.out]; unfold bst; rw [if_neg fun h => hlt (by rw [← hxK, ← hxB]; exact h.2)]
            have hlt' : decide (xK < xB) = false := decide_eq_false hlt
            have HRR := Lib.hid hR
            clear hxK hxB hR
            go_wp2_with fail
            go_quiet (exact quiet_add (Less_calls _ _ _))
            go_wp2_with fail
            go_roundg 1
            case measure => omega
            case rel => exact ⟨_, .inr (.inl ⟨rfl, rfl, by rw [HRR.out]⟩), rfl⟩
        · have hR : b1 = k := by rw [← HB1.out]; unfold bst; rw [if_neg fun h => hKn h.1]
          have hKn' : decide ((k1 : Int) < (n : Int)) = false := decide_eq_false (by omega)
          have HRR := Lib.hid hR
          clear hR
          go_wp2_with fail
          go_quiet (fail)
          go_wp2_with fail
          go_roundg 1
          case measure => omega
          case rel => exact ⟨_, .inr (.inl ⟨rfl, rfl, by rw [HRR.out]⟩), rfl⟩
      · have hb1k : b1 < n ∨ b1 = k := by rw [← HB1.out]; exact bst_lt (by have := HK1.out; omega)
        by_cases hKn : k2 < n
        · obtain ⟨g, rfl, _, _, hcK, _, _, _⟩ := HH.out.2.1.at_ k2 hKn
          have hBn : b1 < n := by have := HK2.out; omega
          obtain ⟨g', hg', _, _, hcB, _, _, _⟩ := HH.out.2.1.at_ b1 hBn
          injection hg' with hg'
          injection hg' with hg'
          subst hg'
          obtain ⟨xK, hxK⟩ : ∃ x, L.getD k2 0 = x := ⟨_, rfl⟩
          obtain ⟨xB, hxB⟩ : ∃ x, L.getD b1 0 = x := ⟨_, rfl⟩
          rw [hxK] at hcK
          rw [hxB] at hcB
          have bK : (k2 : Int) < (n : Int) := by omega
          have bB : (b1 : Int) < (n : Int) := by omega
          by_cases hlt : xK < xB
          · have hR : b2 = k2 := by rw [← HB2.out]; unfold bst; rw [if_pos ⟨hKn, by rw [hxK, hxB]; exact hlt⟩]
            have hlt' : decide (xK < xB) = true := decide_eq_true hlt
            have HRR := Lib.hid hR
            clear hxK hxB hR
            go_wp2_with fail
            go_quiet (exact quiet_add (Less_calls _ _ _))
            go_wp2_with fail
            go_roundg 0
            case measure => omega
            case rel => exact ⟨_, .inr (.inr ⟨rfl, rfl, by rw [HRR.out]⟩), rfl⟩
          · have hR : b2 = b1 := by rw [← HB2.out]; unfold bst; rw [if_neg fun h => hlt (by rw [← hxK, ← hxB]; exact h.2)]
            have hlt' : decide (xK < xB) = false := decide_eq_false hlt
            have HRR := Lib.hid hR
            clear hxK hxB hR
            go_wp2_with fail
            go_quiet (exact quiet_add (Less_calls _ _ _))
            go_wp2_with fail
            go_roundg 0
            case measure => omega
            case rel => exact ⟨_, .inr (.inr ⟨rfl, rfl, by rw [HRR.out]⟩), rfl⟩
        · have hR : b2 = b1 := by rw [← HB2.out]; unfold bst; rw [if_neg fun h => hKn h.1]
          have hKn' : decide ((k2 : Int) < (n : Int)) = false := decide_eq_false (by omega)
          have HRR := Lib.hid hR
          clear hR
          go_wp2_with fail
          go_quiet (fail)
          go_wp2_with fail
          go_roundg 0
          case measure => omega
          case rel => exact ⟨_, .inr (.inr ⟨rfl, rfl, by rw [HRR.out]⟩), rfl⟩
      · skip
        by_cases hbk : b2 = k
        · have hbk' : ((b2 : Int) == (k : Int)) = true := by simp; omega
          have hb := bst_done (L := L) (k := k) HDN.out (by rw [hLl, HK1.out, HK2.out, HB1.out, HB2.out]; exact hbk)
          go_wp2_with fail
          refine bodyPost_ret (results_none rfl _ _ _) rfl ?_
          exact ⟨rfl, L, HH.out.drewN _, hb, HPM.out, HON.out.trans (Only.of_below (below_drewN_self _ _))⟩
        · have hbk' : ((b2 : Int) == (k : Int)) = false := by simp; omega
          have hkn2 : k < n := by
            refine Nat.lt_of_le_of_ne hkn fun e => hbk ?_
            have h1 := HK1.out
            have h2 := HK2.out
            rw [← HB2.out, ← HB1.out]
            unfold bst
            rw [if_neg (show ¬ (k1 < n ∧ L.getD k1 0 < L.getD k 0) by omega), if_neg (show ¬ (k2 < n ∧ L.getD k2 0 < L.getD k 0) by omega)]
          obtain ⟨xk, hxk⟩ : ∃ x, L.getD k 0 = x := ⟨_, rfl⟩
          obtain ⟨xb, hxb⟩ : ∃ x, L.getD b2 0 = x := ⟨_, rfl⟩
          obtain ⟨hbn, hkb, hdn2⟩ := bst_swap (L := L) (k := k) (j := b2) HDN.out (by omega) (by rw [hLl, HK1.out, HK2.out, HB1.out, HB2.out]) hbk hxk hxb
          rw [hLl] at hbn
          obtain ⟨g, rfl, _, _, hcK, hfK, _, _⟩ := HH.out.2.1.at_ k hkn2
          obtain ⟨g', hg', _, _, hcB, hfB, _, _⟩ := HH.out.2.1.at_ b2 hbn
          injection hg' with hg'
          injection hg' with hg'
          subst hg'
          rw [hxk] at hcK
          rw [hxb] at hcB
          have hpk : L[k]? = some xk := hxk ▸ get_getD (by omega)
          have hpb : L[b2]? = some xb := hxb ▸ get_getD (by omega)
          have HPK := Lib.hid hpk
          have HPB := Lib.hid hpb
          have HD2 := Lib.hid hdn2
          have bK : (k : Int) < (n : Int) := by omega
          have bB : (b2 : Int) < (n : Int) := by omega
          have n1 : ¬ k = b2 := by omega
          have n2 : ¬ b2 = k := hbk
          clear hpk hpb hdn2 hxk hxb
          go_wp2_with fail
          generalize hwq : wr.drewN _ = wq
          have hc1q : wq.cell? ⟨b, 1, none⟩ = some (.slice (some ⟨g, 0, none⟩) n c) := by rw [← hwq]; exact hc1
          have hcKq : wq.cell? ⟨g, k, none⟩ = some (.int .i64 xk) := by rw [← hwq]; exact hcK
          have hcBq : wq.cell? ⟨g, b2, none⟩ = some (.int .i64 xb) := by rw [← hwq]; exact hcB
          have hfKq : wq.frozen? ⟨g, k, none⟩ = false := by rw [← hwq]; exact hfK
          have hfBq : wq.frozen? ⟨g, b2, none⟩ = false := by rw [← hwq]; exact hfB
          have hH2 : Hp wq b lo (.slice (some ⟨g, 0, none⟩) n c) L := by rw [← hwq]; exact HH.out.drewN _
          have hsw := hH2.swap (x := xk) (y := xb) hkn2 hbn
          have HSW := Lib.hid hsw
          have HWQ := Lib.hid hwq
          clear hc0 hc1 hcK hcB hfK hfB hsw hH2 hwq
          go_region
          go_wp2_with fail
          go_roundg (n - b2)
          case measure => omega
          case rel =>
            refine ⟨b2, swp L k b2 xb xk, by omega, by omega, rfl, HSW.out.1, by rw [swp_length]; exact hLl, HD2.out, (swp_perm HPK.out HPB.out).trans HPM.out, HON.out.trans (Only.trans ?_ HSW.out.2)⟩
            rw [← HWQ.out]
            exact Only.of_below (below_drewN_self _ _)
end Go.Proofs.Ytacgkoclammggaa
