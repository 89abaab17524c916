
/-
  The heap of things of two whole numbers (api.Result): sink. Condition: the heap's blocks are as the word HpE bx says; no more than a million things.
-/
import Derived.Test.YtacgkoclammggaaHeap2E
namespace Go.Proofs.Ytacgkoclammggaa
open Go.RowKit
set_option linter.unusedVariables false
set_option maxRecDepth 100000
set_option linter.unusedSimpArgs false

theorem pair2E (a b : Int) (w : World) : (Instr.index 157 (.agg #[.int .i64 a, .int .i64 b]) (.int .i64 0)).run Try.prog w = .ok (.int .i64 a) w ∧ (Instr.index 157 (.agg #[.int .i64 a, .int .i64 b]) (.int .i64 1)).run Try.prog w = .ok (.int .i64 b) w := by
  constructor <;> simp [Instr.index, asIntOf, run_underlying Try.underlying157, part, isAgg, run_underlying Try.underlying3, go_sem]
set_option maxHeartbeats 6400000 in
set_option maxRecDepth 1000000 in
theorem sinkE_calls (bx bs b lo : Nat) (A : Option Addr) (n c : Nat) (l : List (Int × Int × Int)) (w : World) (h : HpE bx w b lo (.slice A n c) l) (hln : l.length = n) (hok : DownOk ltE l 0) (hl : n ≤ 1000000) (hsl : SlxE w bx bs) (hnx : Ns (.slice A n c) b bx) (hns : Ns (.slice A n c) b bs) :
    Calls Try.prog 112 #[.pointer (some ⟨b, 0, none⟩)] w fun e w' => e = .returned (.tuple #[]) ∧ ∃ l', HpE bx w' b lo (.slice A n c) l' ∧ HeapOk ltE l' ∧ l'.Perm l ∧ Only (HpBE (.slice A n c) b) w w' := by
  have HH := Lib.hid h
  have HOK := Lib.hid hok
  have HSL := Lib.hid hsl
  clear h hok hsl
  go_enter Try.func112, Try.ntmps112
  go_wp2_with fail
  go_loopg [2] n (fun kq v2 w' => ∃ (k : Nat) (L : List (Int × Int × Int)), n ≤ k + kq ∧ k ≤ n ∧ v2 = .int .i64 ((k : Nat) : Int) ∧ HpE bx w' b lo (.slice A n c) L ∧ L.length = n ∧ DownOk ltE L k ∧ L.Perm l ∧ Only (HpBE (.slice A n c) b) w w')
  case atStart => exact ⟨0, l, by omega, by omega, rfl, HH.out, hln, HOK.out, List.Perm.refl _, Only.refl _ _⟩
  case round =>
    clear HH HOK hln
    obtain ⟨k, L, hkq, hkn, rfl, hH, hLl, hdn, hpm, hon⟩ := hrel
    obtain ⟨m, hm⟩ : ∃ m, 2 * k = m := ⟨_, rfl⟩
    obtain ⟨k1, hk1⟩ : ∃ m, 2 * k + 1 = m := ⟨_, rfl⟩
    obtain ⟨k2, hk2⟩ : ∃ m, 2 * k + 2 = m := ⟨_, rfl⟩
    have hw0 : IntKind.i64.wrap (2 * (k : Int)) = (m : Int) := by rw [i64_w, show 2 * (k : Int) = (m : Int) by omega]; exact wrap64_id _ (by omega)
    have hw1 : IntKind.i64.wrap ((m : Int) + 1) = (k1 : Int) := by rw [i64_w, show (m : Int) + 1 = (k1 : Int) by omega]; exact wrap64_id _ (by omega)
    have hw2 : IntKind.i64.wrap ((m : Int) + 2) = (k2 : Int) := by rw [i64_w, show (m : Int) + 2 = (k2 : Int) by omega]; exact wrap64_id _ (by omega)
    obtain ⟨b1, hb1⟩ : ∃ m, bstF ltE (0, 0, 0) L n k k1 = m := ⟨_, rfl⟩
    obtain ⟨b2, hb2⟩ : ∃ m, bstF ltE (0, 0, 0) L n b1 k2 = m := ⟨_, rfl⟩
    have HH0 := Lib.hid hH
    have HDN := Lib.hid hdn
    have HPM := Lib.hid hpm
    have HON0 := Lib.hid hon
    have HM := Lib.hid hm
    have HK1 := Lib.hid hk1
    have HK2 := Lib.hid hk2
    have HB1 := Lib.hid hb1
    have HB2 := Lib.hid hb2
    have hix := pair2E (k1 : Int) (k2 : Int)
    have hx0 := fun w => (hix w).1
    have hx1 := fun w => (hix w).2
    clear hix
    clear hH hdn hpm hon hm hk1 hk2 hb1 hb2
    go_wp2_with fail
    go_loopg [3, 14] 2 (fun gq v3 v14 w' => ((gq = 2 ∧ v14 = .int .i64 0 ∧ v3 = .int .i64 (k : Int)) ∨ (gq = 1 ∧ v14 = .int .i64 1 ∧ v3 = .int .i64 (b1 : Int)) ∨ (gq = 0 ∧ v14 = .int .i64 2 ∧ v3 = .int .i64 (b2 : Int))) ∧ Below wr.heap.size wr w')
    case atStart => exact ⟨.inl ⟨rfl, rfl, rfl⟩, Below.refl _ _⟩
    case round =>
      obtain ⟨hcase, hbk⟩ := hrel
      have HH := Lib.hid (HH0.out.keep hbk)
      have HON := Lib.hid (HON0.out.trans (Only.of_below hbk))
      have HBK := Lib.hid hbk
      have hc1 : wr.cell? ⟨b, 1, none⟩ = some (.slice A n c) := by have h := HH.out.1; simp [World.cell?, h]
      have hc0 : wr.cell? ⟨b, 0, none⟩ = some (.func (.func 83) #[] #[.pointer (some ⟨bx, 0, none⟩)]) := by have h := HH.out.1; simp [World.cell?, h]
      have HSLr := Lib.hid (HSL.out.only HON.out hnx hns)
      clear HH0 HON0 hbk
      rcases hcase with ⟨rfl, rfl, rfl⟩ | ⟨rfl, rfl, rfl⟩ | ⟨rfl, rfl, rfl⟩
      · skip
        by_cases hKn : k1 < n
        · have hBn : k < n := by have := HK1.out; omega
          obtain ⟨g, ⟨xk0, xk1, xk2⟩, hgA, _, _, hxk, hck, hfk, _⟩ := HH.out.2.1.at_ tri_q k1 hKn (by omega)
          subst hgA
          obtain ⟨g', ⟨xb0, xb1, xb2⟩, hg', _, _, hxb, hcb, _, _⟩ := HH.out.2.1.at_ tri_q k hBn (by omega)
          injection hg' with hg'
          injection hg' with hg'
          subst hg'
          have hck0 : wr.cell? ⟨g, k1 * 3, none⟩ = some (.int .i64 xk0) := hck 0 (by omega)
          have hck1 : wr.cell? ⟨g, k1 * 3 + 1, none⟩ = some (.int .i64 xk1) := hck 1 (by omega)
          have hck2 : wr.cell? ⟨g, k1 * 3 + 2, none⟩ = some (.int .i64 xk2) := hck 2 (by omega)
          have hcb0 : wr.cell? ⟨g, k * 3, none⟩ = some (.int .i64 xb0) := hcb 0 (by omega)
          have hcb1 : wr.cell? ⟨g, k * 3 + 1, none⟩ = some (.int .i64 xb1) := hcb 1 (by omega)
          have hcb2 : wr.cell? ⟨g, k * 3 + 2, none⟩ = some (.int .i64 xb2) := hcb 2 (by omega)
          have gK : L.getD k1 (0, 0, 0) = (xk0, xk1, xk2) := by simp [List.getD, hxk]
          have gB : L.getD k (0, 0, 0) = (xb0, xb1, xb2) := by simp [List.getD, hxb]
          have bK : (k1 : Int) < (n : Int) := by omega
          have bB : (k : Int) < (n : Int) := by omega
          obtain ⟨r, hr⟩ : ∃ r, ltE (xk0, xk1, xk2) (xb0, xb1, xb2) = r := ⟨_, rfl⟩
          have HR := Lib.hid hr
          have hbs0 : Below wr.heap.size wr wr := Below.refl _ _
          clear hck hcb hfk hxk hxb
          cases r with
          | true =>
            have hR : b1 = k1 := by rw [← HB1.out]; unfold bstF; rw [if_pos ⟨hKn, by rw [gK, gB]; exact hr⟩]
            have HRR := Lib.hid hR
            clear hR gK gB hr
            go_wp2_with fail
            go_region_held3 (fun w' => w'.cell? ⟨b, 0, none⟩ = some (.func (.func 83) #[] #[.pointer (some ⟨bx, 0, none⟩)]) ∧ w'.cell? ⟨b, 1, none⟩ = some (.slice (some ⟨g, 0, none⟩) n c) ∧ w'.cell? ⟨g, k1 * 3, none⟩ = some (.int .i64 xk0) ∧ w'.cell? ⟨g, k1 * 3 + 1, none⟩ = some (.int .i64 xk1) ∧ w'.cell? ⟨g, k1 * 3 + 2, none⟩ = some (.int .i64 xk2) ∧ w'.cell? ⟨g, k * 3, none⟩ = some (.int .i64 xb0) ∧ w'.cell? ⟨g, k * 3 + 1, none⟩ = some (.int .i64 xb1) ∧ w'.cell? ⟨g, k * 3 + 2, none⟩ = some (.int .i64 xb2) ∧ Below wr.heap.size wr w')
              (first | exact ⟨cell_below (B := wr.heap.size) (w := wr) (by first | ((repeat (first | assumption | exact Below.refl _ _ | apply below_drew1 | apply below_alloc1)); done)) hc0 (World.block_lt_of_cell? _ _ hc0), cell_below (B := wr.heap.size) (w := wr) (by first | ((repeat (first | assumption | exact Below.refl _ _ | apply below_drew1 | apply below_alloc1)); done)) hc1 (World.block_lt_of_cell? _ _ hc1), cell_below (B := wr.heap.size) (w := wr) (by first | ((repeat (first | assumption | exact Below.refl _ _ | apply below_drew1 | apply below_alloc1)); done)) hck0 (World.block_lt_of_cell? _ _ hck0), cell_below (B := wr.heap.size) (w := wr) (by first | ((repeat (first | assumption | exact Below.refl _ _ | apply below_drew1 | apply below_alloc1)); done)) hck1 (World.block_lt_of_cell? _ _ hck1), cell_below (B := wr.heap.size) (w := wr) (by first | ((repeat (first | assumption | exact Below.refl _ _ | apply below_drew1 | apply below_alloc1)); done)) hck2 (World.block_lt_of_cell? _ _ hck2), cell_below (B := wr.heap.size) (w := wr) (by first | ((repeat (first | assumption | exact Below.refl _ _ | apply below_drew1 | apply below_alloc1)); done)) hcb0 (World.block_lt_of_cell? _ _ hcb0), cell_below (B := wr.heap.size) (w := wr) (by first | ((repeat (first | assumption | exact Below.refl _ _ | apply below_drew1 | apply below_alloc1)); done)) hcb1 (World.block_lt_of_cell? _ _ hcb1), cell_below (B := wr.heap.size) (w := wr) (by first | ((repeat (first | assumption | exact Below.refl _ _ | apply below_drew1 | apply below_alloc1)); done)) hcb2 (World.block_lt_of_cell? _ _ hcb2), (by first | ((repeat (first | assumption | exact Below.refl _ _ | apply below_drew1 | apply below_alloc1)); done))⟩ | go_keep)
              (first
                | (go_at_call 83; go_split_ands; (with_reducible refine Calls.mono (HSLr.out.less xk0 xk1 xk2 xb0 xb1 xb2 _ ?_) ?_); (exact (by first | ((repeat (first | assumption | exact Below.refl _ _ | apply below_drew1 | apply below_alloc1)); done))); rintro e wq ⟨he, hbq⟩; rw [HR.out] at he; subst he; have hbB : Below wr.heap.size wr wq := Below.after (by first | ((repeat (first | assumption | exact Below.refl _ _ | apply below_drew1 | apply below_alloc1)); done)) hbq))
            go_wp2_with fail
            go_roundg 1
            case measure => omega
            case rel => exact ⟨.inr (.inl ⟨rfl, rfl, by rw [HRR.out]⟩), HBK.out.after hbB⟩
          | false =>
            have hR : b1 = k := by rw [← HB1.out]; unfold bstF; rw [if_neg fun h => by have h2 := h.2; rw [gK, gB] at h2; exact absurd (hr.symm.trans h2) (by simp)]
            have HRR := Lib.hid hR
            clear hR gK gB hr
            go_wp2_with fail
            go_region_held3 (fun w' => w'.cell? ⟨b, 0, none⟩ = some (.func (.func 83) #[] #[.pointer (some ⟨bx, 0, none⟩)]) ∧ w'.cell? ⟨b, 1, none⟩ = some (.slice (some ⟨g, 0, none⟩) n c) ∧ w'.cell? ⟨g, k1 * 3, none⟩ = some (.int .i64 xk0) ∧ w'.cell? ⟨g, k1 * 3 + 1, none⟩ = some (.int .i64 xk1) ∧ w'.cell? ⟨g, k1 * 3 + 2, none⟩ = some (.int .i64 xk2) ∧ w'.cell? ⟨g, k * 3, none⟩ = some (.int .i64 xb0) ∧ w'.cell? ⟨g, k * 3 + 1, none⟩ = some (.int .i64 xb1) ∧ w'.cell? ⟨g, k * 3 + 2, none⟩ = some (.int .i64 xb2) ∧ Below wr.heap.size wr w')
              (first | exact ⟨cell_below (B := wr.heap.size) (w := wr) (by first | ((repeat (first | assumption | exact Below.refl _ _ | apply below_drew1 | apply below_alloc1)); done)) hc0 (World.block_lt_of_cell? _ _ hc0), cell_below (B := wr.heap.size) (w := wr) (by first | ((repeat (first | assumption | exact Below.refl _ _ | apply below_drew1 | apply below_alloc1)); done)) hc1 (World.block_lt_of_cell? _ _ hc1), cell_below (B := wr.heap.size) (w := wr) (by first | ((repeat (first | assumption | exact Below.refl _ _ | apply below_drew1 | apply below_alloc1)); done)) hck0 (World.block_lt_of_cell? _ _ hck0), cell_below (B := wr.heap.size) (w := wr) (by first | ((repeat (first | assumption | exact Below.refl _ _ | apply below_drew1 | apply below_alloc1)); done)) hck1 (World.block_lt_of_cell? _ _ hck1), cell_below (B := wr.heap.size) (w := wr) (by first | ((repeat (first | assumption | exact Below.refl _ _ | apply below_drew1 | apply below_alloc1)); done)) hck2 (World.block_lt_of_cell? _ _ hck2), cell_below (B := wr.heap.size) (w := wr) (by first | ((repeat (first | assumption | exact Below.refl _ _ | apply below_drew1 | apply below_alloc1)); done)) hcb0 (World.block_lt_of_cell? _ _ hcb0), cell_below (B := wr.heap.size) (w := wr) (by first | ((repeat (first | assumption | exact Below.refl _ _ | apply below_drew1 | apply below_alloc1)); done)) hcb1 (World.block_lt_of_cell? _ _ hcb1), cell_below (B := wr.heap.size) (w := wr) (by first | ((repeat (first | assumption | exact Below.refl _ _ | apply below_drew1 | apply below_alloc1)); done)) hcb2 (World.block_lt_of_cell? _ _ hcb2), (by first | ((repeat (first | assumption | exact Below.refl _ _ | apply below_drew1 | apply below_alloc1)); done))⟩ | go_keep)
              (first
                | (go_at_call 83; go_split_ands; (with_reducible refine Calls.mono (HSLr.out.less xk0 xk1 xk2 xb0 xb1 xb2 _ ?_) ?_); (exact (by first | ((repeat (first | assumption | exact Below.refl _ _ | apply below_drew1 | apply below_alloc1)); done))); rintro e wq ⟨he, hbq⟩; rw [HR.out] at he; subst he; have hbB : Below wr.heap.size wr wq := Below.after (by first | ((repeat (first | assumption | exact Below.refl _ _ | apply below_drew1 | apply below_alloc1)); done)) hbq))
            go_wp2_with fail
            go_roundg 1
            case measure => omega
            case rel => exact ⟨.inr (.inl ⟨rfl, rfl, by rw [HRR.out]⟩), HBK.out.after hbB⟩
        · have hR : b1 = k := by rw [← HB1.out]; unfold bstF; rw [if_neg fun h => hKn h.1]
          have hKn' : decide ((k1 : Int) < (n : Int)) = false := decide_eq_false (by omega)
          have HRR := Lib.hid hR
          clear hR
          go_wp2_with fail
          go_quiet (fail)
          go_wp2_with fail
          go_roundg 1
          case measure => omega
          case rel => exact ⟨.inr (.inl ⟨rfl, rfl, by rw [HRR.out]⟩), HBK.out.after (below_drewN_self _ _)⟩
      · have hb1k : b1 < n ∨ b1 = k := by rw [← HB1.out]; exact bstF_lt (by have := HK1.out; omega)
        by_cases hKn : k2 < n
        · have hBn : b1 < n := by have := HK2.out; omega
          obtain ⟨g, ⟨xk0, xk1, xk2⟩, hgA, _, _, hxk, hck, hfk, _⟩ := HH.out.2.1.at_ tri_q k2 hKn (by omega)
          subst hgA
          obtain ⟨g', ⟨xb0, xb1, xb2⟩, hg', _, _, hxb, hcb, _, _⟩ := HH.out.2.1.at_ tri_q b1 hBn (by omega)
          injection hg' with hg'
          injection hg' with hg'
          subst hg'
          have hck0 : wr.cell? ⟨g, k2 * 3, none⟩ = some (.int .i64 xk0) := hck 0 (by omega)
          have hck1 : wr.cell? ⟨g, k2 * 3 + 1, none⟩ = some (.int .i64 xk1) := hck 1 (by omega)
          have hck2 : wr.cell? ⟨g, k2 * 3 + 2, none⟩ = some (.int .i64 xk2) := hck 2 (by omega)
          have hcb0 : wr.cell? ⟨g, b1 * 3, none⟩ = some (.int .i64 xb0) := hcb 0 (by omega)
          have hcb1 : wr.cell? ⟨g, b1 * 3 + 1, none⟩ = some (.int .i64 xb1) := hcb 1 (by omega)
          have hcb2 : wr.cell? ⟨g, b1 * 3 + 2, none⟩ = some (.int .i64 xb2) := hcb 2 (by omega)
          have gK : L.getD k2 (0, 0, 0) = (xk0, xk1, xk2) := by simp [List.getD, hxk]
          have gB : L.getD b1 (0, 0, 0) = (xb0, xb1, xb2) := by simp [List.getD, hxb]
          have bK : (k2 : Int) < (n : Int) := by omega
          have bB : (b1 : Int) < (n : Int) := by omega
          obtain ⟨r, hr⟩ : ∃ r, ltE (xk0, xk1, xk2) (xb0, xb1, xb2) = r := ⟨_, rfl⟩
          have HR := Lib.hid hr
          have hbs0 : Below wr.heap.size wr wr := Below.refl _ _
          clear hck hcb hfk hxk hxb
          cases r with
          | true =>
            have hR : b2 = k2 := by rw [← HB2.out]; unfold bstF; rw [if_pos ⟨hKn, by rw [gK, gB]; exact hr⟩]
            have HRR := Lib.hid hR
            clear hR gK gB hr
            go_wp2_with fail
            go_region_held3 (fun w' => w'.cell? ⟨b, 0, none⟩ = some (.func (.func 83) #[] #[.pointer (some ⟨bx, 0, none⟩)]) ∧ w'.cell? ⟨b, 1, none⟩ = some (.slice (some ⟨g, 0, none⟩) n c) ∧ w'.cell? ⟨g, k2 * 3, none⟩ = some (.int .i64 xk0) ∧ w'.cell? ⟨g, k2 * 3 + 1, none⟩ = some (.int .i64 xk1) ∧ w'.cell? ⟨g, k2 * 3 + 2, none⟩ = some (.int .i64 xk2) ∧ w'.cell? ⟨g, b1 * 3, none⟩ = some (.int .i64 xb0) ∧ w'.cell? ⟨g, b1 * 3 + 1, none⟩ = some (.int .i64 xb1) ∧ w'.cell? ⟨g, b1 * 3 + 2, none⟩ = some (.int .i64 xb2) ∧ Below wr.heap.size wr w')
              (first | exact ⟨cell_below (B := wr.heap.size) (w := wr) (by first | ((repeat (first | assumption | exact Below.refl _ _ | apply below_drew1 | apply below_alloc1)); done)) hc0 (World.block_lt_of_cell? _ _ hc0), cell_below (B := wr.heap.size) (w := wr) (by first | ((repeat (first | assumption | exact Below.refl _ _ | apply below_drew1 | apply below_alloc1)); done)) hc1 (World.block_lt_of_cell? _ _ hc1), cell_below (B := wr.heap.size) (w := wr) (by first | ((repeat (first | assumption | exact Below.refl _ _ | apply below_drew1 | apply below_alloc1)); done)) hck0 (World.block_lt_of_cell? _ _ hck0), cell_below (B := wr.heap.size) (w := wr) (by first | ((repeat (first | assumption | exact Below.refl _ _ | apply below_drew1 | apply below_alloc1)); done)) hck1 (World.block_lt_of_cell? _ _ hck1), cell_below (B := wr.heap.size) (w := wr) (by first | ((repeat (first | assumption | exact Below.refl _ _ | apply below_drew1 | apply below_alloc1)); done)) hck2 (World.block_lt_of_cell? _ _ hck2), cell_below (B := wr.heap.size) (w := wr) (by first | ((repeat (first | assumption | exact Below.refl _ _ | apply below_drew1 | apply below_alloc1)); done)) hcb0 (World.block_lt_of_cell? _ _ hcb0), cell_below (B := wr.heap.size) (w := wr) (by first | ((repeat (first | assumption | exact Below.refl _ _ | apply below_drew1 | apply below_alloc1)); done)) hcb1 (World.block_lt_of_cell? _ _ hcb1), cell_below (B := wr.heap.size) (w := wr) (by first | ((repeat (first | assumption | exact Below.refl _ _ | apply below_drew1 | apply below_alloc1)); done)) hcb2 (World.block_lt_of_cell? _ _ hcb2), (by first | ((repeat (first | assumption | exact Below.refl _ _ | apply below_drew1 | apply below_alloc1)); done))⟩ | go_keep)
              (first
                | (go_at_call 83; go_split_ands; (with_reducible refine Calls.mono (HSLr.out.less xk0 xk1 xk2 xb0 xb1 xb2 _ ?_) ?_); (exact (by first | ((repeat (first | assumption | exact Below.refl _ _ | apply below_drew1 | apply below_alloc1)); done))); rintro e wq ⟨he, hbq⟩; rw [HR.out] at he; subst he; have hbB : Below wr.heap.size wr wq := Below.after (by first | ((repeat (first | assumption | exact Below.refl _ _ | apply below_drew1 | apply below_alloc1)); done)) hbq))
            go_wp2_with fail
            go_roundg 0
            case measure => omega
            case rel => exact ⟨.inr (.inr ⟨rfl, rfl, by rw [HRR.out]⟩), HBK.out.after hbB⟩
          | false =>
            have hR : b2 = b1 := by rw [← HB2.out]; unfold bstF; rw [if_neg fun h => by have h2 := h.2; rw [gK, gB] at h2; exact absurd (hr.symm.trans h2) (by simp)]
            have HRR := Lib.hid hR
            clear hR gK gB hr
            go_wp2_with fail
            go_region_held3 (fun w' => w'.cell? ⟨b, 0, none⟩ = some (.func (.func 83) #[] #[.pointer (some ⟨bx, 0, none⟩)]) ∧ w'.cell? ⟨b, 1, none⟩ = some (.slice (some ⟨g, 0, none⟩) n c) ∧ w'.cell? ⟨g, k2 * 3, none⟩ = some (.int .i64 xk0) ∧ w'.cell? ⟨g, k2 * 3 + 1, none⟩ = some (.int .i64 xk1) ∧ w'.cell? ⟨g, k2 * 3 + 2, none⟩ = some (.int .i64 xk2) ∧ w'.cell? ⟨g, b1 * 3, none⟩ = some (.int .i64 xb0) ∧ w'.cell? ⟨g, b1 * 3 + 1, none⟩ = some (.int .i64 xb1) ∧ w'.cell? ⟨g, b1 * 3 + 2, none⟩ = some (.int .i64 xb2) ∧ Below wr.heap.size wr w')
              (first | exact ⟨cell_below (B := wr.heap.size) (w := wr) (by first | ((repeat (first | assumption | exact Below.refl _ _ | apply below_drew1 | apply below_alloc1)); done)) hc0 (World.block_lt_of_cell? _ _ hc0), cell_below (B := wr.heap.size) (w := wr) (by first | ((repeat (first | assumption | exact Below.refl _ _ | apply below_drew1 | apply below_alloc1)); done)) hc1 (World.block_lt_of_cell? _ _ hc1), cell_below (B := wr.heap.size) (w := wr) (by first | ((repeat (first | assumption | exact Below.refl _ _ | apply below_drew1 | apply below_alloc1)); done)) hck0 (World.block_lt_of_cell? _ _ hck0), cell_below (B := wr.heap.size) (w := wr) (by first | ((repeat (first | assumption | exact Below.refl _ _ | apply below_drew1 | apply below_alloc1)); done)) hck1 (World.block_lt_of_cell? _ _ hck1), cell_below (B := wr.heap.size) (w := wr) (by first | ((repeat (first | assumption | exact Below.refl _ _ | apply below_drew1 | apply below_alloc1)); done)) hck2 (World.block_lt_of_cell? _ _ hck2), cell_below (B := wr.heap.size) (w := wr) (by first | ((repeat (first | assumption | exact Below.refl _ _ | apply below_drew1 | apply below_alloc1)); done)) hcb0 (World.block_lt_of_cell? _ _ hcb0), cell_below (B := wr.heap.size) (w := wr) (by first | ((repeat (first | assumption | exact Below.refl _ _ | apply below_drew1 | apply below_alloc1)); done)) hcb1 (World.block_lt_of_cell? _ _ hcb1), cell_below (B := wr.heap.size) (w := wr) (by first | ((repeat (first | assumption | exact Below.refl _ _ | apply below_drew1 | apply below_alloc1)); done)) hcb2 (World.block_lt_of_cell? _ _ hcb2), (by first | ((repeat (first | assumption | exact Below.refl _ _ | apply below_drew1 | apply below_alloc1)); done))⟩ | go_keep)
              (first
                | (go_at_call 83; go_split_ands; (with_reducible refine Calls.mono (HSLr.out.less xk0 xk1 xk2 xb0 xb1 xb2 _ ?_) ?_); (exact (by first | ((repeat (first | assumption | exact Below.refl _ _ | apply below_drew1 | apply below_alloc1)); done))); rintro e wq ⟨he, hbq⟩; rw [HR.out] at he; subst he; have hbB : Below wr.heap.size wr wq := Below.after (by first | ((repeat (first | assumption | exact Below.refl _ _ | apply below_drew1 | apply below_alloc1)); done)) hbq))
            go_wp2_with fail
            go_roundg 0
            case measure => omega
            case rel => exact ⟨.inr (.inr ⟨rfl, rfl, by rw [HRR.out]⟩), HBK.out.after hbB⟩
        · have hR : b2 = b1 := by rw [← HB2.out]; unfold bstF; rw [if_neg fun h => hKn h.1]
          have hKn' : decide ((k2 : Int) < (n : Int)) = false := decide_eq_false (by omega)
          have HRR := Lib.hid hR
          clear hR
          go_wp2_with fail
          go_quiet (fail)
          go_wp2_with fail
          go_roundg 0
          case measure => omega
          case rel => exact ⟨.inr (.inr ⟨rfl, rfl, by rw [HRR.out]⟩), HBK.out.after (below_drewN_self _ _)⟩
      · skip
        by_cases hbk : b2 = k
        · have hbk' : ((b2 : Int) == (k : Int)) = true := by simp; omega
          have hb := bstF_done (L := L) (k := k) HDN.out (by rw [hLl, HK1.out, HK2.out, HB1.out, HB2.out]; exact hbk)
          go_wp2_with fail
          refine bodyPost_ret (results_none rfl _ _ _) rfl ?_
          exact ⟨rfl, L, HH.out, hb, HPM.out, HON.out⟩
        · have hbk' : ((b2 : Int) == (k : Int)) = false := by simp; omega
          have hkn2 : k < n := by
            refine Nat.lt_of_le_of_ne hkn fun e => hbk ?_
            have h1 := HK1.out
            have h2 := HK2.out
            rw [← HB2.out, ← HB1.out]
            unfold bstF
            rw [if_neg (fun h : k1 < n ∧ _ => by have := h.1; omega), if_neg (fun h : k2 < n ∧ _ => by have := h.1; omega)]
          have hbn0 := bstF_swap (L := L) (k := k) (j := b2) (d := (0, 0, 0)) ltE_wo HDN.out (by omega) (by rw [hLl, HK1.out, HK2.out, HB1.out, HB2.out]) hbk rfl rfl
          obtain ⟨hbn, hkb, hdn2⟩ := hbn0
          rw [hLl] at hbn
          obtain ⟨g, ⟨xk0, xk1, xk2⟩, hgA, _, _, hxk, hck, hfk, _⟩ := HH.out.2.1.at_ tri_q k hkn2 (by omega)
          subst hgA
          obtain ⟨g', ⟨xb0, xb1, xb2⟩, hg', _, _, hxb, hcb, _, _⟩ := HH.out.2.1.at_ tri_q b2 hbn (by omega)
          injection hg' with hg'
          injection hg' with hg'
          subst hg'
          rw [show L.getD k (0, 0, 0) = (xk0, xk1, xk2) by simp [List.getD, hxk], show L.getD b2 (0, 0, 0) = (xb0, xb1, xb2) by simp [List.getD, hxb]] at hdn2
          have hck0 : wr.cell? ⟨g, k * 3, none⟩ = some (.int .i64 xk0) := hck 0 (by omega)
          have hck1 : wr.cell? ⟨g, k * 3 + 1, none⟩ = some (.int .i64 xk1) := hck 1 (by omega)
          have hck2 : wr.cell? ⟨g, k * 3 + 2, none⟩ = some (.int .i64 xk2) := hck 2 (by omega)
          have hcb0 : wr.cell? ⟨g, b2 * 3, none⟩ = some (.int .i64 xb0) := hcb 0 (by omega)
          have hcb1 : wr.cell? ⟨g, b2 * 3 + 1, none⟩ = some (.int .i64 xb1) := hcb 1 (by omega)
          have hcb2 : wr.cell? ⟨g, b2 * 3 + 2, none⟩ = some (.int .i64 xb2) := hcb 2 (by omega)
          have hf0 := hfk (k * 3)
          have hf1 := hfk (k * 3 + 1)
          have hf2 := hfk (k * 3 + 2)
          have hf3 := hfk (b2 * 3)
          have hf4 := hfk (b2 * 3 + 1)
          have hf5 := hfk (b2 * 3 + 2)
          have HPK := Lib.hid hxk
          have HPB := Lib.hid hxb
          have HD2 := Lib.hid hdn2
          have bK : (k : Int) < (n : Int) := by omega
          have bB : (b2 : Int) < (n : Int) := by omega
          have n0 : ¬ k = b2 := by omega
          have n00a : ¬ k * 3 = b2 * 3 := by omega
          have n00b : ¬ b2 * 3 = k * 3 := by omega
          have n01a : ¬ k * 3 = b2 * 3 + 1 := by omega
          have n01b : ¬ b2 * 3 + 1 = k * 3 := by omega
          have n02a : ¬ k * 3 = b2 * 3 + 2 := by omega
          have n02b : ¬ b2 * 3 + 2 = k * 3 := by omega
          have n10a : ¬ k * 3 + 1 = b2 * 3 := by omega
          have n10b : ¬ b2 * 3 = k * 3 + 1 := by omega
          have n11a : ¬ k * 3 + 1 = b2 * 3 + 1 := by omega
          have n11b : ¬ b2 * 3 + 1 = k * 3 + 1 := by omega
          have n12a : ¬ k * 3 + 1 = b2 * 3 + 2 := by omega
          have n12b : ¬ b2 * 3 + 2 = k * 3 + 1 := by omega
          have n20a : ¬ k * 3 + 2 = b2 * 3 := by omega
          have n20b : ¬ b2 * 3 = k * 3 + 2 := by omega
          have n21a : ¬ k * 3 + 2 = b2 * 3 + 1 := by omega
          have n21b : ¬ b2 * 3 + 1 = k * 3 + 2 := by omega
          have n22a : ¬ k * 3 + 2 = b2 * 3 + 2 := by omega
          have n22b : ¬ b2 * 3 + 2 = k * 3 + 2 := by omega
          have hsw := HH.out.swap (x := (xk0, xk1, xk2)) (y := (xb0, xb1, xb2)) hkn2 hbn
          have HSW := Lib.hid hsw
          clear hxk hxb hck hcb hfk hdn2 hsw
          go_wp2_with fail
          go_region
          go_wp2_with fail
          go_roundg (n - b2)
          case measure => omega
          case rel =>
            exact ⟨b2, swp L k b2 (xb0, xb1, xb2) (xk0, xk1, xk2), by omega, by omega, rfl, HSW.out.1, by rw [swp_length]; exact hLl, HD2.out, (swp_perm HPK.out HPB.out).trans HPM.out, HON.out.trans HSW.out.2⟩
end Go.Proofs.Ytacgkoclammggaa
