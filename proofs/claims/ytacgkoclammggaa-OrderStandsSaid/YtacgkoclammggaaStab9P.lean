
/-
  slices.IsSortedFunc, order.Sorted over shelterbelt/shelterbeltref04.Pair: whether none comes ahead of the one ahead of it. Condition: the slice reads as the list.
-/
import Derived.Test.YtacgkoclammggaaStab8P
namespace Go.Proofs.Ytacgkoclammggaa
open Go.RowKit
set_option linter.unusedVariables false
set_option maxRecDepth 100000
set_option linter.unusedSimpArgs false
attribute [local go_sem] Oper.semAt_some

/-- None of the first k comes ahead of the one ahead of it. -/
def UpP (xs : List (Int × Int)) (i : Nat) : Prop := ltP (xs.getD (i + 1) (0, 0)) (xs.getD i (0, 0)) = false
/-- What is told: whether none does. -/
def SoPostP (xs : List (Int × Int)) (n : Nat) (e : Ending) : Prop := ∃ b, e = .returned (.bool b) ∧ (b = true ↔ ∀ i, i + 1 < n → UpP xs i)
set_option maxHeartbeats 3200000 in
set_option maxRecDepth 1000000 in
theorem IsSortedP_calls (bf : Nat) (A : Option Addr) (c : Nat) (xs : List (Int × Int)) (w : World) (ha : RdP w .i64 .i64 A xs) (hc : CmP w bf) (hl : xs.length ≤ 100000) :
    Calls Try.prog 106 #[.slice A xs.length c, cmpP bf] w fun e w' => SoPostP xs xs.length e ∧ Below w.heap.size w w' := by
  have KA := Lib.hid ha
  have HC := Lib.hid hc
  clear ha hc
  obtain ⟨n, hn⟩ : ∃ n, xs.length = n := ⟨_, rfl⟩
  have HN := Lib.hid hn
  rw [hn] at hl ⊢
  clear hn
  obtain ⟨e0, he0⟩ : ∃ e : Int, (n : Int) - 1 = e := ⟨_, rfl⟩
  have hw0 : IntKind.i64.wrap ((n : Int) - 1) = e0 := by rw [i64_w, ← he0]; exact wrap64_id _ (by omega)
  have HE0 := Lib.hid he0
  clear he0
  go_enter Try.func106, Try.ntmps106
  go_wp2_with fail
  go_loopg [5] n (fun kq v5 w' => ∃ e : Int, v5 = .int .i64 e ∧ e + 1 ≤ n ∧ ((kq = 0 ∧ e ≤ 0) ∨ e + 1 = (kq : Int)) ∧ (∀ i : Nat, e ≤ (i : Int) → i + 1 < n → UpP xs i) ∧ Below w.heap.size w w')
  case atStart => exact ⟨e0, rfl, by have := HE0.out; omega, .inr (by have := HE0.out; omega), fun i h1 h2 => by have := HE0.out; omega, Below.refl _ _⟩
  case round =>
    obtain ⟨e, rfl, hen, hek, hup, hbw⟩ := hrel
    have HUP := Lib.hid hup
    have HBW := Lib.hid hbw
    clear hup hbw
    by_cases h0 : 0 < e
    · obtain ⟨i, rfl⟩ : ∃ i : Nat, e = (i : Int) := ⟨e.toNat, by omega⟩
      obtain ⟨jp, hjp⟩ : ∃ jp, i = jp + 1 := ⟨i - 1, by omega⟩
      have hwj : IntKind.i64.wrap ((i : Int) - 1) = (jp : Int) := by rw [i64_w, show (i : Int) - 1 = (jp : Int) by omega]; exact wrap64_id _ (by omega)
      have hin : i < n := by omega
      have hd : decide (0 < i) = true := decide_eq_true (by omega)
      have bI : (i : Int) < (n : Int) := by omega
      have bJ : (jp : Int) < (n : Int) := by omega
      obtain ⟨ad, rfl, hx0, hx1⟩ := (KA.out.below HBW.out).2 i (by rw [HN.out]; exact hin)
      obtain ⟨ad', had, hy0, hy1⟩ := (KA.out.below HBW.out).2 jp (by rw [HN.out]; omega)
      injection had with had
      subst had
      obtain ⟨⟨x0, x1⟩, hx⟩ : ∃ x, xs.getD i (0, 0) = x := ⟨_, rfl⟩
      obtain ⟨⟨y0, y1⟩, hy⟩ : ∃ y, xs.getD jp (0, 0) = y := ⟨_, rfl⟩
      rw [hx] at hx0 hx1
      rw [hy] at hy0 hy1
      rw [← two_addP] at hx1 hy1
      have hcm := HC.out.below HBW.out
      obtain ⟨q, hcl⟩ : ∃ q, ltP (x0, x1) (y0, y1) = q := ⟨_, rfl⟩
      have HQ := Lib.hid (show ltP (xs.getD (jp + 1) (0, 0)) (xs.getD jp (0, 0)) = q by rw [← hjp, hx, hy]; exact hcl)
      have HJP := Lib.hid hjp
      have hbw : Below wr.heap.size wr wr := Below.refl _ _
      have hik : i + 1 = gk := by omega
      clear hx hy hek h0 hjp
      go_wp2_with fail
      first | go_region_held3 (fun w' => w'.cell? (ad.add (i * 2)) = some (.int .i64 x0) ∧ w'.cell? ⟨(ad.add (i * 2)).block, (ad.add (i * 2)).off + 1, none⟩ = some (.int .i64 x1) ∧ w'.cell? (ad.add (jp * 2)) = some (.int .i64 y0) ∧ w'.cell? ⟨(ad.add (jp * 2)).block, (ad.add (jp * 2)).off + 1, none⟩ = some (.int .i64 y1) ∧ CmP w' bf ∧ Below wr.heap.size wr w')
        (first | exact ⟨cell_below (B := wr.heap.size) (w := wr) (by first | ((repeat (first | with_reducible assumption | with_reducible exact Below.refl _ _ | with_reducible apply below_drew1 | with_reducible apply below_alloc1)); done)) hx0 (World.block_lt_of_cell? _ _ hx0), cell_below (B := wr.heap.size) (w := wr) (by first | ((repeat (first | with_reducible assumption | with_reducible exact Below.refl _ _ | with_reducible apply below_drew1 | with_reducible apply below_alloc1)); done)) hx1 (World.block_lt_of_cell? _ _ hx1), cell_below (B := wr.heap.size) (w := wr) (by first | ((repeat (first | with_reducible assumption | with_reducible exact Below.refl _ _ | with_reducible apply below_drew1 | with_reducible apply below_alloc1)); done)) hy0 (World.block_lt_of_cell? _ _ hy0), cell_below (B := wr.heap.size) (w := wr) (by first | ((repeat (first | with_reducible assumption | with_reducible exact Below.refl _ _ | with_reducible apply below_drew1 | with_reducible apply below_alloc1)); done)) hy1 (World.block_lt_of_cell? _ _ hy1), CmP.keepb (B := wr.heap.size) (w := wr) hcm (by first | ((repeat (first | with_reducible assumption | with_reducible exact Below.refl _ _ | with_reducible apply below_drew1 | with_reducible apply below_alloc1)); done)), (by first | ((repeat (first | with_reducible assumption | with_reducible exact Below.refl _ _ | with_reducible apply below_drew1 | with_reducible apply below_alloc1)); done))⟩ | go_keep)
        (first
          | (go_at_call 119; go_split_ands; (with_reducible refine (CmpP_calls bf (x0, x1) (y0, y1) _ ?_).mono ?_); (with_reducible assumption); rintro e w7 ⟨mm, he, hmm, hbq⟩; subst he; rw [hcl] at hmm; have hB : Below wr.heap.size wr w7 := Below.after (by first | ((repeat (first | with_reducible assumption | with_reducible exact Below.refl _ _ | with_reducible apply below_drew1 | with_reducible apply below_alloc1)); done)) hbq)) | fail "held"
      all_goals
        cases q with
        | true =>
          go_wp2_with fail
          go_ret
          refine ⟨⟨false, rfl, by simp, ?_⟩, HBW.out.trans (hB.mono HBW.out.size)⟩
          intro h
          have h2 := h jp (by have := HJP.out; omega)
          unfold UpP at h2
          rw [HQ.out] at h2
          cases h2
        | false =>
          go_wp2_with fail
          go_roundg i
          case measure => omega
          case rel =>
            have hj := HJP.out
            refine ⟨(jp : Int), rfl, by omega, .inr (by omega), fun k h1 h2 => ?_, HBW.out.trans (hB.mono HBW.out.size)⟩
            rcases Nat.lt_or_ge k i with h3 | h3
            · obtain rfl : k = jp := by omega
              exact HQ.out
            · exact HUP.out k (by omega) h2
    · have hz : ¬ (0 : Int) < e := h0
      have hall : ∀ i, i + 1 < n → UpP xs i := fun i h => HUP.out i (by omega) h
      have HALL := Lib.hid hall
      clear hall hek hen h0
      go_wp2_with fail
      go_ret
      exact ⟨⟨true, rfl, fun _ => HALL.out, fun _ => rfl⟩, HBW.out⟩
set_option maxHeartbeats 3200000 in
theorem SortedSP_calls (A : Option Addr) (c : Nat) (xs : List (Int × Int)) (w : World) (ha : RdP w .i64 .i64 A xs) (hl : xs.length ≤ 100000) :
    Calls Try.prog 63 #[.func (.func 48) #[] #[], .slice A xs.length c] w fun e w' => SoPostP xs xs.length e ∧ Below w.heap.size w w' := by
  have KA := Lib.hid ha
  clear ha
  go_enter Try.func63, Try.ntmps63
  go_wp2_with fail
  refine (ByP_calls w).mono ?_
  rintro e w1 ⟨bf, he, hbf, hcm, hb1⟩
  subst he
  have HIS := Lib.hid (IsSortedP_calls bf A c xs w1 (KA.out.below hb1) hcm hl)
  have HB1 := Lib.hid hb1
  clear hcm hb1
  go_wp2_with fail
  refine HIS.out.mono ?_
  rintro e w2 ⟨⟨b, he, hbe⟩, hb2⟩
  subst he
  have HBE := Lib.hid hbe
  have HB2 := Lib.hid (HB1.out.trans (hb2.mono HB1.out.size))
  clear hbe hb2
  go_wp2_with fail
  go_ret
  exact ⟨⟨b, rfl, HBE.out⟩, HB2.out⟩
end Go.Proofs.Ytacgkoclammggaa
