
/-
  Items made at once (data.Of), and what the statements of layer 10 share. Condition of each: the lists are in memory as the word says.
-/
import Derived.Test.YtohmcpblagcfeaaItems
namespace Go.Proofs.Ytohmcpblagcfeaa
open Go.RowKit
set_option linter.unusedVariables false
set_option maxRecDepth 100000
set_option linter.unusedSimpArgs false

theorem _root_.Go.RowKit.Below.after {a b c : World} (h : Below a.heap.size a b) (k : Below b.heap.size b c) : Below a.heap.size a c := h.trans (k.mono h.size)
/-! ### the first error of many -/
def chkL (dim : Int) : List (List Int) → Int
  | [] => 0
  | x :: xs => if checkV x dim ≠ 0 then checkV x dim else chkL dim xs
def chkV (dim : Int) (ls : List (List Int)) : Int := if dim < 1 ∨ 1024 < dim then 1 else chkL dim ls
theorem chkL_bad {dim : Int} {ls : List (List Int)} (i : Nat) (hi : i < ls.length) (h : ∀ j, j < i → checkV (ls.getD j []) dim = 0) (hb : checkV (ls.getD i []) dim ≠ 0) : chkL dim ls = checkV (ls.getD i []) dim := by
  induction ls generalizing i with
  | nil => simp at hi
  | cons x xs ih =>
    unfold chkL
    cases i with
    | zero =>
      have e : (x :: xs).getD 0 [] = x := rfl
      rw [e] at hb ⊢
      rw [if_pos hb]
    | succ i =>
      have h0 := h 0 (by omega)
      have e0 : (x :: xs).getD 0 [] = x := rfl
      have e : ∀ j, (x :: xs).getD (j + 1) [] = xs.getD j [] := fun j => by simp [List.getD]
      rw [e0] at h0
      rw [e] at hb ⊢
      rw [if_neg (by simp [h0])]
      exact ih i (by simpa using hi) (fun j hj => by have := h (j + 1) (by omega); rwa [e] at this) hb
theorem chkL_good {dim : Int} {ls : List (List Int)} (h : ∀ j, j < ls.length → checkV (ls.getD j []) dim = 0) : chkL dim ls = 0 := by
  induction ls with
  | nil => rfl
  | cons x xs ih =>
    unfold chkL
    have h0 := h 0 (by simp)
    have e0 : (x :: xs).getD 0 [] = x := rfl
    rw [e0] at h0
    rw [if_neg (by simp [h0])]
    exact ih fun j hj => by
      have := h (j + 1) (by simpa using hj)
      simpa [List.getD] using this
theorem take_snoc (ls : List (List Int)) (i : Nat) (hi : i < ls.length) : ls.take (i + 1) = ls.take i ++ [ls.getD i []] := by
  rw [List.take_add_one]
  simp [List.getD, hi]

def OfPost (w : World) (dim : Int) (ls : List (List Int)) (e : Ending) (w' : World) : Prop :=
  ∃ v f, e = .returned (.tuple #[v, .int .i64 f]) ∧ chkV dim ls = f ∧ (f ≠ 0 → v = .pointer none) ∧ (f = 0 → ∃ b, v = .pointer (some ⟨b, 0, none⟩) ∧ w.heap.size ≤ b ∧ It w' b dim.toNat ls) ∧ Below w.heap.size w w'
set_option maxHeartbeats 1600000 in
theorem Of_calls (dim : Int) (A : Option Addr) (c : Nat) (ls : List (List Int)) (w : World) (ha : Rows w .i32 A ls) (hl : ls.length ≤ 1000) :
    Calls Try.prog 21 #[.int .i64 dim, .slice A ls.length c] w (OfPost w dim ls) := by
  have KA := Lib.hid ha
  clear ha
  by_cases hd : dim < 1 ∨ 1024 < dim
  · have e1 : chkV dim ls = 1 := by unfold chkV; rw [if_pos hd]
    have HE := Lib.hid e1
    have HD := Lib.hid hd
    clear e1 hd
    go_enter Try.func21, Try.ntmps21
    go_wp2_with fail
    refine (New_none dim _ HD.out).mono ?_
    rintro e _ ⟨he, rfl⟩
    subst he
    go_wp2_with fail
    go_ret2
    exact ⟨_, _, rfl, HE.out, fun _ => rfl, fun h => by omega, Below.refl _ _⟩
  · obtain ⟨D, rfl⟩ : ∃ k : Nat, dim = k := ⟨dim.toNat, by omega⟩
    have hd1 : 1 ≤ D := by omega
    have hd2 : D ≤ 1024 := by omega
    have e1 : chkV D ls = chkL D ls := by unfold chkV; rw [if_neg hd]
    obtain ⟨F, hF⟩ : ∃ f, chkL D ls = f := ⟨_, rfl⟩
    have e2 : chkV D ls = F := e1.trans hF
    have HE := Lib.hid e2
    have HF := Lib.hid hF
    clear e1 e2 hd hF
    go_enter Try.func21, Try.ntmps21
    go_wp2_with fail
    refine (New_calls D _ hd1 hd2).mono ?_
    rintro e w1 ⟨he, hit, hb1⟩
    subst he
    have HI := Lib.hid hit
    have hz1 : w.heap.size < w1.heap.size := hit.lt
    clear hit
    go_wp2_with fail
    go_loopg [22] ls.length (fun kq v22 w' => kq ≤ ls.length ∧ v22 = .int .i64 ((ls.length - kq : Nat)) ∧ It w' w.heap.size D (ls.take (ls.length - kq)) ∧ (∀ j, j < ls.length - kq → checkV (ls.getD j []) D = 0) ∧ Below w.heap.size w w')
    case atStart => exact ⟨Nat.le_refl _, by simp, by rw [Nat.sub_self]; exact HI.out, fun j hj => by omega, hb1⟩
    case round =>
      obtain ⟨hk, rfl, hit, hall, hb⟩ := hrel
      have HIT := Lib.hid hit
      have HALL := Lib.hid hall
      have HB := Lib.hid hb
      have hzr := hb.size
      clear hit hall hb HI
      cases gk with
      | zero =>
        simp only [Nat.sub_zero] at HIT HALL ⊢
        have hF0 : F = 0 := by rw [← HF.out]; exact chkL_good HALL.out
        rw [List.take_length] at HIT
        go_wp2_with fail
        go_ret2
        exact ⟨_, _, rfl, by rw [HE.out, hF0], fun h => by omega, fun _ => ⟨w.heap.size, rfl, Nat.le_refl _, HIT.out⟩, HB.out⟩
      | succ k1 =>
        obtain ⟨i, hi⟩ : ∃ i, ls.length - (k1 + 1) = i := ⟨_, rfl⟩
        have hi2 : ls.length - k1 = i + 1 := by omega
        have HI2 := Lib.hid hi2
        have hlt : i < ls.length := by omega
        rw [hi] at HIT HALL ⊢
        obtain ⟨ad, B, cB, rfl, hcell, hcB, hrd⟩ := (KA.out.below HB.out).2 i hlt
        obtain ⟨xs, hxs⟩ : ∃ xs, ls.getD i [] = xs := ⟨_, rfl⟩
        rw [hxs] at hcell hcB hrd
        have HXS := Lib.hid hxs
        have HRD := Lib.hid hrd
        obtain ⟨f, hf⟩ : ∃ f, checkV xs D = f := ⟨_, rfl⟩
        have HFF := Lib.hid hf
        have htl : (ls.take i).length = i := by simp; omega
        have HTL := Lib.hid htl
        clear hi hi2 hxs hrd hf htl
        by_cases hf0 : f = 0
        · subst hf0
          go_wp2_with fail
          refine (Add_calls w.heap.size D (ls.take i) B cB xs _ HIT.out HRD.out HFF.out (by rw [HTL.out]; omega)).mono ?_
          rintro e w2 ⟨he, hit, hb⟩
          rw [HTL.out] at he
          subst he
          have HIT2 := Lib.hid hit
          have HB2 := Lib.hid (HB.out.trans hb)
          clear hit hb
          go_wp2_with fail
          go_roundg k1
          case measure => omega
          case rel =>
            rw [HI2.out]
            refine ⟨by omega, rfl, by rw [take_snoc _ _ hlt, HXS.out]; exact HIT2.out, fun j hj => ?_, HB2.out⟩
            by_cases hji : j = i
            · subst hji; rw [HXS.out]; exact HFF.out
            · exact HALL.out j (by omega)
        · have hf1 : (f != 0) = true := by simp [hf0]
          have hFf : F = f := by rw [← HF.out, chkL_bad i hlt HALL.out (by rw [HXS.out, HFF.out]; exact hf0), HXS.out, HFF.out]
          have HG := Lib.hid hFf
          have HN0 := Lib.hid hf0
          clear hFf hf0
          go_wp2_with fail
          refine (Add_bad w.heap.size D (ls.take i) B cB xs f _ HIT.out HRD.out HFF.out HN0.out).mono ?_
          rintro e _ ⟨he, rfl⟩
          subst he
          go_wp2_with fail
          go_ret2
          exact ⟨_, _, rfl, by rw [HE.out, HG.out], fun _ => rfl, fun h => absurd h HN0.out, HB.out⟩

def FewPost (w : World) (ls : List (List Int)) (e : Ending) (w' : World) : Prop := ∃ b, e = .returned (.bool b) ∧ (b = true → ls.length ≤ 301) ∧ w = w'
theorem Few_calls (A : Option Addr) (c : Nat) (ls : List (List Int)) (w : World) (ha : Rows w .i32 A ls) :
    Calls Try.prog 42 #[.slice A ls.length c] w (FewPost w ls) := by
  have KA := Lib.hid ha
  have hl := ha.1
  clear ha
  go_enter Try.func42, Try.ntmps42
  go_wp2_with fail
  go_loopg [3, 4] ls.length (fun kq v3 v4 w' => kq ≤ ls.length ∧ (∃ n, v3 = .int .i64 n) ∧ v4 = .int .i64 ((ls.length - kq : Nat)) ∧ ls.length - kq ≤ 301 ∧ w' = w)
  case atStart => exact ⟨Nat.le_refl _, ⟨_, rfl⟩, by simp, by omega, rfl⟩
  case round =>
    obtain ⟨hk, ⟨n, rfl⟩, rfl, hi3, rfl⟩ := hrel
    cases gk with
    | zero =>
      simp only [Nat.sub_zero] at hi3 ⊢
      go_wp2_with fail
      go_ret
      exact ⟨true, rfl, fun _ => (by omega), rfl⟩
    | succ k1 =>
      obtain ⟨i, hi⟩ : ∃ i, ls.length - (k1 + 1) = i := ⟨_, rfl⟩
      have hi2 : ls.length - k1 = i + 1 := by omega
      have HI2 := Lib.hid hi2
      have hlt : i < ls.length := by omega
      rw [hi] at hi3 ⊢
      obtain ⟨ad, B, cB, rfl, hcell, hcB, hrd⟩ := KA.out.2 i hlt
      obtain ⟨m, hm⟩ : ∃ m, (ls.getD i []).length = m := ⟨_, rfl⟩
      rw [hm] at hcell
      obtain ⟨q, hq⟩ : ∃ q, IntKind.i64.wrap (n + (m : Int)) = q := ⟨_, rfl⟩
      clear hi hi2 hrd hm hcB
      by_cases h1 : 6000 < q
      · have h1' : decide (6000 < q) = true := decide_eq_true h1
        go_wp2_with fail
        go_ret
        exact ⟨false, rfl, fun h => (by cases h), rfl⟩
      have h1' : decide (6000 < q) = false := decide_eq_false h1
      by_cases h2 : 300 < i
      · have h2' : decide (300 < i) = true := decide_eq_true h2
        go_wp2_with fail
        go_ret
        exact ⟨false, rfl, fun h => (by cases h), rfl⟩
      have h2' : decide (300 < i) = false := decide_eq_false h2
      go_wp2_with fail
      go_roundg k1
      case measure => omega
      case rel =>
        rw [HI2.out]
        exact ⟨by omega, ⟨_, rfl⟩, rfl, by omega, rfl⟩
end Go.Proofs.Ytohmcpblagcfeaa
