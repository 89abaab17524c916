
/-
  The library's stable sort over shelterbelt/shelterbeltref04.Pair: the comparison's closure, swapRange, rotate. Conditions: the row is the call's own; the closure's variable holds the order.
-/
import Derived.Test.YtacgkoclammggaaExch
import Derived.Test.YtacgkoclammggaaStab
import Derived.Test.YtacgkoclammggaaLexP
import Derived.Test.YtacgkoclammggaaLaw4
import Derived.BigRegion
namespace Go.Proofs.Ytacgkoclammggaa
open Go.RowKit
set_option linter.unusedVariables false
set_option maxRecDepth 100000
set_option linter.unusedSimpArgs false
attribute [local go_sem] Oper.semAt_some

/-- The closure's variable holds the order. -/
def CmP (w : World) (bf : Nat) : Prop := w.cell? ⟨bf, 0, none⟩ = some (.func (.func 48) #[] #[])
/-- The closure. -/
abbrev cmpP (bf : Nat) : Value := .func (.func 119) #[] #[.pointer (some ⟨bf, 0, none⟩)]
theorem CmP.below {w w' : World} {bf : Nat} (h : CmP w bf) (hb : Below w.heap.size w w') : CmP w' bf := cell_below hb h (World.block_lt_of_cell? _ _ h)
theorem CmP.only {w w' : World} {S : Nat → Prop} {bf : Nat} (h : CmP w bf) (ho : Only S w w') (hs : ¬ S bf) : CmP w' bf := ho.cell h hs
set_option maxHeartbeats 3200000 in
theorem CmpP_calls (bf : Nat) (x y : Int × Int) (w : World) (h : CmP w bf) :
    Calls Try.prog 119 #[.agg #[.int .i64 x.1, .int .i64 x.2], .agg #[.int .i64 y.1, .int .i64 y.2], .pointer (some ⟨bf, 0, none⟩)] w fun e w' => ∃ m : Int, e = .returned (.int .i64 m) ∧ decide (m < 0) = ltP x y ∧ Below w.heap.size w w' := by
  obtain ⟨x0, x1⟩ := x
  obtain ⟨y0, y1⟩ := y
  obtain ⟨m, hm⟩ : ∃ m : Int, (if lessB x0 x1 y0 y1 then -1 else if lessB y0 y1 x0 x1 then 1 else 0 : Int) = m := ⟨_, rfl⟩
  have hlt : decide (m < 0) = ltP (x0, x1) (y0, y1) := by
    show _ = lessB x0 x1 y0 y1
    rw [← hm]
    cases lessB x0 x1 y0 y1 <;> cases lessB y0 y1 x0 x1 <;> rfl
  have hc := fun (W : World) => CompareP_calls x0 x1 y0 y1 W
  rw [hm] at hc
  have HC := Lib.hid hc
  have HLT := Lib.hid hlt
  clear hm hlt hc
  obtain ⟨w1, hw1⟩ : ∃ W, (w.alloc (.cells #[.int .i64 x0, .int .i64 x1] 80)).alloc (.cells #[.int .i64 y0, .int .i64 y1] 80) = W := ⟨_, rfl⟩
  have hb1 : Below w.heap.size w w1 := by rw [← hw1]; exact below_alloc1 (below_alloc1 (Below.refl _ _) _) _
  have ba : w1.heap[w.heap.size]? = some (.cells #[.int .i64 x0, .int .i64 x1] 80 (0, 0)) := by rw [← hw1]; exact obj_below ((Below.refl _ _).alloc (Nat.le_refl _) _) (heap_alloc_new w _) (obj_lt (heap_alloc_new w _))
  have bb : w1.heap[w.heap.size + 1]? = some (.cells #[.int .i64 y0, .int .i64 y1] 80 (0, 0)) := by rw [← hw1]; have h := heap_alloc_new (w.alloc (.cells #[.int .i64 x0, .int .i64 x1] 80)) (.cells #[.int .i64 y0, .int .i64 y1] 80); rwa [World.size_alloc] at h
  have h0 : w1.cell? ⟨w.heap.size, 0, none⟩ = some (.int .i64 x0) := by simp [World.cell?, ba]
  have h1 : w1.cell? ⟨w.heap.size, 1, none⟩ = some (.int .i64 x1) := by simp [World.cell?, ba]
  have h2 : w1.cell? ⟨w.heap.size + 1, 0, none⟩ = some (.int .i64 y0) := by simp [World.cell?, bb]
  have h3 : w1.cell? ⟨w.heap.size + 1, 1, none⟩ = some (.int .i64 y1) := by simp [World.cell?, bb]
  have h4 : w1.cell? ⟨bf, 0, none⟩ = some (.func (.func 48) #[] #[]) := h.below hb1
  have HB1 := Lib.hid hb1
  clear ba bb h hb1
  go_enter Try.func119, Try.ntmps119
  go_wp2_with fail
  (try rw [hw1])
  clear hw1
  go_wp2_with fail
  refine (HC.out _).mono ?_
  rintro e w3 ⟨he, hbn⟩
  subst he
  have HB3 := Lib.hid (HB1.out.trans (hbn.mono HB1.out.size))
  go_wp2_with fail
  go_ret
  exact ⟨m, rfl, HLT.out, HB3.out⟩
set_option maxHeartbeats 3200000 in
set_option maxRecDepth 1000000 in
theorem SwapRangeP_calls (cv : Value) (lo : Nat) (A : Option Addr) (n c a b m : Nat) (P U M V S : List (Int × Int)) (w : World) (h : OwnF w lo 80 2 twoP (.slice A n c) (P ++ (U ++ (M ++ (V ++ S))))) (ha : P.length = a) (hu : U.length = m) (hv : V.length = m) (hb : a + m + M.length = b) (hn : n ≤ 1000000) :
    Calls Try.prog 127 #[.slice A n c, .int .i64 (a : Int), .int .i64 (b : Int), .int .i64 (m : Int), cv] w fun e w' => e = .returned (.tuple #[]) ∧ OwnF w' lo 80 2 twoP (.slice A n c) (P ++ (V ++ (M ++ (U ++ S)))) ∧ Only (OwnB (.slice A n c)) w w' := by
  have hlen : a + m + M.length + m ≤ n := by have := h.len; simp at this; omega
  have HH := Lib.hid (show OwnF w lo 80 2 twoP (.slice A n c) (SwL P U M V S 0) by rw [SwL.zero]; exact h)
  have HU := Lib.hid hu
  have HV := Lib.hid hv
  have HA := Lib.hid ha
  have HB := Lib.hid hb
  rw [hb] at hlen
  have hab : a + m ≤ b := by omega
  clear h hu hv ha hb
  go_enter Try.func127, Try.ntmps127
  go_wp2_with fail
  go_loopg [10] m (fun kq v10 w' => kq ≤ m ∧ v10 = .int .i64 ((m - kq : Nat) : Int) ∧ OwnF w' lo 80 2 twoP (.slice A n c) (SwL P U M V S (m - kq)) ∧ Only (OwnB (.slice A n c)) w w')
  case atStart => exact ⟨Nat.le_refl _, by simp, by simp only [Nat.sub_self]; exact HH.out, Only.refl _ _⟩
  case round =>
    clear HH
    obtain ⟨hkq, rfl, hO, hon⟩ := hrel
    have HON := Lib.hid hon
    clear hon
    cases gk with
    | zero =>
      simp only [Nat.sub_zero] at hO ⊢
      rw [SwL.all HU.out HV.out] at hO
      have HO := Lib.hid hO
      clear hO
      have hlt0 : ¬ ((m : Int) < (m : Int)) := by omega
      go_wp2_with fail
      go_end0
      exact ⟨rfl, HO.out, HON.out⟩
    | succ k1 =>
      obtain ⟨i, hi⟩ : ∃ i, m - (k1 + 1) = i := ⟨_, rfl⟩
      have hi2 : m - k1 = i + 1 := by omega
      have HI := Lib.hid hi2
      have him : i < m := by omega
      have bi : (i : Int) < (m : Int) := by omega
      rw [hi] at hO ⊢
      clear hi hi2
      obtain ⟨X, Y, Z, ⟨u0, u1⟩, ⟨v0, v1⟩, he1, he2, hx, hy⟩ := SwL.step (P := P) (U := U) (M := M) (V := V) (S := S) HU.out HV.out him
      rw [he1] at hO
      rw [HA.out] at hx hy
      rw [HB.out] at hy
      have HE2 := Lib.hid he2
      have HO := Lib.hid hO
      obtain ⟨p, hp⟩ : ∃ p, a + i = p := ⟨_, rfl⟩
      obtain ⟨q, hq⟩ : ∃ q, b + i = q := ⟨_, rfl⟩
      rw [hp] at hx hy
      rw [hq] at hy
      have hwp : IntKind.i64.wrap ((a : Int) + (i : Int)) = (p : Int) := by rw [i64_w, show (a : Int) + (i : Int) = (p : Int) by omega]; exact wrap64_id _ (by omega)
      have hwq : IntKind.i64.wrap ((b : Int) + (i : Int)) = (q : Int) := by rw [i64_w, show (b : Int) + (i : Int) = (q : Int) by omega]; exact wrap64_id _ (by omega)
      have hpq : p < q := by omega
      clear he1 he2 hO
      obtain ⟨g, hgA, hgb, hin, hjn, hu0, hu1, hv0, hv1, hfz, hex1, hex2⟩ := OwnF.exch rfl HO.out hx hy
      subst hgA
      have hf1 := hfz (p * 2)
      have hf2 := hfz (p * 2 + 1)
      have hf3 := hfz (q * 2)
      have hf4 := hfz (q * 2 + 1)
      have bI : (p : Int) < (n : Int) := by omega
      have bJ : (q : Int) < (n : Int) := by omega
      have n00a : ¬ p * 2 = q * 2 := by omega
      have n00b : ¬ q * 2 = p * 2 := by omega
      have n01a : ¬ p * 2 = q * 2 + 1 := by omega
      have n01b : ¬ q * 2 + 1 = p * 2 := by omega
      have n10a : ¬ p * 2 + 1 = q * 2 := by omega
      have n10b : ¬ q * 2 = p * 2 + 1 := by omega
      have n11a : ¬ p * 2 + 1 = q * 2 + 1 := by omega
      have n11b : ¬ q * 2 + 1 = p * 2 + 1 := by omega
      have HEX := Lib.hid hex1
      clear hfz hex1 hex2 hgb hin hjn
      clear hp hq hx hy
      go_wp2_with fail
      go_region
      go_wp2_with fail
      go_roundg k1
      case measure => omega
      case rel => exact ⟨by omega, by rw [HI.out]; simp, by rw [HI.out, HE2.out]; exact own_drew1 HEX.out.1, HON.out.trans (HEX.out.2.trans (Only.of_below (Below.refl _ _).drew))⟩
end Go.Proofs.Ytacgkoclammggaa
