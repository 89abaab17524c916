/-
  The streams (package stream, layer 6) and the reference's: what each tells. Condition of each: the list reads as numbers of 64 bits.
-/
import Derived.Test.YtmcbgogeemnjnaaRng2
namespace Go.Proofs.Ytmcbgogeemnjnaa
open Go.RowKit
set_option linter.unusedVariables false
set_option linter.unusedSimpArgs false

/-! ### every T-th number of a list, from the t-th on -/
def cnt (n t T : Nat) : Nat := (n + (T - 1 - t)) / T
def pk (l : List Int) (t T c : Nat) : List Int := (List.range c).map fun q => l.getD (t + q * T) 0
theorem pk_succ (l : List Int) (t T c : Nat) : pk l t T (c + 1) = pk l t T c ++ [l.getD (t + c * T) 0] := by simp [pk, List.range_succ]
theorem pk_length (l : List Int) (t T c : Nat) : (pk l t T c).length = c := by simp [pk]
theorem pk_zero (l : List Int) (t T : Nat) : pk l t T 0 = [] := rfl
theorem pk_u64 {l : List Int} (h : U64 l) (t T c : Nat) : U64 (pk l t T c) := by
  intro x hx
  simp [pk] at hx
  obtain ⟨q, _, rfl⟩ := hx
  simpa [List.getD] using h.at (t + q * T)
theorem cnt_zero {t T : Nat} (h : t < T) : cnt 0 t T = 0 := Nat.div_eq_of_lt (by omega)
theorem cnt_is {n t T q : Nat} (h : t < T) (h1 : q * T ≤ n + (T - 1 - t)) (h2 : n + (T - 1 - t) < q * T + T) : cnt n t T = q := by
  refine Nat.div_eq_of_lt_le h1 ?_
  rw [Nat.succ_mul]
  exact h2
theorem cnt_yes {t T i : Nat} (h : t < T) (hr : i % T = t) : cnt (i + 1) t T = cnt i t T + 1 ∧ i = t + cnt i t T * T := by
  have hi := Nat.div_add_mod i T
  rw [hr, Nat.mul_comm] at hi
  have e1 : cnt i t T = i / T := cnt_is h (by omega) (by omega)
  have e2 : cnt (i + 1) t T = i / T + 1 := cnt_is h (by rw [Nat.succ_mul]; omega) (by rw [Nat.succ_mul]; omega)
  rw [e1, e2]
  exact ⟨rfl, by omega⟩
theorem cnt_no {t T i : Nat} (h : t < T) (hr : i % T ≠ t) : cnt (i + 1) t T = cnt i t T := by
  have hi := Nat.div_add_mod i T
  have hm := Nat.mod_lt i (show 0 < T by omega)
  rw [Nat.mul_comm] at hi
  by_cases h1 : i % T < t
  · rw [cnt_is (n := i) (q := i / T) h (by omega) (by omega), cnt_is (n := i + 1) (q := i / T) h (by omega) (by omega)]
  · rw [cnt_is (n := i) (q := i / T + 1) h (by rw [Nat.succ_mul]; omega) (by rw [Nat.succ_mul]; omega), cnt_is (n := i + 1) (q := i / T + 1) h (by rw [Nat.succ_mul]; omega) (by rw [Nat.succ_mul]; omega)]
theorem cnt_le (n t T : Nat) (h : t < T) : cnt n t T ≤ n := by
  unfold cnt
  rcases Nat.eq_zero_or_pos n with rfl | hn
  · rw [Nat.div_eq_of_lt (by omega)]; omega
  · refine Nat.lt_succ_iff.1 ((Nat.div_lt_iff_lt_mul (by omega)).2 ?_)
    have := Nat.mul_le_mul_left n (show 1 ≤ T by omega)
    rw [Nat.succ_mul]
    omega

/-! ### a seed's n-th number -/
theorem nth_eq (seed n : Int) : mixAt (IntKind.u64.wrap (seed + IntKind.u64.wrap (IntKind.u64.wrap n * 11400714819323198485))) 1 = nthOut seed n := by
  unfold mixAt nthOut
  congr 1
  rw [wrap_u64', wrap_u64', wrap_u64', wrap_u64', wrap_u64']
  omega
def nth0 (seed n : Int) : Int := if n < 0 then 0 else nthOut seed n
theorem sNth_calls (seed n : Int) (w : World) :
    Calls Try.prog 27 #[.int .u64 seed, .int .i64 n] w fun e w' => e = .returned (.int .u64 (nth0 seed n)) ∧ Below w.heap.size w w' := by
  unfold nth0
  by_cases h : n < 0
  · rw [if_pos h]
    go_enter Try.func27, Try.ntmps27
    go_wp2_with fail
    go_ret
    exact ⟨rfl, Below.refl _ _⟩
  · rw [if_neg h]
    have e := nth_eq seed n
    obtain ⟨q, hq⟩ : ∃ q, nthOut seed n = q := ⟨_, rfl⟩
    rw [hq] at e ⊢
    have HE := Lib.hid e
    clear e hq
    go_enter Try.func27, Try.ntmps27
    go_wp2_with fail
    refine (Mix_calls _ _).mono ?_
    rintro e w1 ⟨v, he, hs, hb, T, p, rfl⟩
    subst he
    obtain ⟨T, a, h1, hT⟩ := hs.shape
    injection h1 with h1 h2
    subst h1 h2
    have hm := hT.meth a
    have hc := hT.call (.pointer (some a))
    have HS := Lib.hid hs
    have hz := hb.size
    clear hs
    go_wp2_with fail
    refine HS.out.draw.mono ?_
    rintro e w2 ⟨he, hs, ho⟩
    have h5 := HE.out
    rw [Nat.zero_add, h5] at he
    subst he
    have hb2 : Below w.heap.size w w2 := hb.trans (ho.below hz fun k hk h => by have := h.1; omega)
    clear hs ho hb
    go_wp2_with fail
    go_ret
    exact ⟨rfl, hb2⟩

/-! ### a tree's stream -/
def offT (scr : Bool) (seed : Int) (l : List Int) (tree trees : Int) : Nat → Int :=
  if tree < 0 ∨ trees ≤ tree then fun _ => 0 else if scr then fun i => (pk l tree.toNat trees.toNat (cnt l.length tree.toNat trees.toNat)).getD i 0 else fun i => mixAt (nthOut seed tree) (i + 1)
theorem ofScript (lo hi : Nat) (w : World) : True := trivial
set_option maxHeartbeats 1600000 in
theorem sOf_calls (scr : Bool) (seed : Int) (A : Option Addr) (c : Nat) (l : List Int) (tree trees : Int) (w : World) (ha : Rd w .u64 A l) (hu : U64 l) (hl : l.length ≤ 1000000) (htr : -9223372036854775808 ≤ tree ∧ trees ≤ 9223372036854775807) :
    Calls Try.prog 25 #[.agg #[.bool scr, .int .u64 seed, .slice A l.length c], .int .i64 tree, .int .i64 trees] w fun e w' => ∃ v, e = .returned v ∧ Src w' w.heap.size w'.heap.size v (offT scr seed l tree trees) ∧ Below w.heap.size w w' ∧ ∃ T p, v = .iface T p := by
  have KA := Lib.hid ha
  have HU := Lib.hid hu
  have lA := ha.1
  clear ha hu
  obtain ⟨s, hs0⟩ : ∃ s, offT scr seed l tree trees = s := ⟨_, rfl⟩
  rw [hs0]
  have HS := Lib.hid hs0
  clear hs0
  by_cases h1 : tree < 0 ∨ trees ≤ tree
  · have e1 : s = fun i => ([] : List Int).getD i 0 := by rw [← HS.out]; unfold offT; rw [if_pos h1]; rfl
    have t1 : (tree < 0) ∨ (0 ≤ tree ∧ trees ≤ tree) := by omega
    have HE := Lib.hid e1
    clear e1 h1
    rcases t1 with t1 | ⟨t1, t2⟩
    · have t1' : decide (tree < 0) = true := decide_eq_true t1
      go_enter Try.func25, Try.ntmps25
      go_wp2_with fail
      refine (Script_calls none 0 [] _ (Rd.nil _ _ _) (by intro x hx; cases hx) (by simp)).mono ?_
      rintro e w1 ⟨v, he, hs, hb, T, p, rfl⟩
      subst he
      have hs2 := hs.wide (lo' := w.heap.size) (hi' := w1.heap.size) (by simp) (Nat.le_refl _)
      have hb2 : Below w.heap.size w w1 := (below_alloc1 (Below.refl _ _) _).trans (hb.mono (by simp))
      rw [← HE.out] at hs2
      have H2 := Lib.hid hs2
      clear hs hb hs2
      go_wp2_with fail
      go_ret
      exact ⟨_, rfl, H2.out, hb2, _, _, rfl⟩
    · have t1' : decide (tree < 0) = false := decide_eq_false (by omega)
      have t2' : decide (trees ≤ tree) = true := decide_eq_true t2
      go_enter Try.func25, Try.ntmps25
      go_wp2_with fail
      refine (Script_calls none 0 [] _ (Rd.nil _ _ _) (by intro x hx; cases hx) (by simp)).mono ?_
      rintro e w1 ⟨v, he, hs, hb, T, p, rfl⟩
      subst he
      have hs2 := hs.wide (lo' := w.heap.size) (hi' := w1.heap.size) (by simp) (Nat.le_refl _)
      have hb2 : Below w.heap.size w w1 := (below_alloc1 (Below.refl _ _) _).trans (hb.mono (by simp))
      rw [← HE.out] at hs2
      have H2 := Lib.hid hs2
      clear hs hb hs2
      go_wp2_with fail
      go_ret
      exact ⟨_, rfl, H2.out, hb2, _, _, rfl⟩
  have t1' : decide (tree < 0) = false := decide_eq_false (by omega)
  have t2' : decide (trees ≤ tree) = false := decide_eq_false (by omega)
  obtain ⟨t, rfl⟩ : ∃ k : Nat, tree = k := ⟨tree.toNat, by omega⟩
  obtain ⟨T, rfl⟩ : ∃ k : Nat, trees = k := ⟨trees.toNat, by omega⟩
  have htT : t < T := by omega
  have hT2 : T ≤ 9223372036854775807 := by omega
  have e0 : offT scr seed l t T = if scr then fun i => (pk l t T (cnt l.length t T)).getD i 0 else fun i => mixAt (nthOut seed t) (i + 1) := by
    unfold offT
    rw [if_neg h1]
    simp
  rw [HS.out] at e0
  clear h1 HS htr
  cases scr with
  | false =>
    have HE := Lib.hid e0
    obtain ⟨q, hq⟩ : ∃ q, nthOut seed t = q := ⟨_, rfl⟩
    rw [hq] at HE
    have hq2 : nth0 seed t = q := by unfold nth0; rw [if_neg (by omega), hq]
    have HQ := Lib.hid hq2
    clear e0 hq hq2
    go_enter Try.func25, Try.ntmps25
    go_wp2_with fail
    refine (sNth_calls seed t _).mono ?_
    rintro e w1 ⟨he, hb⟩
    rw [HQ.out] at he
    subst he
    have hb2 : Below w.heap.size w w1 := (below_alloc1 (Below.refl _ _) _).trans (hb.mono (by simp))
    have hz := hb2.size
    clear hb
    go_wp2_with fail
    refine (Mix_calls q _).mono ?_
    rintro e w2 ⟨v, he, hs, hb, T', p, rfl⟩
    subst he
    have hb3 : Below w.heap.size w w2 := hb2.trans (hb.mono hz)
    have hs2 := hs.wide (lo' := w.heap.size) (hi' := w2.heap.size) hz (Nat.le_refl _)
    have h5 := HE.out
    simp only [Bool.false_eq_true, if_false] at h5
    rw [← h5] at hs2
    have H2 := Lib.hid hs2
    clear hs hb hs2 h5
    go_wp2_with fail
    go_ret
    exact ⟨_, rfl, H2.out, hb3, _, _, rfl⟩
  | true =>
    have HE := Lib.hid e0
    clear e0
    go_enter Try.func25, Try.ntmps25
    go_wp2_with fail
    obtain ⟨w1, hw⟩ : ∃ W, w.alloc (.cells #[.bool true, .int .u64 seed, .slice A l.length c] 51) = W := ⟨_, rfl⟩
    rw [hw]
    have hb1 : Below w.heap.size w w1 := by rw [← hw]; exact below_alloc1 (Below.refl _ _) _
    have hz1 := hb1.size
    clear hw
    have KA1 := Lib.hid (KA.out.below hb1)
    go_loopg [31, 7] l.length (fun kq v31 v7 w' => kq ≤ l.length ∧ v31 = .int .i64 ((l.length - kq : Nat)) ∧ Own w' w1.heap.size 22 .u64 v7 (pk l t T (cnt (l.length - kq) t T)) ∧ Below w1.heap.size w1 w')
    case atStart => exact ⟨Nat.le_refl _, by simp, by rw [Nat.sub_self, cnt_zero htT]; exact World.ownsRow_nil _ _ _ _, Below.refl _ _⟩
    case round =>
      obtain ⟨hk, rfl, HO, HB⟩ := hrel
      have HO' := Lib.hid HO
      have HBH := Lib.hid HB
      have hwz := HB.size
      clear HO HB
      cases gk with
      | zero =>
        simp only [Nat.sub_zero] at HO' ⊢
        obtain ⟨A1, c1, rfl, hc1, hr1⟩ := HO'.out.shape
        have hlen := pk_length l t T (cnt l.length t T)
        have hcl := cnt_le l.length t T htT
        have hb2 : Below w.heap.size w wr := hb1.trans (HBH.out.mono hz1)
        have H1 := Lib.hid hr1
        obtain ⟨L, hL⟩ : ∃ L, pk l t T (cnt l.length t T) = L := ⟨_, rfl⟩
        have hUL : U64 L := by rw [← hL]; exact pk_u64 HU.out _ _ _
        rw [hL] at H1 hlen hc1 ⊢
        have HL := Lib.hid hL
        have HUL := Lib.hid hUL
        have hlL : L.length ≤ 1000000 := by omega
        clear hlen hcl hL hr1 hUL HO'
        go_wp2_with fail
        refine (Script_calls A1 c1 L _ H1.out HUL.out (by omega)).mono ?_
        rintro e w2 ⟨v, he, hs, hb, T', p, rfl⟩
        subst he
        have hb3 : Below w.heap.size w w2 := hb2.trans (hb.mono hb2.size)
        have hs2 := hs.wide (lo' := w.heap.size) (hi' := w2.heap.size) hb2.size (Nat.le_refl _)
        have h5 := HE.out
        simp only [if_true] at h5
        rw [HL.out] at h5
        rw [← h5] at hs2
        have H2 := Lib.hid hs2
        clear hs hb hs2 h5
        go_wp2_with fail
        go_ret
        exact ⟨_, rfl, H2.out, hb3, _, _, rfl⟩
      | succ k1 =>
        obtain ⟨i, hi⟩ : ∃ i, l.length - (k1 + 1) = i := ⟨_, rfl⟩
        have hi2 : l.length - k1 = i + 1 := by omega
        have HI := Lib.hid hi2
        have hlt : i < l.length := by omega
        rw [hi] at HO' ⊢
        obtain ⟨ad, rfl, hca⟩ := KA1.out.2 i hlt
        have hca' : wr.cell? (ad.add i) = _ := cell_below HBH.out hca (World.block_lt_of_cell? _ _ hca)
        obtain ⟨x, hx⟩ : ∃ x, l.getD i 0 = x := ⟨_, rfl⟩
        rw [hx] at hca hca'
        have HX := Lib.hid hx
        have hmod : (i : Int).tmod (T : Int) = ((i % T : Nat) : Int) := by rw [Int.tmod_eq_emod_of_nonneg (by omega)]; rfl
        obtain ⟨r, hr⟩ : ∃ r, i % T = r := ⟨_, rfl⟩
        rw [hr] at hmod
        have HR := Lib.hid hr
        have hT0 : ¬ (T : Int) = 0 := by omega
        clear hi hi2 hx hr
        by_cases hrt : r = t
        · subst hrt
          obtain ⟨c1, c2⟩ := cnt_yes htT HR.out
          have hst : pk l r T (cnt (i + 1) r T) = pk l r T (cnt i r T) ++ [x] := by rw [c1, pk_succ, ← c2, HX.out]
          have hcl := cnt_le i r T htT
          have hlen := pk_length l r T (cnt i r T)
          have HST := Lib.hid hst
          clear c1 c2 hst
          go_wp2_with (at_builtin; refine wpList_appI _ rfl (.tmp 41) (.tmp 43) 23 22 rfl .u64 8 Try.underlying23 info_u64 (by omega) w1.heap.size u7 (pk l r T (cnt i r T)) rfl (some ⟨wr.heap.size, 0, none⟩) 1 [x] rfl (HO'.out.alloc1 _) w1 (HBH.out.alloc hwz _) (by simp; omega) (Rd.new wr .u64 [x] 22 (by simp)) (by simp; omega) ?_; intro v1 w2 ho hgrow hbel hat hnil; rw [← HST.out] at ho; have HO := Lib.hid ho; clear ho hat hnil hgrow)
          go_roundg k1
          case measure => omega
          case rel =>
            refine ⟨by omega, by rw [HI.out]; rfl, ?_, hbel⟩
            rw [HI.out]
            exact HO.out
        · have hst : cnt (i + 1) t T = cnt i t T := cnt_no htT (by rw [HR.out]; exact hrt)
          have hrt2 : ((r : Int) == (t : Int)) = false := by simp; omega
          have HST := Lib.hid hst
          clear hst
          go_wp2_with fail
          go_roundg k1
          case measure => omega
          case rel =>
            refine ⟨by omega, by rw [HI.out]; rfl, ?_, HBH.out⟩
            rw [HI.out, HST.out]
            exact HO'.out
end Go.Proofs.Ytmcbgogeemnjnaa
