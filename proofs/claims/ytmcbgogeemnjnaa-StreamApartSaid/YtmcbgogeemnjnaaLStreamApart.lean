/-
  The statement StreamApart as a walk: it answers true and leaves all memory that was there as it was. Condition: the arguments are a list of numbers of 64 bits, two such numbers, and two ints, within the form's reach.
-/
import Derived.Test.YtmcbgogeemnjnaaLaw06
import Derived.Test.YtmcbgogeemnjnaaOpen
namespace Go.Proofs.Ytmcbgogeemnjnaa
open Go.RowKit
set_option linter.unusedVariables false
set_option linter.unusedSimpArgs false

/-! ### a list in which all numbers of other trees, as far as the i-th, are turned -/
def oth (l : List Int) (y : Int) (t T i : Nat) : List Int := (List.range l.length).map fun q => if q < i ∧ q % T ≠ t then bits .xor .u64 (l.getD q 0) y else l.getD q 0
theorem oth_length (l : List Int) (y : Int) (t T i : Nat) : (oth l y t T i).length = l.length := by simp [oth]
theorem oth_get (l : List Int) (y : Int) (t T i q : Nat) (h : q < l.length) : (oth l y t T i).getD q 0 = if q < i ∧ q % T ≠ t then bits .xor .u64 (l.getD q 0) y else l.getD q 0 := by simp [oth, List.getD, h]
theorem oth_ext {a b : List Int} (hl : a.length = b.length) (h : ∀ q, q < a.length → a.getD q 0 = b.getD q 0) : a = b := by
  refine List.ext_getElem hl fun i h1 h2 => ?_
  have := h i h1
  simpa [List.getD, h1, h2] using this
theorem oth_zero (l : List Int) (y : Int) (t T : Nat) : oth l y t T 0 = l := oth_ext (oth_length _ _ _ _ _) fun q hq => by
  rw [oth_length] at hq
  rw [oth_get _ _ _ _ _ _ hq, if_neg (by omega)]
theorem oth_yes (l : List Int) (y : Int) (t T i : Nat) (h : i % T = t) : oth l y t T (i + 1) = oth l y t T i := oth_ext (by rw [oth_length, oth_length]) fun q hq => by
  rw [oth_length] at hq
  rw [oth_get _ _ _ _ _ _ hq, oth_get _ _ _ _ _ _ hq]
  by_cases e : q = i
  · subst e
    rw [if_neg (by omega), if_neg (by omega)]
  · by_cases h1 : q < i ∧ q % T ≠ t
    · rw [if_pos (by omega), if_pos h1]
    · rw [if_neg (by omega), if_neg h1]
theorem oth_no (l : List Int) (y : Int) (t T i : Nat) (hi : i < l.length) (h : i % T ≠ t) : oth l y t T (i + 1) = (oth l y t T i).set i (bits .xor .u64 (l.getD i 0) y) := oth_ext (by rw [List.length_set, oth_length, oth_length]) fun q hq => by
  rw [oth_length] at hq
  rw [oth_get _ _ _ _ _ _ hq]
  by_cases e : q = i
  · subst e
    rw [if_pos (by omega)]
    simp [List.getD, oth_length, hq]
  · have e2 : ((oth l y t T i).set i (bits .xor .u64 (l.getD i 0) y)).getD q 0 = (oth l y t T i).getD q 0 := by
      simp only [List.getD]
      rw [List.getElem?_set_ne (by omega)]
    rw [e2, oth_get _ _ _ _ _ _ hq]
    by_cases h1 : q < i ∧ q % T ≠ t
    · rw [if_pos (by omega), if_pos h1]
    · rw [if_neg (by omega), if_neg h1]
theorem oth_at (l : List Int) (y : Int) (t T i : Nat) (hi : i < l.length) : (oth l y t T i).getD i 0 = l.getD i 0 := by rw [oth_get _ _ _ _ _ _ hi, if_neg (by omega)]
theorem oth_u64 {l : List Int} (h : U64 l) (y : Int) (t T i : Nat) : U64 (oth l y t T i) := by
  intro x hx
  simp only [oth, List.mem_map, List.mem_range] at hx
  obtain ⟨q, hq, rfl⟩ := hx
  split
  · exact bits_u64 _ _
  · exact h.at q
theorem oth_pk (l : List Int) (y : Int) (t T i c : Nat) (ht : t < T) : pk (oth l y t T i) t T c = pk l t T c := by
  unfold pk
  refine List.map_congr_left fun q hq => ?_
  rcases Nat.lt_or_ge (t + q * T) l.length with h | h
  · have : (t + q * T) % T = t := by rw [Nat.add_mul_mod_self_right]; exact Nat.mod_eq_of_lt ht
    rw [oth_get _ _ _ _ _ _ h, if_neg (by omega)]
  · simp only [List.getD]
    rw [List.getElem?_eq_none h, List.getElem?_eq_none (by rw [oth_length]; exact h)]
theorem offT_true (seed : Int) (l : List Int) (t T : Nat) (h : t < T) : offT true seed l t T = fun i => (pk l t T (cnt l.length t T)).getD i 0 := by
  unfold offT
  rw [if_neg (by omega), if_pos rfl]
  simp
theorem pk_over (l : List Int) (t T c i : Nat) (h : c ≤ i) : (pk l t T c).getD i 0 = 0 := by
  simp only [List.getD]
  rw [List.getElem?_eq_none (by rw [pk_length]; exact h)]
  rfl

set_option maxHeartbeats 3200000 in
set_option maxRecDepth 100000 in
theorem StreamApart_law (A : Option Addr) (c : Nat) (l : List Int) (y seed tree trees : Int) (w : World) (ha : Rd w .u64 A l) (hu : ∀ n ∈ l, (Lit.int .u64 n).wf = true) (na : A = none → l = [] ∧ c = 0) (la : l.length * 8 ≤ 140737488351232)
    (hy : (Lit.int .u64 y).wf = true) (hseed : (Lit.int .u64 seed).wf = true) (htr : (Lit.int .i64 tree).wf = true) (htrs : (Lit.int .i64 trees).wf = true) :
    Calls Try.prog 9 #[.slice A l.length c, .int .u64 y, .int .u64 seed, .int .i64 tree, .int .i64 trees] w fun e w' => e = .returned (.bool true) ∧ Below w.heap.size w w' := by
  have HU := Lib.hid (u64_of_wf hu)
  have KA := Lib.hid ha
  have lA := ha.1
  clear hu ha hseed htr htrs na hy
  by_cases h0 : 300 < l.length
  · have h0' : decide (300 < (l.length : Int)) = true := by simp; omega
    go_enter Try.func9, Try.ntmps9
    go_wp2_with fail
    refine (awake6_calls _).mono ?_
    rintro e w1 ⟨he, hb1⟩
    subst he
    go_wp2_with fail
    go_ret
    exact ⟨rfl, hb1⟩
  have h0' : decide (300 < (l.length : Int)) = false := by simp; omega
  replace h0 : l.length ≤ 300 := by omega
  by_cases h1 : trees < 1
  · have h1' : decide (trees < 1) = true := by simp; omega
    go_enter Try.func9, Try.ntmps9
    go_wp2_with fail
    refine (awake6_calls _).mono ?_
    rintro e w1 ⟨he, hb1⟩
    subst he
    go_wp2_with fail
    go_ret
    exact ⟨rfl, hb1⟩
  have h1' : decide (trees < 1) = false := by simp; omega
  replace h1 : 1 ≤ trees := by omega
  by_cases h2 : 60 < trees
  · have h2' : decide (60 < trees) = true := by simp; omega
    go_enter Try.func9, Try.ntmps9
    go_wp2_with fail
    refine (awake6_calls _).mono ?_
    rintro e w1 ⟨he, hb1⟩
    subst he
    go_wp2_with fail
    go_ret
    exact ⟨rfl, hb1⟩
  have h2' : decide (60 < trees) = false := by simp; omega
  replace h2 : trees ≤ 60 := by omega
  by_cases h3 : tree < 0
  · have h3' : decide (tree < 0) = true := by simp; omega
    go_enter Try.func9, Try.ntmps9
    go_wp2_with fail
    refine (awake6_calls _).mono ?_
    rintro e w1 ⟨he, hb1⟩
    subst he
    go_wp2_with fail
    go_ret
    exact ⟨rfl, hb1⟩
  have h3' : decide (tree < 0) = false := by simp; omega
  replace h3 : 0 ≤ tree := by omega
  by_cases h4 : trees ≤ tree
  · have h4' : decide (trees ≤ tree) = true := by simp; omega
    go_enter Try.func9, Try.ntmps9
    go_wp2_with fail
    refine (awake6_calls _).mono ?_
    rintro e w1 ⟨he, hb1⟩
    subst he
    go_wp2_with fail
    go_ret
    exact ⟨rfl, hb1⟩
  have h4' : decide (trees ≤ tree) = false := by simp; omega
  replace h4 : tree < trees := by omega
  obtain ⟨t, rfl⟩ : ∃ k : Nat, tree = k := ⟨tree.toNat, by omega⟩
  obtain ⟨T, rfl⟩ : ∃ k : Nat, trees = k := ⟨trees.toNat, by omega⟩
  have htT : t < T := by omega
  have hT2 : T ≤ 60 := by omega
  have hT0 : ¬ (T : Int) = 0 := by omega
  have hif := iface_nil
  go_enter Try.func9, Try.ntmps9
  go_wp2_with fail
  refine (awake6_calls _).mono ?_
  rintro e w1 ⟨he, hb1⟩
  subst he
  have hz1 := hb1.size
  have KA1 := Lib.hid (KA.out.below hb1)
  go_wp2_with (at_builtin; refine wpList_appI _ rfl (.tmp 41) (.tmp 42) 23 22 rfl .u64 8 Try.underlying23 info_u64 (by omega) w1.heap.size (.slice (some ⟨w1.heap.size, 0, none⟩) 0 0) [] rfl A c l rfl (Own.empty _ _ _) w1 (below_alloc1 (Below.refl _ _) _) (by simp) (KA1.out.alloc _) (by simp; omega) ?_; intro v1 w2 ho hgrow hbel hat hnil; rw [List.nil_append] at ho; obtain ⟨A1, c1, rfl, hc1, _⟩ := ho.shape; have HO := Lib.hid ho; clear ho hat hnil hgrow)
  have hb2 : Below w.heap.size w w2 := hb1.trans (hbel.mono hz1)
  have hz2 := hbel.size
  obtain ⟨n, hn⟩ : ∃ n, l.length = n := ⟨_, rfl⟩
  clear h0' h1' h2' h3' h4' h1 h2 h3 h4
  go_loopg [12, 13] l.length (fun kq v12 v13 w' => kq ≤ l.length ∧ v12 = .int .i64 ((cnt (l.length - kq) t T : Nat)) ∧ v13 = .int .i64 ((l.length - kq : Nat)) ∧ Own w' w1.heap.size 22 .u64 (.slice A1 l.length c1) (oth l y t T (l.length - kq)) ∧ Below w1.heap.size w1 w')
  case atStart => exact ⟨Nat.le_refl _, by rw [Nat.sub_self, cnt_zero htT]; rfl, by simp, by rw [Nat.sub_self, oth_zero]; exact HO.out, hbel⟩
  case round =>
    obtain ⟨hk, rfl, rfl, HO1, HB1⟩ := hrel
    have HO2 := Lib.hid HO1
    have HBH := Lib.hid HB1
    have hwz := HB1.size
    clear HO1 HB1 HO
    cases gk with
    | succ k1 =>
      obtain ⟨i, hi⟩ : ∃ i, l.length - (k1 + 1) = i := ⟨_, rfl⟩
      have hi2 : l.length - k1 = i + 1 := by omega
      have HI := Lib.hid hi2
      have hlt : i < l.length := by omega
      rw [hi] at HO2 ⊢
      have hcl := cnt_le i t T htT
      obtain ⟨N, hN⟩ : ∃ N, cnt i t T = N := ⟨_, rfl⟩
      rw [hN] at hcl ⊢
      have HN := Lib.hid hN
      have hN9 : N ≤ 300 := by omega
      have hN8 : IntKind.i64.wrap ((N : Int) + 1) = (N : Int) + 1 := by rw [i64_w]; exact wrap64_id _ (by omega)
      clear hcl
      have hmod : (i : Int).tmod (T : Int) = ((i % T : Nat) : Int) := by rw [Int.tmod_eq_emod_of_nonneg (by omega)]; rfl
      obtain ⟨r, hr⟩ : ∃ r, i % T = r := ⟨_, rfl⟩
      rw [hr] at hmod
      have HR := Lib.hid hr
      clear hi hi2 hr hN hn
      by_cases hrt : r = t
      · have hrt2 : ((r : Int) == (t : Int)) = true := by simp [hrt]
        have HE1 := Lib.hid (cnt_yes htT (by rw [HR.out]; exact hrt : i % T = t)).1
        have HE2 := Lib.hid (oth_yes l y t T i (by rw [HR.out]; exact hrt))
        clear hrt
        go_wp2_with fail
        go_roundg k1
        case measure => omega
        case rel =>
          rw [HI.out, HE1.out, HE2.out, HN.out]
          exact ⟨by omega, rfl, rfl, HO2.out, HBH.out⟩
      · have HE1 := Lib.hid (cnt_no htT (i := i) (by rw [HR.out]; exact hrt))
        have HE2 := Lib.hid (oth_no l y t T i hlt (by rw [HR.out]; exact hrt))
        have hrt2 : ((r : Int) == (t : Int)) = false := by simp; omega
        obtain ⟨g, rfl, hg1, hg2, hcell, hfr, hset, hown⟩ := HO2.out.at_ i hlt
        rw [oth_at l y t T i hlt] at hcell
        obtain ⟨x, hx⟩ : ∃ x, l.getD i 0 = x := ⟨_, rfl⟩
        rw [hx] at hcell
        have HX := Lib.hid hx
        have HSET := Lib.hid hset
        clear hx hset hown
        go_wp2_with fail
        go_roundg k1
        case measure => omega
        case rel =>
          rw [HI.out, HE1.out, HE2.out, HN.out, HX.out]
          exact ⟨by omega, rfl, rfl, HSET.out _, below_set HBH.out hg1 _ _⟩
    | zero =>
      simp only [Nat.sub_zero] at HO2 ⊢
      have HOL := Lib.hid (show (oth l y t T l.length).length = l.length from oth_length _ _ _ _ _)
      obtain ⟨L, hL⟩ : ∃ L, oth l y t T l.length = L := ⟨_, rfl⟩
      have HEL := Lib.hid hL
      have hUL : U64 L := by rw [← hL]; exact oth_u64 HU.out _ _ _ _
      rw [hL] at HO2 HOL
      have hs1 := offT_true 0 l t T htT
      have hs2 := offT_true seed L t T htT
      rw [HOL.out, ← hL, oth_pk l y t T _ _ htT, hL] at hs2
      have hov : ∀ i, cnt l.length t T ≤ i → (pk l t T (cnt l.length t T)).getD i 0 = 0 := fun i h => pk_over l t T _ i h
      have hcl := cnt_le l.length t T htT
      obtain ⟨N, hN⟩ : ∃ N, cnt l.length t T = N := ⟨_, rfl⟩
      rw [hN] at hs1 hs2 hov hcl ⊢
      obtain ⟨s, hs⟩ : ∃ s : Nat → Int, (fun i => (pk l t T N).getD i 0) = s := ⟨_, rfl⟩
      have hov2 : ∀ i, N ≤ i → s i = 0 := fun i h => by rw [← hs]; exact hov i h
      rw [hs] at hs1 hs2
      have HS1 := Lib.hid hs1
      have HS2 := Lib.hid hs2
      have HOV := Lib.hid hov2
      have HUL := Lib.hid hUL
      have hr := Lib.hid (HO2.out.rd).2
      have hb3 : Below w.heap.size w wr := hb1.trans (HBH.out.mono hz1)
      have hz3 := hb3.size
      clear hs1 hs2 hov hov2 hs hN hUL hL hbel hb2 hn
      go_wp2_with fail
      refine (sOf_calls true 0 A c l t T _ (KA.out.below hb3) HU.out (by omega) (by omega)).mono ?_
      rintro e w3 ⟨v, he, hs, hb, T1, p1, rfl⟩
      subst he
      rw [HS1.out] at hs
      have hb4 : Below w.heap.size w w3 := hb3.trans (hb.mono hz3)
      have H3 := Lib.hid (At.of_src hs)
      have R3 := Lib.hid (hr.out.below hb)
      have hz4 := hb.size
      clear hs hb
      have hll : L.length = l.length := HOL.out
      rw [← hll]
      have hLl : L.length ≤ 300 := by omega
      clear hll
      go_wp2_with fail
      refine (sOf_calls true seed A1 c1 L t T _ R3.out HUL.out (by omega) (by omega)).mono ?_
      rintro e w4 ⟨v, he, hs, hb, T2, p2, rfl⟩
      subst he
      rw [HS2.out] at hs
      have hb5 : Below w.heap.size w w4 := hb4.trans (hb.mono (by omega))
      have H4 := Lib.hid (At.of_src hs)
      have H5 := Lib.hid (H3.out.below hb (Nat.le_refl _))
      have hz5 := hb.size
      clear hs hb
      obtain ⟨T1, a1, e1, hT1⟩ := H5.out.shape
      injection e1 with e1 e2
      subst e1 e2
      obtain ⟨T2, a2, e1, hT2⟩ := H4.out.shape
      injection e1 with e1 e2
      subst e1 e2
      have mt := hT1.meth a1
      have ct := hT1.call (.pointer (some a1))
      have mt2 := hT2.meth a2
      have ct2 := hT2.call (.pointer (some a2))
      obtain ⟨z3, hz⟩ : ∃ z, w3.heap.size = z := ⟨_, rfl⟩
      rw [hz] at H4 H5
      have hz4' : wr.heap.size ≤ z3 := by omega
      have hz5' : z3 ≤ w4.heap.size := by omega
      obtain ⟨z4, hzz⟩ : ∃ z, w4.heap.size = z := ⟨_, rfl⟩
      rw [hzz] at H4
      obtain ⟨zr, hzzr⟩ : ∃ z, wr.heap.size = z := ⟨_, rfl⟩
      rw [hzzr] at H5
      have hzr1 : w.heap.size ≤ zr := by omega
      have hzr2 : zr ≤ z3 := by omega
      have hz6' : z4 ≤ w4.heap.size := by omega
      have hz7' : z3 ≤ z4 := by omega
      clear H3 R3 hz hzz hzzr
      go_wp2_with fail
      go_loopg [16] (N + 3) (fun kq v16 w' => kq ≤ N + 3 ∧ v16 = .int .i64 ((N + 3 - kq : Nat)) ∧ Below w.heap.size w w' ∧ z4 ≤ w'.heap.size ∧ At w' zr z3 (.iface T1 (.pointer (some a1))) s (N + 3 - kq) ∧ At w' z3 z4 (.iface T2 (.pointer (some a2))) s (N + 3 - kq))
      case atStart => exact ⟨Nat.le_refl _, by simp, hb5, hz6', by rw [Nat.sub_self]; exact H5.out, by rw [Nat.sub_self]; exact H4.out⟩
      case round =>
        clear H4 H5
        obtain ⟨hk, rfl, HB, hzr, HA1, HA2⟩ := hrel
        have H1 := Lib.hid HA1
        have H2 := Lib.hid HA2
        clear HA1 HA2
        cases gk with
        | zero =>
          simp only [Nat.sub_zero]
          go_wp2_with fail
          go_ret
          exact ⟨rfl, HB⟩
        | succ k1 =>
          obtain ⟨i, hi⟩ : ∃ i, N + 3 - (k1 + 1) = i := ⟨_, rfl⟩
          have hi2 : N + 3 - k1 = i + 1 := by omega
          have hin : i < N + 3 := by omega
          rw [hi] at H1 H2 ⊢
          have HI := Lib.hid hi2
          clear hi hi2
          by_cases hNi : N ≤ i
          · have hq : s i = 0 := HOV.out i hNi
            have HQ := Lib.hid hq
            have hNi' : decide (N ≤ i) = true := decide_eq_true hNi
            clear hq
            go_wp2_with fail
            refine (H1.out.draw_calls (by omega)).mono ?_
            rintro e w5 ⟨he, hat, ho⟩
            rw [HQ.out] at he
            subst he
            have H15 := Lib.hid hat
            have H25 := Lib.hid (H2.out.only ho fun k hk1 hk2 h => by have := h.2; omega)
            have hb6 := HB.trans (ho.below (by omega) fun k hk h => by have := h.1; omega)
            have hz7 := ho.size
            clear hat ho
            go_wp2_with fail
            refine (H25.out.draw_calls (by omega)).mono ?_
            rintro e w6 ⟨he, hat, ho⟩
            rw [HQ.out] at he
            subst he
            have H26 := Lib.hid hat
            have H16 := Lib.hid (H15.out.only ho fun k hk1 hk2 h => by have := h.1; omega)
            have hb7 := hb6.trans (ho.below (by omega) fun k hk h => by have := h.1; omega)
            have hz8 := ho.size
            clear hat ho
            go_wp2_with fail
            go_roundg k1
            case measure => omega
            case rel =>
              rw [HI.out]
              exact ⟨by omega, rfl, hb7, by omega, H16.out, H26.out⟩
          · obtain ⟨q, hq⟩ : ∃ q, s i = q := ⟨_, rfl⟩
            have HQ := Lib.hid hq
            have hNi' : decide (N ≤ i) = false := decide_eq_false hNi
            have t1 : (q != q) = false := by simp
            clear hq
            go_wp2_with fail
            refine (H1.out.draw_calls (by omega)).mono ?_
            rintro e w5 ⟨he, hat, ho⟩
            rw [HQ.out] at he
            subst he
            have H15 := Lib.hid hat
            have H25 := Lib.hid (H2.out.only ho fun k hk1 hk2 h => by have := h.2; omega)
            have hb6 := HB.trans (ho.below (by omega) fun k hk h => by have := h.1; omega)
            have hz7 := ho.size
            clear hat ho
            go_wp2_with fail
            refine (H25.out.draw_calls (by omega)).mono ?_
            rintro e w6 ⟨he, hat, ho⟩
            rw [HQ.out] at he
            subst he
            have H26 := Lib.hid hat
            have H16 := Lib.hid (H15.out.only ho fun k hk1 hk2 h => by have := h.1; omega)
            have hb7 := hb6.trans (ho.below (by omega) fun k hk h => by have := h.1; omega)
            have hz8 := ho.size
            clear hat ho
            go_wp2_with fail
            go_roundg k1
            case measure => omega
            case rel =>
              rw [HI.out]
              exact ⟨by omega, rfl, hb7, by omega, H16.out, H26.out⟩
end Go.Proofs.Ytmcbgogeemnjnaa
