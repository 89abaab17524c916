
/-
  What package plane and the reference of layer 11 answer: the contract of each of their functions. Condition of each: the slices read as the named lists of int32.
-/
import Derived.Test.YtohmcpblagcfeaaVecMath
namespace Go.Proofs.Ytohmcpblagcfeaa
open Go.RowKit
set_option linter.unusedVariables false
set_option maxRecDepth 100000
set_option linter.unusedSimpArgs false

/-! ### Margin, Side -/
def margin (ns : List Int) (off : Int) (ys : List Int) : Int := wrap64 (2 * dot ns ys - off)
theorem margin_eq (ns ys : List Int) (off : Int) : wrap64 (wrap64 (2 * wrap64 (dot ns ys)) - off) = margin ns off ys := by
  unfold margin
  rw [wrap64_sub]
  unfold wrap64; omega
theorem margin_eq2 (ns ys : List Int) (off : Int) : wrap64 (wrap64 (wrap64 (dot ns ys) + wrap64 (dot ns ys)) - off) = margin ns off ys := by
  unfold margin
  rw [wrap64_sub]
  unfold wrap64; omega

theorem Margin_calls (A B : Option Addr) (c d : Nat) (ns ys : List Int) (off : Int) (w : World) (ha : Rd w .i32 A ns) (hb : Rd w .i32 B ys) (ra : R32 ns) (rb : R32 ys) :
    Calls Try.prog 63 #[.agg #[.slice A ns.length c, .int .i64 off], .slice B ys.length d] w fun e w' => e = .returned (.int .i64 (margin ns off ys)) ∧ Below w.heap.size w w' := by
  have hm := margin_eq ns ys off
  obtain ⟨p, hp⟩ : ∃ p, wrap64 (dot ns ys) = p := ⟨_, rfl⟩
  rw [hp] at hm
  have HM := Lib.hid hm
  have HP := Lib.hid hp
  have KA := Lib.hid ha
  have KB := Lib.hid hb
  have RA := Lib.hid ra
  have RB := Lib.hid rb
  clear hm hp ha hb ra rb
  go_enter Try.func63, Try.ntmps63
  go_wp2_with fail
  go_quiet ((go_at_call 68; have hc := Dot_calls A B c d ns ys; rw [HP.out] at hc; exact Calls.quiet_of (hc _ ((KA.out.alloc _).drewN _) ((KB.out.alloc _).drewN _) RA.out RB.out)))
  go_wp2
  go_ret
  refine ⟨ret_int HM.out, ?_⟩
  exact below_drewN (below_alloc1 (Below.refl _ _) _) _

theorem Side_calls (A B : Option Addr) (c d : Nat) (ns ys : List Int) (off : Int) (w : World) (ha : Rd w .i32 A ns) (hb : Rd w .i32 B ys) (ra : R32 ns) (rb : R32 ys) :
    Calls Try.prog 45 #[.agg #[.slice A ns.length c, .int .i64 off], .slice B ys.length d] w fun e w' => e = .returned (.bool (decide (0 ≤ margin ns off ys))) ∧ Below w.heap.size w w' := by
  obtain ⟨p, hp⟩ : ∃ p, margin ns off ys = p := ⟨_, rfl⟩
  rw [hp]
  have HP := Lib.hid hp
  have KA := Lib.hid ha
  have KB := Lib.hid hb
  have RA := Lib.hid ra
  have RB := Lib.hid rb
  clear hp ha hb ra rb
  go_enter Try.func45, Try.ntmps45
  go_wp2_with fail
  refine (Margin_calls A B c d ns ys off _ (KA.out.alloc _) (KB.out.alloc _) RA.out RB.out).mono ?_
  rintro e w1 ⟨he, hb⟩
  rw [HP.out] at he
  subst he
  go_wp2
  go_ret
  exact ⟨rfl, (below_alloc1 (Below.refl _ _) _).trans (hb.mono (by simp))⟩

theorem refMargin_calls (A B : Option Addr) (c d : Nat) (ns ys : List Int) (off : Int) (w : World) (ha : Rd w .i32 A ns) (hb : Rd w .i32 B ys) (ra : R32 ns) (rb : R32 ys) :
    Calls Try.prog 46 #[.agg #[.slice A ns.length c, .int .i64 off], .slice B ys.length d] w fun e w' => e = .returned (.int .i64 (margin ns off ys)) ∧ Below w.heap.size w w' := by
  have hm := margin_eq2 ns ys off
  obtain ⟨p, hp⟩ : ∃ p, wrap64 (dot ns ys) = p := ⟨_, rfl⟩
  rw [hp] at hm
  have HM := Lib.hid hm
  have HP := Lib.hid hp
  have KA := Lib.hid ha
  have KB := Lib.hid hb
  have RA := Lib.hid ra
  have RB := Lib.hid rb
  clear hm hp ha hb ra rb
  go_enter Try.func46, Try.ntmps46
  go_wp2_with fail
  refine (refDot_b A B c d ns ys _ (KA.out.alloc _) (KB.out.alloc _) RA.out RB.out).mono ?_
  rintro e w1 ⟨he, hb⟩
  rw [HP.out] at he
  subst he
  have hblk := obj_below hb (heap_alloc_new w _) (by simp)
  have hc1 : w1.cell? ⟨w.heap.size, 1, none⟩ = some (.int .i64 off) := by simp [World.cell?, hblk]
  clear hblk
  go_wp2
  go_ret
  exact ⟨ret_int HM.out, (below_alloc1 (Below.refl _ _) _).trans (hb.mono (by simp))⟩

/-! ### Same -/
theorem refpSame_calls (A B : Option Addr) (c d : Nat) (ns ms : List Int) (o1 o2 : Int) (w : World) (ha : Rd w .i32 A ns) (hb : Rd w .i32 B ms) :
    Calls Try.prog 24 #[.agg #[.slice A ns.length c, .int .i64 o1], .agg #[.slice B ms.length d, .int .i64 o2]] w fun e w' => e = .returned (.bool (decide (o1 = o2) && decide (ns = ms))) ∧ Below w.heap.size w w' := by
  have KA := Lib.hid ha
  have KB := Lib.hid hb
  clear ha hb
  by_cases h : o1 = o2
  · have h1 : (o1 == o2) = true := by simp [h]
    rw [decide_eq_true h, Bool.true_and]
    obtain ⟨p, hp⟩ : ∃ p, decide (ns = ms) = p := ⟨_, rfl⟩
    rw [hp]
    have HP := Lib.hid hp
    clear h hp
    go_enter Try.func24, Try.ntmps24
    go_wp2_with fail
    refine (refSame_b A B c d ns ms _ ((KA.out.alloc _).alloc _) ((KB.out.alloc _).alloc _)).mono ?_
    rintro e w1 ⟨he, hb⟩
    rw [HP.out] at he
    subst he
    go_wp2
    go_ret
    exact ⟨rfl, (below_alloc1 (below_alloc1 (Below.refl _ _) _) _).trans (hb.mono (by simp; omega))⟩
  · have h1 : (o1 == o2) = false := by simp [h]
    rw [decide_eq_false h, Bool.false_and]
    clear h
    go_enter Try.func24, Try.ntmps24
    go_wp2_with fail
    go_ret
    exact ⟨rfl, below_alloc1 (below_alloc1 (Below.refl _ _) _) _⟩

/-! ### Between -/
def betweenOff (xs ys : List Int) : Int := wrap64 (dot (less xs ys) xs + dot (less xs ys) ys)

theorem Between_calls (A B : Option Addr) (c d : Nat) (xs ys : List Int) (w : World) (ha : Rd w .i32 A xs) (hb : Rd w .i32 B ys) (ra : R32 xs) (rb : R32 ys) (hs : xs.length ≤ 35184372088832) :
    Calls Try.prog 51 #[.slice A xs.length c, .slice B ys.length d] w fun e w' => ∃ v, e = .returned (.agg #[v, .int .i64 (betweenOff xs ys)]) ∧ Own w' w.heap.size 21 .i32 v (less xs ys) ∧ Below w.heap.size w w' := by
  obtain ⟨L, hL⟩ : ∃ L, less xs ys = L := ⟨_, rfl⟩
  have RL : Hid (R32 L) := by rw [← hL]; exact R32.less _ _
  obtain ⟨p1, hp1⟩ : ∃ p, wrap64 (dot L xs) = p := ⟨_, rfl⟩
  obtain ⟨p2, hp2⟩ : ∃ p, wrap64 (dot L ys) = p := ⟨_, rfl⟩
  obtain ⟨q, hq⟩ : ∃ q, betweenOff xs ys = q := ⟨_, rfl⟩
  have hm : wrap64 (p1 + p2) = q := by rw [← hp1, ← hp2, ← hq, wrap64_add, wrap64_add', ← hL]; rfl
  rw [hL, hq]
  have HM := Lib.hid hm
  have E1 := Lib.hid hp1
  have E2 := Lib.hid hp2
  have EL := Lib.hid hL
  have KA := Lib.hid ha
  have KB := Lib.hid hb
  have RA := Lib.hid ra
  have RB := Lib.hid rb
  clear hm hp1 hp2 hL hq ha hb ra rb
  go_enter Try.func51, Try.ntmps51
  go_wp2_with fail
  refine (Less_calls A B c d xs ys _ (KA.out.alloc _) (KB.out.alloc _) hs).mono ?_
  rintro e w1 ⟨v, he, ho, hb1, hbk⟩
  subst he
  rw [EL.out] at ho
  have k1 : Below w.heap.size w w1 := (below_alloc1 (Below.refl _ _) _).trans (hb1.mono (by simp))
  obtain ⟨AL, cL, hv, hcL, hRL⟩ := ho.shape
  subst hv
  have KL := Lib.hid hRL
  have HO := Lib.hid ho
  have hblk : Hid (w1.heap[w.heap.size]? = some (.cells #[.slice none 0 0, .int .i64 0] 26 (0, 0))) := obj_below hb1 (heap_alloc_new w _) (by simp)
  have hz1 : w.heap.size < w1.heap.size := by have := hb1.size; simp at this; omega
  clear ho hRL hcL hb1
  go_wp2_with fail
  refine (Dot_b AL A cL c L xs _ KL.out (KA.out.below k1) RL.out RA.out).mono ?_
  rintro e w2 ⟨he, hb2⟩
  rw [E1.out] at he
  subst he
  have k2 : Below w.heap.size w w2 := k1.trans (hb2.mono k1.size)
  have KL2 := Lib.hid (KL.out.below hb2)
  have HO2 := Lib.hid (HO.out.keep hb2)
  have hblk2 : Hid (w2.heap[w.heap.size]? = some (.cells #[.slice none 0 0, .int .i64 0] 26 (0, 0))) := obj_below hb2 hblk.out hz1
  have hz2 : w.heap.size < w2.heap.size := by have := hb2.size; omega
  clear hb2 k1 KL HO hblk hz1
  go_wp2_with fail
  refine (Dot_b AL B cL d L ys _ KL2.out (KB.out.below k2) RL.out RB.out).mono ?_
  rintro e w3 ⟨he, hb3⟩
  rw [E2.out] at he
  subst he
  have k3 : Below w.heap.size w w3 := k2.trans (hb3.mono k2.size)
  have HO3 := Lib.hid (HO2.out.keep hb3)
  have hblk3 := obj_below hb3 hblk2.out hz2
  have hc0 : w3.cell? ⟨w.heap.size, 0, none⟩ = some (.slice none 0 0) := by simp [World.cell?, hblk3]
  have hc1 : w3.cell? ⟨w.heap.size, 1, none⟩ = some (.int .i64 0) := by simp [World.cell?, hblk3]
  have hf0 : w3.frozen? ⟨w.heap.size, 0, none⟩ = false := by simp [World.frozen?, hblk3]
  have hf1 : w3.frozen? ⟨w.heap.size, 1, none⟩ = false := by simp [World.frozen?, hblk3]
  have HBK := Lib.hid hblk3
  clear hb3 k2 HO2 hblk2 hz2 hblk3 KL2
  have hne : ∀ b, (Value.slice AL L.length cL).ownBlock = some b → ¬ b = w.heap.size := fun b hb e => by
    have := (HO3.out.lt b hb).1
    simp at this
    omega
  have HNE := Lib.hid hne
  clear hne
  go_wp2
  have hb0 := set_blk (cs := [_, _]) HBK.out 0 (.slice AL L.length cL)
  have hb1 := set_blk hb0 1 (.int .i64 (wrap64 (p1 + p2)))
  have hr0 := cell_blk hb1 0
  have hr1 := cell_blk hb1 1
  simp only [List.set_cons_zero, List.set_cons_succ, List.getElem?_cons_zero, List.getElem?_cons_succ] at hr0 hr1
  refine bodyPost_ret (v := .agg #[.slice AL L.length cL, .int .i64 (wrap64 (p1 + p2))]) (by simp [results, Try.results51, go_sem, hr0, hr1]) rfl ⟨_, by rw [HM.out], ?_, below_set (below_set k3 (Nat.le_refl _) _ _) (Nat.le_refl _) _ _⟩
  exact (((HO3.out.only (only_set _ _ _ _) HNE.out).only (only_set _ _ _ _) HNE.out)).low (by simp)

theorem refBetween_calls (A B : Option Addr) (c d : Nat) (xs ys : List Int) (w : World) (ha : Rd w .i32 A xs) (hb : Rd w .i32 B ys) (ra : R32 xs) (rb : R32 ys) (hs : xs.length ≤ 1000000) :
    Calls Try.prog 56 #[.slice A xs.length c, .slice B ys.length d] w fun e w' => ∃ v, e = .returned (.agg #[v, .int .i64 (betweenOff xs ys)]) ∧ Own w' w.heap.size 21 .i32 v (less xs ys) ∧ Below w.heap.size w w' := by
  obtain ⟨L, hL⟩ : ∃ L, less xs ys = L := ⟨_, rfl⟩
  have RL : Hid (R32 L) := by rw [← hL]; exact R32.less _ _
  obtain ⟨p1, hp1⟩ : ∃ p, wrap64 (dot L xs) = p := ⟨_, rfl⟩
  obtain ⟨p2, hp2⟩ : ∃ p, wrap64 (dot L ys) = p := ⟨_, rfl⟩
  obtain ⟨q, hq⟩ : ∃ q, betweenOff xs ys = q := ⟨_, rfl⟩
  have hm : wrap64 (p1 + p2) = q := by rw [← hp1, ← hp2, ← hq, wrap64_add, wrap64_add', ← hL]; rfl
  rw [hL, hq]
  have HM := Lib.hid hm
  have E1 := Lib.hid hp1
  have E2 := Lib.hid hp2
  have EL := Lib.hid hL
  have KA := Lib.hid ha
  have KB := Lib.hid hb
  have RA := Lib.hid ra
  have RB := Lib.hid rb
  clear hm hp1 hp2 hL hq ha hb ra rb
  go_enter Try.func56, Try.ntmps56
  go_wp2_with fail
  refine (refLess_calls A B c d xs ys _ (KA.out.alloc _) (KB.out.alloc _) hs).mono ?_
  rintro e w1 ⟨v, he, ho, hb1⟩
  subst he
  rw [EL.out] at ho
  have k1 : Below w.heap.size w w1 := (below_alloc1 (Below.refl _ _) _).trans (hb1.mono (by simp))
  obtain ⟨AL, cL, hv, hcL, hRL⟩ := ho.shape
  subst hv
  have KL := Lib.hid hRL
  have HO := Lib.hid ho
  have hblk : Hid (w1.heap[w.heap.size]? = some (.cells #[.slice none 0 0, .int .i64 0] 26 (0, 0))) := obj_below hb1 (heap_alloc_new w _) (by simp)
  have hz1 : w.heap.size < w1.heap.size := by have := hb1.size; simp at this; omega
  clear ho hRL hcL hb1
  go_wp2_with fail
  refine (refDot_b AL A cL c L xs _ KL.out (KA.out.below k1) RL.out RA.out).mono ?_
  rintro e w2 ⟨he, hb2⟩
  rw [E1.out] at he
  subst he
  have k2 : Below w.heap.size w w2 := k1.trans (hb2.mono k1.size)
  have KL2 := Lib.hid (KL.out.below hb2)
  have HO2 := Lib.hid (HO.out.keep hb2)
  have hblk2 : Hid (w2.heap[w.heap.size]? = some (.cells #[.slice none 0 0, .int .i64 0] 26 (0, 0))) := obj_below hb2 hblk.out hz1
  have hz2 : w.heap.size < w2.heap.size := by have := hb2.size; omega
  clear hb2 k1 KL HO hblk hz1
  go_wp2_with fail
  refine (refDot_b AL B cL d L ys _ KL2.out (KB.out.below k2) RL.out RB.out).mono ?_
  rintro e w3 ⟨he, hb3⟩
  rw [E2.out] at he
  subst he
  have k3 : Below w.heap.size w w3 := k2.trans (hb3.mono k2.size)
  have HO3 := Lib.hid (HO2.out.keep hb3)
  have hblk3 := obj_below hb3 hblk2.out hz2
  have hc0 : w3.cell? ⟨w.heap.size, 0, none⟩ = some (.slice none 0 0) := by simp [World.cell?, hblk3]
  have hc1 : w3.cell? ⟨w.heap.size, 1, none⟩ = some (.int .i64 0) := by simp [World.cell?, hblk3]
  have hf0 : w3.frozen? ⟨w.heap.size, 0, none⟩ = false := by simp [World.frozen?, hblk3]
  have hf1 : w3.frozen? ⟨w.heap.size, 1, none⟩ = false := by simp [World.frozen?, hblk3]
  have HBK := Lib.hid hblk3
  clear hb3 k2 HO2 hblk2 hz2 hblk3 KL2
  have hne : ∀ b, (Value.slice AL L.length cL).ownBlock = some b → ¬ b = w.heap.size := fun b hb e => by
    have := (HO3.out.lt b hb).1
    simp at this
    omega
  have HNE := Lib.hid hne
  clear hne
  go_wp2
  have hb0 := set_blk (cs := [_, _]) HBK.out 0 (.slice AL L.length cL)
  have hb1 := set_blk hb0 1 (.int .i64 (wrap64 (p1 + p2)))
  have hr0 := cell_blk hb1 0
  have hr1 := cell_blk hb1 1
  simp only [List.set_cons_zero, List.set_cons_succ, List.getElem?_cons_zero, List.getElem?_cons_succ] at hr0 hr1
  refine bodyPost_ret (v := .agg #[.slice AL L.length cL, .int .i64 (wrap64 (p1 + p2))]) (by simp [results, Try.results56, go_sem, hr0, hr1]) rfl ⟨_, by rw [HM.out], ?_, below_set (below_set k3 (Nat.le_refl _) _ _) (Nat.le_refl _) _ _⟩
  exact (((HO3.out.only (only_set _ _ _ _) HNE.out).only (only_set _ _ _ _) HNE.out)).low (by simp)

/-! ### Check -/
def outP (x : Int) : Bool := decide (x < -2097152) || decide (2097152 < x)
def anyOutP (xs : List Int) : Bool := xs.any outP
def checkP (ns : List Int) (off dim : Int) : Int := if dim < 1 ∨ 1024 < dim then 1 else if (ns.length : Int) ≠ dim then 3 else if anyOutP ns = true then 4 else if off < -9007199254740992 ∨ 9007199254740992 < off then 1 else 0
theorem outP_iff (x : Int) : outP x = true ↔ x < -2097152 ∨ 2097152 < x := by simp [outP]
theorem anyOutP_of {xs : List Int} {i : Nat} (hi : i < xs.length) (h : outP (xs.getD i 0) = true) : anyOutP xs = true := by
  unfold anyOutP
  rw [List.any_eq_true]
  exact ⟨xs.getD i 0, by simp [List.getD, hi], h⟩
theorem anyOutP_none {xs : List Int} (h : ∀ j, j < xs.length → outP (xs.getD j 0) = false) : anyOutP xs = false := by
  unfold anyOutP
  rw [List.any_eq_false]
  intro x hx
  obtain ⟨j, hj, rfl⟩ := List.getElem_of_mem hx
  have := h j hj
  simp [List.getD, hj] at this
  simp [this]
theorem anyOutP_false {xs : List Int} (h : anyOutP xs = false) : ∀ x ∈ xs, -2097152 ≤ x ∧ x ≤ 2097152 := by
  intro x hx
  unfold anyOutP at h
  rw [List.any_eq_false] at h
  have := h x hx
  rw [outP_iff] at this
  omega

/-! ### Flat -/
theorem Flat_calls (dim : Int) (w : World) (h : -9223372036854775808 ≤ dim ∧ dim ≤ 9223372036854775807) :
    Calls Try.prog 52 #[.int .i64 dim] w fun e w' => ∃ v, e = .returned (.agg #[v, .int .i64 0]) ∧ Own w' w.heap.size 21 .i32 v (List.replicate (if dim < 0 ∨ 1024 < dim then 0 else dim.toNat) 0) ∧ Below w.heap.size w w' := by
  obtain ⟨n, hn, hn2⟩ : ∃ n : Nat, (if dim < 0 ∨ 1024 < dim then 0 else dim.toNat) = n ∧ n ≤ 1024 := ⟨_, rfl, by split <;> omega⟩
  rw [hn]
  have HN := Lib.hid hn
  clear hn
  by_cases h1 : dim < 0
  · have h1' : decide (dim < 0) = true := decide_eq_true h1
    obtain rfl : n = 0 := by rw [← HN.out, if_pos (.inl h1)]
    go_enter Try.func52, Try.ntmps52
    go_wp2_with (at_make; refine wpList_mk _ rfl (.tmp 9) (.tmp 9) 24 21 rfl (.int .i32 0) 4 Try.underlying24 info_i32 rfl .i64 .i64 0 rfl rfl (by omega) (by omega) ?_; intro w1 hblk hbel hsz; have HBK := Lib.hid hblk; have hblk0 := obj_below hbel (heap_alloc_new w _) (by simp); have HBK0 := Lib.hid hblk0; have hc0 : w1.cell? ⟨w.heap.size, 0, none⟩ = some (.slice none 0 0) := (by simp [World.cell?, hblk0]); have hc1 : w1.cell? ⟨w.heap.size, 1, none⟩ = some (.int .i64 0) := (by simp [World.cell?, hblk0]); have hf0 : w1.frozen? ⟨w.heap.size, 0, none⟩ = false := (by simp [World.frozen?, hblk0]); have hf1 : w1.frozen? ⟨w.heap.size, 1, none⟩ = false := (by simp [World.frozen?, hblk0]); clear hblk hblk0)
    have k1 : Below w.heap.size w w1 := (below_alloc1 (Below.refl _ _) _).trans (hbel.mono (by simp))
    have hb0 := set_blk (cs := [_, _]) HBK0.out 0 (.slice (some ⟨w.heap.size + 1, 0, none⟩) 0 0)
    have hb1 := set_blk hb0 1 (.int .i64 0)
    have hr0 := cell_blk hb1 0
    have hr1 := cell_blk hb1 1
    simp only [List.set_cons_zero, List.set_cons_succ, List.getElem?_cons_zero, List.getElem?_cons_succ] at hr0 hr1
    refine bodyPost_ret (v := .agg #[.slice (some ⟨w.heap.size + 1, 0, none⟩) 0 0, .int .i64 0]) (by simp [results, Try.results52, go_sem, hr0, hr1]) rfl ⟨_, rfl, ?_, below_set (below_set k1 (Nat.le_refl _) _ _) (Nat.le_refl _) _ _⟩
    have hblk := HBK.out
    rw [World.size_alloc] at hblk
    exact Own.zeros (set_other (set_other hblk 0 _ (by omega)) 1 _ (by omega)) (by omega) (by unfold maxLen; omega)
  have h1' : decide (dim < 0) = false := decide_eq_false h1
  by_cases h2 : 1024 < dim
  · have h2' : decide (1024 < dim) = true := decide_eq_true h2
    obtain rfl : n = 0 := by rw [← HN.out, if_pos (.inr h2)]
    go_enter Try.func52, Try.ntmps52
    go_wp2_with (at_make; refine wpList_mk _ rfl (.tmp 9) (.tmp 9) 24 21 rfl (.int .i32 0) 4 Try.underlying24 info_i32 rfl .i64 .i64 0 rfl rfl (by omega) (by omega) ?_; intro w1 hblk hbel hsz; have HBK := Lib.hid hblk; have hblk0 := obj_below hbel (heap_alloc_new w _) (by simp); have HBK0 := Lib.hid hblk0; have hc0 : w1.cell? ⟨w.heap.size, 0, none⟩ = some (.slice none 0 0) := (by simp [World.cell?, hblk0]); have hc1 : w1.cell? ⟨w.heap.size, 1, none⟩ = some (.int .i64 0) := (by simp [World.cell?, hblk0]); have hf0 : w1.frozen? ⟨w.heap.size, 0, none⟩ = false := (by simp [World.frozen?, hblk0]); have hf1 : w1.frozen? ⟨w.heap.size, 1, none⟩ = false := (by simp [World.frozen?, hblk0]); clear hblk hblk0)
    have k1 : Below w.heap.size w w1 := (below_alloc1 (Below.refl _ _) _).trans (hbel.mono (by simp))
    have hb0 := set_blk (cs := [_, _]) HBK0.out 0 (.slice (some ⟨w.heap.size + 1, 0, none⟩) 0 0)
    have hb1 := set_blk hb0 1 (.int .i64 0)
    have hr0 := cell_blk hb1 0
    have hr1 := cell_blk hb1 1
    simp only [List.set_cons_zero, List.set_cons_succ, List.getElem?_cons_zero, List.getElem?_cons_succ] at hr0 hr1
    refine bodyPost_ret (v := .agg #[.slice (some ⟨w.heap.size + 1, 0, none⟩) 0 0, .int .i64 0]) (by simp [results, Try.results52, go_sem, hr0, hr1]) rfl ⟨_, rfl, ?_, below_set (below_set k1 (Nat.le_refl _) _ _) (Nat.le_refl _) _ _⟩
    have hblk := HBK.out
    rw [World.size_alloc] at hblk
    exact Own.zeros (set_other (set_other hblk 0 _ (by omega)) 1 _ (by omega)) (by omega) (by unfold maxLen; omega)
  · have h2' : decide (1024 < dim) = false := decide_eq_false h2
    obtain rfl : dim = (n : Int) := by rw [← HN.out, if_neg (by omega)]; omega
    go_enter Try.func52, Try.ntmps52
    go_wp2_with (at_make; refine wpList_mk _ rfl (.tmp 9) (.tmp 9) 24 21 rfl (.int .i32 0) 4 Try.underlying24 info_i32 rfl .i64 .i64 n rfl rfl (by omega) (by omega) ?_; intro w1 hblk hbel hsz; have HBK := Lib.hid hblk; have hblk0 := obj_below hbel (heap_alloc_new w _) (by simp); have HBK0 := Lib.hid hblk0; have hc0 : w1.cell? ⟨w.heap.size, 0, none⟩ = some (.slice none 0 0) := (by simp [World.cell?, hblk0]); have hc1 : w1.cell? ⟨w.heap.size, 1, none⟩ = some (.int .i64 0) := (by simp [World.cell?, hblk0]); have hf0 : w1.frozen? ⟨w.heap.size, 0, none⟩ = false := (by simp [World.frozen?, hblk0]); have hf1 : w1.frozen? ⟨w.heap.size, 1, none⟩ = false := (by simp [World.frozen?, hblk0]); clear hblk hblk0)
    have k1 : Below w.heap.size w w1 := (below_alloc1 (Below.refl _ _) _).trans (hbel.mono (by simp))
    have hb0 := set_blk (cs := [_, _]) HBK0.out 0 (.slice (some ⟨w.heap.size + 1, 0, none⟩) n n)
    have hb1 := set_blk hb0 1 (.int .i64 0)
    have hr0 := cell_blk hb1 0
    have hr1 := cell_blk hb1 1
    simp only [List.set_cons_zero, List.set_cons_succ, List.getElem?_cons_zero, List.getElem?_cons_succ] at hr0 hr1
    refine bodyPost_ret (v := .agg #[.slice (some ⟨w.heap.size + 1, 0, none⟩) n n, .int .i64 0]) (by simp [results, Try.results52, go_sem, hr0, hr1]) rfl ⟨_, rfl, ?_, below_set (below_set k1 (Nat.le_refl _) _ _) (Nat.le_refl _) _ _⟩
    have hblk := HBK.out
    rw [World.size_alloc] at hblk
    exact Own.zeros (set_other (set_other hblk 0 _ (by omega)) 1 _ (by omega)) (by omega) (by unfold maxLen; omega)


set_option maxHeartbeats 800000 in
theorem refFlat_calls (n : Nat) (w : World) (h : n ≤ 1024) :
    Calls Try.prog 25 #[.int .i64 n] w fun e w' => ∃ v, e = .returned (.agg #[v, .int .i64 0]) ∧ Own w' w.heap.size 21 .i32 v (List.replicate n 0) ∧ Below w.heap.size w w' := by
  go_enter Try.func25, Try.ntmps25
  go_wp2
  go_loopg [4] n (fun kq v4 w' => kq ≤ n ∧ v4 = .int .i64 ((n - kq : Nat)) ∧ ∃ A c, Hid (w'.heap[w.heap.size]? = some (.cells #[.slice none 0 0, .int .i64 0] 26 (0, 0))) ∧ Hid (w'.heap[w.heap.size + 1]? = some (.cells #[.slice A (n - kq) c, .int .i64 0] 26 (0, 0))) ∧ Own w' (w.heap.size + 2) 21 .i32 (.slice A (n - kq) c) (List.replicate (n - kq) 0) ∧ Below w.heap.size w w' ∧ w.heap.size + 2 ≤ w'.heap.size)
  case atStart =>
    refine ⟨Nat.le_refl _, by simp, none, 0, ?_, ?_, ?_, ?_, ?_⟩
    · rw [Hid]
      exact obj_below ((Below.refl _ _).alloc (Nat.le_refl _) _) (heap_alloc_new w _) (by simp)
    · rw [Hid, Nat.sub_self]
      have := heap_alloc_new (w.alloc (.cells #[.slice none 0 0, .int .i64 0] 26)) (.cells #[.slice none 0 0, .int .i64 0] 26)
      rw [World.size_alloc] at this
      exact this
    · rw [Nat.sub_self]; exact World.ownsRow_nil _ _ _ _
    · exact below_alloc1 (below_alloc1 (Below.refl _ _) _) _
    · simp
  case round =>
    obtain ⟨hk, rfl, A, c, HB0, HB1, HO, HB, hz⟩ := hrel
    have HO' := Lib.hid HO
    have HBH := Lib.hid HB
    clear HO HB
    have hc10 : wr.cell? ⟨w.heap.size + 1, 0, none⟩ = some (.slice A (n - gk) c) := by have := HB1.out; simp [World.cell?, this]
    have hc11 : wr.cell? ⟨w.heap.size + 1, 1, none⟩ = some (.int .i64 0) := by have := HB1.out; simp [World.cell?, this]
    have hf10 : wr.frozen? ⟨w.heap.size + 1, 0, none⟩ = false := by have := HB1.out; simp [World.frozen?, this]
    have hc00 : wr.cell? ⟨w.heap.size, 0, none⟩ = some (.slice none 0 0) := by have := HB0.out; simp [World.cell?, this]
    have hc01 : wr.cell? ⟨w.heap.size, 1, none⟩ = some (.int .i64 0) := by have := HB0.out; simp [World.cell?, this]
    have hf00 : wr.frozen? ⟨w.heap.size, 0, none⟩ = false := by have := HB0.out; simp [World.frozen?, this]
    have hf01 : wr.frozen? ⟨w.heap.size, 1, none⟩ = false := by have := HB0.out; simp [World.frozen?, this]
    cases gk with
    | zero =>
      simp only [Nat.sub_zero] at *
      have HNE : Hid (∀ b, (Value.slice A n c).ownBlock = some b → ¬ b = w.heap.size) := fun b hb e => by
        have := (HO'.out.lt b hb).1
        omega
      go_wp2
      have hb0 := set_blk (cs := [_, _]) HB0.out 0 (.slice A n c)
      have hb1 := set_blk hb0 1 (.int .i64 0)
      have hr0 := cell_blk hb1 0
      have hr1 := cell_blk hb1 1
      simp only [List.set_cons_zero, List.set_cons_succ, List.getElem?_cons_zero, List.getElem?_cons_succ] at hr0 hr1
      refine bodyPost_ret (v := .agg #[.slice A n c, .int .i64 0]) (by simp [results, Try.results25, go_sem, hr0, hr1]) rfl ⟨_, rfl, ?_, below_set (below_set HBH.out (Nat.le_refl _) _ _) (Nat.le_refl _) _ _⟩
      exact (((HO'.out.only (only_set _ _ _ _) HNE.out).only (only_set _ _ _ _) HNE.out)).low (by omega)
    | succ k1 =>
      obtain ⟨i, hi⟩ : ∃ i, n - (k1 + 1) = i := ⟨_, rfl⟩
      have hi2 : n - k1 = i + 1 := by omega
      have HI := Lib.hid hi2
      have hlt : i < n := by omega
      rw [hi] at HB1 HO' hc10 ⊢
      clear hi hi2
      go_wp2_with (at_builtin; refine wpList_appI _ rfl (.tmp 12) (.tmp 13) 24 21 rfl .i32 4 Try.underlying24 info_i32 (by omega) (w.heap.size + 2) (.slice A i c) (List.replicate i 0) rfl _ 1 [0] rfl (by exact Own.alloc1 HO'.out _) wr ((Below.refl _ _).alloc hz _) (by simp; omega) (Rd.new _ _ [0] _ (by simp)) (by simp; omega) ?_; intro v1 w1 ho hgrow hbel hat hnil; clear hat hnil hgrow; obtain ⟨A1, c1, rfl, hc1, _⟩ := ho.shape; have HO1 := Lib.hid ho; have HBL := Lib.hid hbel; have hx0 : w1.cell? ⟨w.heap.size + 1, 0, none⟩ = some (.slice A i c) := cell_below hbel hc10 (by simp); have hx1 : w1.frozen? ⟨w.heap.size + 1, 0, none⟩ = false := (by rw [hbel.frozen (by simp)]; exact hf10); clear ho hbel hc1)
      have hnz : w.heap.size + 2 ≤ w1.heap.size := by have := HBL.out.size; omega
      go_roundg k1
      case rel =>
        have hi := HI.out
        have e : (List.replicate i 0 ++ [0] : List Int) = List.replicate (i + 1) 0 := by rw [List.replicate_succ']
        have ho := HO1.out
        rw [e, List.length_replicate] at ho
        refine ⟨by omega, by rw [hi]; rfl, A1, c1, ?_, ?_, ?_, ?_, ?_⟩
        · exact set_other (obj_below HBL.out HB0.out (by omega)) 0 _ (by omega)
        · rw [hi]
          exact set_blk (cs := [_, _]) (obj_below HBL.out HB1.out (by omega)) 0 _
        · rw [hi]
          exact Own.only ho (only_set _ _ _ _) fun b hb e => by have := (ho.lt b hb).1; omega
        · exact below_set (HBH.out.trans (HBL.out.mono (by omega))) (by omega) _ _
        · simp [World.setCell]; omega
      case measure => omega
end Go.Proofs.Ytohmcpblagcfeaa
