/-
  The statement StreamAll: the walk. Conditions: the numbers lie in their kinds' ranges.
-/
import Derived.Test.YtmcbgogeemnjnaaLaw06
import Derived.Test.YtmcbgogeemnjnaaStrm3
import Derived.Test.YtmcbgogeemnjnaaOpenS
import Derived.Shelf.Abstract
namespace Go.Proofs.Ytmcbgogeemnjnaa
open Go.RowKit
set_option linter.unusedVariables false
set_option linter.unusedSimpArgs false
attribute [local go_sem] Oper.semAt_some

def kkf (back : Bool) (n i q : Nat) : Nat := if back then (if n - i ≤ q then 5 else 0) else (if q < i then 5 else 0)
def kAt (back : Bool) (n i : Nat) : Nat := if back then n - 1 - i else i
theorem kkf_at {back : Bool} {n i : Nat} (h : i < n) : kkf back n i (kAt back n i) = 0 := by
  unfold kkf kAt
  cases back
  · simp
  · simp only [if_true]; rw [if_neg (by omega)]
theorem kkf_succ {back : Bool} {n i q : Nat} (h : i < n) (hq : q < n) : kkf back n (i + 1) q = if q = kAt back n i then 5 else kkf back n i q := by
  unfold kkf kAt
  cases back
  · simp only [Bool.false_eq_true, if_false]
    by_cases h1 : q = i
    · rw [if_pos h1, if_pos (by omega)]
    · rw [if_neg h1]
      by_cases h2 : q < i
      · rw [if_pos h2, if_pos (by omega)]
      · rw [if_neg h2, if_neg (by omega)]
  · simp only [if_true]
    by_cases h1 : q = n - 1 - i
    · rw [if_pos h1, if_pos (by omega)]
    · rw [if_neg h1]
      by_cases h2 : n - i ≤ q
      · rw [if_pos h2, if_pos (by omega)]
      · rw [if_neg h2, if_neg (by omega)]
/-- Between two rounds of the range: the row, its box bA, the result's box bR. -/
def SI (w : World) (b0 bA bD bR : Nat) (dv : Array Value) (s : Nat → Nat → Int) (n : Nat) (v : Value) (xs : List Value) (lo hi : Nat → Nat) (W : World) : Prop :=
  Below w.heap.size w W ∧ W.heap[bA]? = some (.cells #[v] 57 (0, 0)) ∧ W.heap[bR]? = some (.cells #[.bool false] 4 (0, 0)) ∧ W.heap[bD]? = some (.cells dv 51 (0, 0)) ∧ SR W b0 s (fun _ => 0) n v xs lo hi
theorem SI.step {w A B : World} {b0 bA bD bR m : Nat} {dv : Array Value} {s : Nat → Nat → Int} {n : Nat} {v : Value} {xs : List Value} {lo hi : Nat → Nat} (h : SI w b0 bA bD bR dv s n v xs lo hi A) (hs : Step (fun _ => False) m A B) (hb : m + 2 ≤ b0 ∧ bA < m ∧ bD < m ∧ bR < m ∧ w.heap.size ≤ m) : SI w b0 bA bD bR dv s n v xs lo hi B := by
  obtain ⟨h1, h2, h3, h4, h5⟩ := h
  have hs' : Only (fun k => k = m + 1) A B := Only.mono hs fun k _ h => h.elim (fun h => h.elim) fun h => h
  exact ⟨h1.trans (hs'.below h1.size fun k hk h => by omega), hs'.obj h2 (by omega), hs'.obj h3 (by omega), hs'.obj h4 (by omega), h5.only hs' fun b hb1 _ h => by omega⟩
/-- The same behind the range, with the block bF of its deferred calls; kk: how many each has told. -/
structure LJ (w : World) (b0 bA bD bR bF : Nat) (dv : Array Value) (s : Nat → Nat → Int) (kk : Nat → Nat) (n : Nat) (v : Value) (xs : List Value) (lo hi : Nat → Nat) (W : World) : Prop where
  bel : Below w.heap.size w W
  boxA : W.heap[bA]? = some (.cells #[v] 57 (0, 0))
  boxR : W.heap[bR]? = some (.cells #[.bool false] 4 (0, 0))
  boxD : W.heap[bD]? = some (.cells dv 51 (0, 0))
  fin : W.heap[bF]? = some (.deferred (some []))
  sr : SR W b0 s kk n v xs lo hi
theorem LJ.keep {w A B : World} {b0 bA bD bR bF : Nat} {dv : Array Value} {s : Nat → Nat → Int} {kk : Nat → Nat} {n : Nat} {v : Value} {xs : List Value} {lo hi : Nat → Nat} (h : LJ w b0 bA bD bR bF dv s kk n v xs lo hi A) (hs : Below A.heap.size A B) : LJ w b0 bA bD bR bF dv s kk n v xs lo hi B :=
  ⟨h.bel.trans (hs.mono h.bel.size), obj_below hs h.boxA (obj_lt h.boxA), obj_below hs h.boxR (obj_lt h.boxR), obj_below hs h.boxD (obj_lt h.boxD), obj_below hs h.fin (obj_lt h.fin), h.sr.only (S := fun _ => False) (Only.of_below hs) fun _ _ _ h => h⟩
theorem LJ.congr {w A : World} {b0 bA bD bR bF : Nat} {dv : Array Value} {s : Nat → Nat → Int} {kk kk' : Nat → Nat} {n : Nat} {v : Value} {xs : List Value} {lo hi : Nat → Nat} (h : LJ w b0 bA bD bR bF dv s kk n v xs lo hi A) (hk : ∀ j, j < n → kk' j = kk j) : LJ w b0 bA bD bR bF dv s kk' n v xs lo hi A :=
  ⟨h.bel, h.boxA, h.boxR, h.boxD, h.fin, h.sr.congr hk⟩
theorem LJ.one {w A B : World} {b0 bA bD bR bF b : Nat} {dv : Array Value} {s : Nat → Nat → Int} {kk : Nat → Nat} {n : Nat} {v : Value} {xs : List Value} {lo hi : Nat → Nat} (h : LJ w b0 bA bD bR bF dv s kk n v xs lo hi A) (ho : Only (fun k => k = b) A B) (hb : bA < b ∧ bD < b ∧ bR < b ∧ bF < b ∧ w.heap.size ≤ b)
    (h1 : ∀ j, j < n → hi j ≤ b) (h2 : ∀ k, v.ownBlock = some k → k < b) : LJ w b0 bA bD bR bF dv s kk n v xs lo hi B where
  bel := h.bel.trans (ho.below h.bel.size fun k hk h => by omega)
  boxA := ho.obj h.boxA (by omega)
  boxR := ho.obj h.boxR (by omega)
  boxD := ho.obj h.boxD (by omega)
  fin := ho.obj h.fin (by omega)
  sr := ⟨row_only h.sr.row ho fun k hk e => by have := h2 k hk; omega, h.sr.len, fun j hj => by
      obtain ⟨T, a, e1, e2⟩ := h.sr.src j hj
      exact ⟨T, a, e1, e2.only ho fun k _ hk e => by have := h1 j hj; omega⟩, fun j hj => ⟨(h.sr.bnd j hj).1, Nat.le_trans (h.sr.bnd j hj).2 ho.size⟩, h.sr.dis, h.sr.own⟩
theorem LJ.draw {w A B : World} {b0 bA bD bR bF i : Nat} {dv : Array Value} {s : Nat → Nat → Int} {kk : Nat → Nat} {n : Nat} {v : Value} {xs : List Value} {lo hi : Nat → Nat} {T : TypeId} {a : Addr} (h : LJ w b0 bA bD bR bF dv s kk n v xs lo hi A) (hb : bA < b0 ∧ bD < b0 ∧ bR < b0 ∧ bF < b0 ∧ w.heap.size ≤ b0)
    (hi2 : i < n) (hx : xs[i]? = some (.iface T (.pointer (some a)))) (hat : At B (lo i) (hi i) (.iface T (.pointer (some a))) (s i) (kk i + 1)) (ho : Only (Within (lo i) (hi i)) A B) : LJ w b0 bA bD bR bF dv s (fun j => if j = i then kk j + 1 else kk j) n v xs lo hi B where
  bel := h.bel.trans (ho.below h.bel.size fun k hk hw => by have := (h.sr.bnd i hi2).1; have := hw.1; omega)
  boxA := ho.obj h.boxA fun hw => by have := (h.sr.bnd i hi2).1; have := hw.1; omega
  boxR := ho.obj h.boxR fun hw => by have := (h.sr.bnd i hi2).1; have := hw.1; omega
  boxD := ho.obj h.boxD fun hw => by have := (h.sr.bnd i hi2).1; have := hw.1; omega
  fin := ho.obj h.fin fun hw => by have := (h.sr.bnd i hi2).1; have := hw.1; omega
  sr := h.sr.draw hi2 hx hat ho
theorem below_putObj2 {B b : Nat} {w W : World} (h : Below B w W) (hb : B ≤ b) (o : Obj) : Below B w (W.putObj b o) := h.trans ⟨rfl, rfl, rfl, by simp, fun k hk => World.putObj_heap_other (by omega)⟩
theorem one_iface (T : TypeId) (a : Addr) : ∀ u ∈ [Value.iface T (.pointer (some a))], u.oneCell' = true := by
  intro u hu
  rw [List.mem_singleton.1 hu]
  rfl
theorem info_src : (Try.prog.info? 28).map (fun i => (i.zero, i.size, i.bytes)) = some (some .nilIface, 1, 16) := by kernel_rfl
set_option maxHeartbeats 6400000 in
set_option maxRecDepth 100000 in
theorem StreamAll_law (scr : Bool) (dseed : Int) (A : Option Addr) (c : Nat) (l : List Int) (trees : Int) (back : Bool) (w : World) (hcl : l.length ≤ c) (hds : (Lit.int .u64 dseed).wf = true) (ha : Rd w .u64 A l) (hu : ∀ n ∈ l, (Lit.int .u64 n).wf = true) (htrs : (Lit.int .i64 trees).wf = true) :
    Calls Try.prog 10 #[.agg #[.bool scr, .int .u64 dseed, .slice A l.length c], .int .i64 trees, .bool back] w fun e w' => e = .returned (.bool true) ∧ Below w.heap.size w w' := by
  have HU := Lib.hid (u64_of_wf hu)
  have KA := Lib.hid ha
  have lA := ha.1
  replace htrs := i64_of_wf htrs
  obtain ⟨htrs1, htrs2⟩ := htrs
  clear hu ha hds
  by_cases h0 : 500 < l.length
  · have h0' : decide (500 < (l.length : Int)) = true := by simp; omega
    have k_w : Below w.heap.size w w := Below.refl _ _
    go_enter Try.func10, Try.ntmps10
    go_wp2_with fail
    obtain ⟨w1, hw⟩ : ∃ W, ((w.alloc (.cells #[.bool scr, .int .u64 dseed, .slice A l.length c] 51)).alloc (.cells #[.bool false] 4)) = W := ⟨_, rfl⟩
    rw [hw]
    have hbn : Below w.heap.size w w1 := by rw [← hw]; exact below_alloc1 (below_alloc1 (Below.refl _ _) _) _
    have b3d : w1.heap[w.heap.size]? = some (.cells #[.bool scr, .int .u64 dseed, .slice A l.length c] 51 (0, 0)) := by
      have hx := heap_alloc_new w (.cells #[.bool scr, .int .u64 dseed, .slice A l.length c] 51)
      rw [← hw]
      exact obj_below (B := w.heap.size + 1) (by first | exact (Below.refl _ _).alloc (by simp) _ | exact ((Below.refl _ _).alloc (by simp) _).alloc (by simp) _ | exact (((Below.refl _ _).alloc (by simp) _).alloc (by simp) _).alloc (by simp) _) hx (by omega)
    have b3r : w1.heap[w.heap.size + 1]? = some (.cells #[.bool false] 4 (0, 0)) := by
      have hx := heap_alloc_new (w.alloc (.cells #[.bool scr, .int .u64 dseed, .slice A l.length c] 51)) (.cells #[.bool false] 4)
      simp only [World.size_alloc] at hx
      rw [← hw]
      exact hx
    clear hw
    have k_w_w1 : Below w.heap.size w w1 := k_w.trans (hbn.mono k_w.size)
    clear k_w
    clear hbn
    have b2 := b3d
    clear b3d
    have h_d0 : w1.cell? ⟨w.heap.size, 0, none⟩ = some (.bool scr) := by simp [World.cell?, b2]
    have h_d1 : w1.cell? ⟨w.heap.size, 1, none⟩ = some (.int .u64 dseed) := by simp [World.cell?, b2]
    have h_d2 : w1.cell? ⟨w.heap.size, 2, none⟩ = some (.slice A l.length c) := by simp [World.cell?, b2]
    have b_d := Lib.hid b2
    clear b2
    have b2 := b3r
    clear b3r
    have h_r0 : w1.cell? ⟨w.heap.size + 1, 0, none⟩ = some (.bool false) := by simp [World.cell?, b2]
    have f_r0 : w1.frozen? ⟨w.heap.size + 1, 0, none⟩ = false := by simp [World.frozen?, b2]
    have b_r := Lib.hid b2
    clear b2
    go_wp2_with fail
    refine (awake6_calls _  ).mono ?_
    rintro e w2 ⟨he, hbn⟩
    subst he
    have k_w_w2 : Below w.heap.size w w2 := k_w_w1.trans (hbn.mono k_w_w1.size)
    clear k_w_w1
    have b2 := obj_below hbn b_d.out (obj_lt b_d.out)
    clear b_d h_d0 h_d1 h_d2
    have h_d0 : w2.cell? ⟨w.heap.size, 0, none⟩ = some (.bool scr) := by simp [World.cell?, b2]
    have h_d1 : w2.cell? ⟨w.heap.size, 1, none⟩ = some (.int .u64 dseed) := by simp [World.cell?, b2]
    have h_d2 : w2.cell? ⟨w.heap.size, 2, none⟩ = some (.slice A l.length c) := by simp [World.cell?, b2]
    have b_d := Lib.hid b2
    clear b2
    have b2 := obj_below hbn b_r.out (obj_lt b_r.out)
    clear b_r h_r0 f_r0
    have h_r0 : w2.cell? ⟨w.heap.size + 1, 0, none⟩ = some (.bool false) := by simp [World.cell?, b2]
    have f_r0 : w2.frozen? ⟨w.heap.size + 1, 0, none⟩ = false := by simp [World.frozen?, b2]
    have b_r := Lib.hid b2
    clear b2
    clear hbn
    go_wp2_with fail
    have hst := set_blk (cs := [_]) b_r.out 0 (.bool true)
    exact ⟨rfl, _, results_boxed rfl rfl _ _ true rfl (by simp [World.cell?, hst]), rfl, below_set k_w_w2 (by omega) _ _⟩
  have h0' : decide (500 < (l.length : Int)) = false := by simp; omega
  replace h0 : l.length ≤ 500 := by omega
  by_cases h1 : 60 < trees
  · have h1' : decide (60 < trees) = true := by simp; omega
    have k_w : Below w.heap.size w w := Below.refl _ _
    go_enter Try.func10, Try.ntmps10
    go_wp2_with fail
    obtain ⟨w1, hw⟩ : ∃ W, ((w.alloc (.cells #[.bool scr, .int .u64 dseed, .slice A l.length c] 51)).alloc (.cells #[.bool false] 4)) = W := ⟨_, rfl⟩
    rw [hw]
    have hbn : Below w.heap.size w w1 := by rw [← hw]; exact below_alloc1 (below_alloc1 (Below.refl _ _) _) _
    have b3d : w1.heap[w.heap.size]? = some (.cells #[.bool scr, .int .u64 dseed, .slice A l.length c] 51 (0, 0)) := by
      have hx := heap_alloc_new w (.cells #[.bool scr, .int .u64 dseed, .slice A l.length c] 51)
      rw [← hw]
      exact obj_below (B := w.heap.size + 1) (by first | exact (Below.refl _ _).alloc (by simp) _ | exact ((Below.refl _ _).alloc (by simp) _).alloc (by simp) _ | exact (((Below.refl _ _).alloc (by simp) _).alloc (by simp) _).alloc (by simp) _) hx (by omega)
    have b3r : w1.heap[w.heap.size + 1]? = some (.cells #[.bool false] 4 (0, 0)) := by
      have hx := heap_alloc_new (w.alloc (.cells #[.bool scr, .int .u64 dseed, .slice A l.length c] 51)) (.cells #[.bool false] 4)
      simp only [World.size_alloc] at hx
      rw [← hw]
      exact hx
    clear hw
    have k_w_w1 : Below w.heap.size w w1 := k_w.trans (hbn.mono k_w.size)
    clear k_w
    clear hbn
    have b2 := b3d
    clear b3d
    have h_d0 : w1.cell? ⟨w.heap.size, 0, none⟩ = some (.bool scr) := by simp [World.cell?, b2]
    have h_d1 : w1.cell? ⟨w.heap.size, 1, none⟩ = some (.int .u64 dseed) := by simp [World.cell?, b2]
    have h_d2 : w1.cell? ⟨w.heap.size, 2, none⟩ = some (.slice A l.length c) := by simp [World.cell?, b2]
    have b_d := Lib.hid b2
    clear b2
    have b2 := b3r
    clear b3r
    have h_r0 : w1.cell? ⟨w.heap.size + 1, 0, none⟩ = some (.bool false) := by simp [World.cell?, b2]
    have f_r0 : w1.frozen? ⟨w.heap.size + 1, 0, none⟩ = false := by simp [World.frozen?, b2]
    have b_r := Lib.hid b2
    clear b2
    go_wp2_with fail
    refine (awake6_calls _  ).mono ?_
    rintro e w2 ⟨he, hbn⟩
    subst he
    have k_w_w2 : Below w.heap.size w w2 := k_w_w1.trans (hbn.mono k_w_w1.size)
    clear k_w_w1
    have b2 := obj_below hbn b_d.out (obj_lt b_d.out)
    clear b_d h_d0 h_d1 h_d2
    have h_d0 : w2.cell? ⟨w.heap.size, 0, none⟩ = some (.bool scr) := by simp [World.cell?, b2]
    have h_d1 : w2.cell? ⟨w.heap.size, 1, none⟩ = some (.int .u64 dseed) := by simp [World.cell?, b2]
    have h_d2 : w2.cell? ⟨w.heap.size, 2, none⟩ = some (.slice A l.length c) := by simp [World.cell?, b2]
    have b_d := Lib.hid b2
    clear b2
    have b2 := obj_below hbn b_r.out (obj_lt b_r.out)
    clear b_r h_r0 f_r0
    have h_r0 : w2.cell? ⟨w.heap.size + 1, 0, none⟩ = some (.bool false) := by simp [World.cell?, b2]
    have f_r0 : w2.frozen? ⟨w.heap.size + 1, 0, none⟩ = false := by simp [World.frozen?, b2]
    have b_r := Lib.hid b2
    clear b2
    clear hbn
    go_wp2_with fail
    have hst := set_blk (cs := [_]) b_r.out 0 (.bool true)
    exact ⟨rfl, _, results_boxed rfl rfl _ _ true rfl (by simp [World.cell?, hst]), rfl, below_set k_w_w2 (by omega) _ _⟩
  have h1' : decide (60 < trees) = false := by simp; omega
  replace h1 : trees ≤ 60 := by omega
  have k_w : Below w.heap.size w w := Below.refl _ _
  refine (callsIn_wide (n := 5)).1 ?_
  refine callsIn_of_wp_marks Try.func10 rfl trivial ?_ rfl
  refine wpIn_wide.2 ?_
  simp only [Try.ntmps10, List.size_toArray, List.length_cons, List.length_nil, Nat.reduceAdd, Nat.reduceSub, Array.replicate_succ, Array.replicate_zero, List.push_toArray, List.append_toArray, List.nil_append, List.cons_append]
  go_wp2_with fail
  obtain ⟨w1, hw⟩ : ∃ W, ((w.alloc (.cells #[.bool scr, .int .u64 dseed, .slice A l.length c] 51)).alloc (.cells #[.bool false] 4)) = W := ⟨_, rfl⟩
  rw [hw]
  have hbn : Below w.heap.size w w1 := by rw [← hw]; exact below_alloc1 (below_alloc1 (Below.refl _ _) _) _
  have b3d : w1.heap[w.heap.size]? = some (.cells #[.bool scr, .int .u64 dseed, .slice A l.length c] 51 (0, 0)) := by
    have hx := heap_alloc_new w (.cells #[.bool scr, .int .u64 dseed, .slice A l.length c] 51)
    rw [← hw]
    exact obj_below (B := w.heap.size + 1) (by first | exact (Below.refl _ _).alloc (by simp) _ | exact ((Below.refl _ _).alloc (by simp) _).alloc (by simp) _ | exact (((Below.refl _ _).alloc (by simp) _).alloc (by simp) _).alloc (by simp) _) hx (by omega)
  have b3r : w1.heap[w.heap.size + 1]? = some (.cells #[.bool false] 4 (0, 0)) := by
    have hx := heap_alloc_new (w.alloc (.cells #[.bool scr, .int .u64 dseed, .slice A l.length c] 51)) (.cells #[.bool false] 4)
    simp only [World.size_alloc] at hx
    rw [← hw]
    exact hx
  clear hw
  have k_w_w1 : Below w.heap.size w w1 := k_w.trans (hbn.mono k_w.size)
  clear k_w
  clear hbn
  have b2 := b3d
  clear b3d
  have h_d0 : w1.cell? ⟨w.heap.size, 0, none⟩ = some (.bool scr) := by simp [World.cell?, b2]
  have h_d1 : w1.cell? ⟨w.heap.size, 1, none⟩ = some (.int .u64 dseed) := by simp [World.cell?, b2]
  have h_d2 : w1.cell? ⟨w.heap.size, 2, none⟩ = some (.slice A l.length c) := by simp [World.cell?, b2]
  have b_d := Lib.hid b2
  clear b2
  have b2 := b3r
  clear b3r
  have h_r0 : w1.cell? ⟨w.heap.size + 1, 0, none⟩ = some (.bool false) := by simp [World.cell?, b2]
  have f_r0 : w1.frozen? ⟨w.heap.size + 1, 0, none⟩ = false := by simp [World.frozen?, b2]
  have b_r := Lib.hid b2
  clear b2
  go_wp2_with fail
  refine (awake6_calls _  ).mono ?_
  rintro e w2 ⟨he, hbn⟩
  subst he
  have k_w_w2 : Below w.heap.size w w2 := k_w_w1.trans (hbn.mono k_w_w1.size)
  clear k_w_w1
  have b2 := obj_below hbn b_d.out (obj_lt b_d.out)
  clear b_d h_d0 h_d1 h_d2
  have h_d0 : w2.cell? ⟨w.heap.size, 0, none⟩ = some (.bool scr) := by simp [World.cell?, b2]
  have h_d1 : w2.cell? ⟨w.heap.size, 1, none⟩ = some (.int .u64 dseed) := by simp [World.cell?, b2]
  have h_d2 : w2.cell? ⟨w.heap.size, 2, none⟩ = some (.slice A l.length c) := by simp [World.cell?, b2]
  have b_d := Lib.hid b2
  clear b2
  have b2 := obj_below hbn b_r.out (obj_lt b_r.out)
  clear b_r h_r0 f_r0
  have h_r0 : w2.cell? ⟨w.heap.size + 1, 0, none⟩ = some (.bool false) := by simp [World.cell?, b2]
  have f_r0 : w2.frozen? ⟨w.heap.size + 1, 0, none⟩ = false := by simp [World.frozen?, b2]
  have b_r := Lib.hid b2
  clear b2
  clear hbn
  have hif := iface_nil
  have hz2 := k_w_w2.size
  have hz1 := obj_lt b_r.out
  have pd0 : (w2.alloc (.cells #[.slice none 0 0] 57)).cell? ⟨w.heap.size, 0, none⟩ = some (.bool scr) := cell_below ((Below.refl w2.heap.size w2).alloc (Nat.le_refl _) _) h_d0 (by show w.heap.size < w2.heap.size; omega)
  have pd1 : (w2.alloc (.cells #[.slice none 0 0] 57)).cell? ⟨w.heap.size, 1, none⟩ = some (.int .u64 dseed) := cell_below ((Below.refl w2.heap.size w2).alloc (Nat.le_refl _) _) h_d1 (by show w.heap.size < w2.heap.size; omega)
  have pd2 : (w2.alloc (.cells #[.slice none 0 0] 57)).cell? ⟨w.heap.size, 2, none⟩ = some (.slice A l.length c) := cell_below ((Below.refl w2.heap.size w2).alloc (Nat.le_refl _) _) h_d2 (by show w.heap.size < w2.heap.size; omega)
  go_wp2_with fail
  obtain ⟨w3, hw⟩ : ∃ W, w2.alloc (.cells #[.slice none 0 0] 57) = W := ⟨_, rfl⟩
  rw [hw]
  have hbn : Below w2.heap.size w2 w3 := by rw [← hw]; exact below_alloc1 (Below.refl _ _) _
  have b3 : w3.heap[w2.heap.size]? = some (.cells #[.slice none 0 0] 57 (0, 0)) := by rw [← hw]; exact heap_alloc_new _ _
  clear hw
  have k_w_w3 : Below w.heap.size w w3 := k_w_w2.trans (hbn.mono k_w_w2.size)
  clear k_w_w2
  have b2 := obj_below hbn b_d.out (obj_lt b_d.out)
  clear b_d h_d0 h_d1 h_d2
  have h_d0 : w3.cell? ⟨w.heap.size, 0, none⟩ = some (.bool scr) := by simp [World.cell?, b2]
  have h_d1 : w3.cell? ⟨w.heap.size, 1, none⟩ = some (.int .u64 dseed) := by simp [World.cell?, b2]
  have h_d2 : w3.cell? ⟨w.heap.size, 2, none⟩ = some (.slice A l.length c) := by simp [World.cell?, b2]
  have b_d := Lib.hid b2
  clear b2
  have b2 := obj_below hbn b_r.out (obj_lt b_r.out)
  clear b_r h_r0 f_r0
  have h_r0 : w3.cell? ⟨w.heap.size + 1, 0, none⟩ = some (.bool false) := by simp [World.cell?, b2]
  have f_r0 : w3.frozen? ⟨w.heap.size + 1, 0, none⟩ = false := by simp [World.frozen?, b2]
  have b_r := Lib.hid b2
  clear b2
  clear hbn
  have b2 := b3
  clear b3
  have h_a0 : w3.cell? ⟨w2.heap.size, 0, none⟩ = some (.slice none 0 0) := by simp [World.cell?, b2]
  have f_a0 : w3.frozen? ⟨w2.heap.size, 0, none⟩ = false := by simp [World.frozen?, b2]
  have b_a := Lib.hid b2
  clear b2
  clear pd0 pd1 pd2
  refine (All_calls scr dseed A l.length c trees _).mono ?_
  rintro e w4 ⟨he, hw4⟩
  subst he
  have hbn : Below w3.heap.size w3 w4 := by rw [hw4]; exact below_alloc1 (below_alloc1 (Below.refl _ _) _) _
  have bD : w4.heap[w3.heap.size]? = some (.cells #[.bool scr, .int .u64 dseed, .slice A l.length c] 51 (0, 0)) := by
    rw [hw4]; exact obj_below ((Below.refl _ _).alloc (Nat.le_refl _) _) (heap_alloc_new w3 _) (obj_lt (heap_alloc_new w3 _))
  have bT : w4.heap[w3.heap.size + 1]? = some (.cells #[.int .i64 trees] 3 (0, 0)) := by
    rw [hw4]; have h := heap_alloc_new (w3.alloc (.cells #[.bool scr, .int .u64 dseed, .slice A l.length c] 51)) (.cells #[.int .i64 trees] 3); rwa [World.size_alloc] at h
  have hz4 : w4.heap.size ≤ w3.heap.size + 2 ∧ w3.heap.size + 2 ≤ w4.heap.size := by rw [hw4]; simp
  have hz3 := obj_lt b_a.out
  have HBD := Lib.hid bD
  have HBT := Lib.hid bT
  clear hw4 bD bT
  have k_w_w4 : Below w.heap.size w w4 := k_w_w3.trans (hbn.mono k_w_w3.size)
  clear k_w_w3
  have b2 := obj_below hbn b_d.out (obj_lt b_d.out)
  clear b_d h_d0 h_d1 h_d2
  have h_d0 : w4.cell? ⟨w.heap.size, 0, none⟩ = some (.bool scr) := by simp [World.cell?, b2]
  have h_d1 : w4.cell? ⟨w.heap.size, 1, none⟩ = some (.int .u64 dseed) := by simp [World.cell?, b2]
  have h_d2 : w4.cell? ⟨w.heap.size, 2, none⟩ = some (.slice A l.length c) := by simp [World.cell?, b2]
  have b_d := Lib.hid b2
  clear b2
  have b2 := obj_below hbn b_r.out (obj_lt b_r.out)
  clear b_r h_r0 f_r0
  have h_r0 : w4.cell? ⟨w.heap.size + 1, 0, none⟩ = some (.bool false) := by simp [World.cell?, b2]
  have f_r0 : w4.frozen? ⟨w.heap.size + 1, 0, none⟩ = false := by simp [World.frozen?, b2]
  have b_r := Lib.hid b2
  clear b2
  have b2 := obj_below hbn b_a.out (obj_lt b_a.out)
  clear b_a h_a0 f_a0
  have h_a0 : w4.cell? ⟨w2.heap.size, 0, none⟩ = some (.slice none 0 0) := by simp [World.cell?, b2]
  have f_a0 : w4.frozen? ⟨w2.heap.size, 0, none⟩ = false := by simp [World.frozen?, b2]
  have b_a := Lib.hid b2
  clear b2
  clear hbn
  go_wp2_with fail
  obtain ⟨sq, hsq⟩ : ∃ sq : Nat → Nat → Int, (fun j : Nat => offT scr dseed l j trees) = sq := ⟨_, rfl⟩
  have HSQ := Lib.hid hsq
  clear hsq
  have hI0 : SI w (w4.heap.size + 2) w2.heap.size w.heap.size (w.heap.size + 1) #[.bool scr, .int .u64 dseed, .slice A l.length c] sq 0 (.slice none 0 0) [] (fun _ => 0) (fun _ => 0) w4 := ⟨k_w_w4, b_a.out, b_r.out, b_d.out, SR.start _ _ _ _⟩
  have HI0 := Lib.hid hI0
  clear hI0 h_a0 f_a0 h_r0 f_r0 h_d0 h_d1 h_d2 b_a b_r b_d
  refine (wpIn_wide (n := 5)).1 ?_
  refine wpIn_rangeD rfl (by omega) (gf := 32) (lb := #[.pointer (some ⟨w3.heap.size + 1, 0, none⟩), .pointer (some ⟨w3.heap.size, 0, none⟩)]) rfl trivial (enters_of Try.func32 (by kernel_rfl) rfl)
    (all_iter _ w3.heap.size (w3.heap.size + 1) scr dseed A c l trees trees.toNat w w4 rfl (by omega) k_w_w4 KA.out HU.out (by omega) HBD.out HBT.out)
    (fun k h => h.elim) (fun h k => Only.trans h k) (fun W l o o' hl _ _ => KpB.putObj (by omega) (by omega) (by omega)) XS.putObj
    (fun xs A B h _ => h) (fun xs A B h _ => h) (fun _ => rfl)
    (fun pre W => ∃ v xs lo hi, SI w (w4.heap.size + 2) w2.heap.size w.heap.size (w.heap.size + 1) #[.bool scr, .int .u64 dseed, .slice A l.length c] sq pre.length v xs lo hi W)
    (fun c pre W => False)
    (fun pre A B h hs => by obtain ⟨v, xs, lo, hi, h⟩ := h; exact ⟨v, xs, lo, hi, h.step hs (by omega)⟩) (fun c pre A B h hs => h) ⟨_, _, _, _, HI0.out⟩ ?a1 ?assign ?body ?done ?stop
  case assign =>
    intro l x W K hK
    gi_wp2
    exact hK
  case body =>
    clear HI0 HBD HBT k_w_w4
    rintro l2 pre ⟨x1, T, a⟩ A0 W _ hlen hsz ⟨v, xs, lo, hi, hI0⟩ hst ⟨hx1, lo', hi', hlo, hhi, hat⟩
    have hIW := hI0.step hst (by omega)
    obtain ⟨r1, r2, r3, r4, r5⟩ := hIW
    obtain ⟨q1, q2, q3, q4, q5⟩ := hI0
    simp only at hx1 hat
    subst hx1
    obtain ⟨A1, c1, rfl⟩ := r5.shape
    have hsn : sq pre.length = offT scr dseed l pre.length trees := by rw [← HSQ.out]
    rw [← hsn] at hat
    have hca : W.cell? ⟨w2.heap.size, 0, none⟩ = some (.slice A1 pre.length c1) := by simp [World.cell?, r2]
    have R1 := Lib.hid r1
    have R2 := Lib.hid r2
    have R3 := Lib.hid r3
    have R4 := Lib.hid r4
    have R5 := Lib.hid r5
    have Q5 := Lib.hid q5
    have HAT := Lib.hid hat
    have hpl : pre.length < 60 := by omega
    clear r1 r2 r3 r4 r5 q1 q2 q3 q4 q5 hat hsn hst
    have hne : ¬ OwnB (.slice A1 pre.length c1) w2.heap.size := fun h => by have := own_base R5.out.row _ h; omega
    have HW1 := Lib.hid (obj_below ((Below.refl W.heap.size W).alloc (Nat.le_refl _) (.cells #[.iface T (.pointer (some a))] 28)) R2.out (obj_lt R2.out))
    have hbz : w4.heap.size + 2 ≤ (W.alloc (.cells #[.iface T (.pointer (some a))] 28)).heap.size := by rw [World.size_alloc]; omega
    gi_wp2_with (gi_at_builtin; refine wpListIn_app _ rfl (.tmp 37) (.tmp 39) 57 28 rfl .nilIface 1 16 Try.underlying57 info_src rfl (by omega) (by omega) (w4.heap.size + 2) (.slice A1 pre.length c1) pre.length xs rfl (some ⟨W.heap.size, 0, none⟩) 1 1 rfl (own_alloc1 R5.out.row _) hbz [.iface T (.pointer (some a))] rfl (RdC.one _ _ _) (one_iface T a) (by omega) ?_; intro v1 W2 hrow hob hv hnil; obtain ⟨A2, c2, hv2, _⟩ := own_shape hrow; subst hv2; have HROW := Lib.hid hrow; have HOB := Lib.hid hob; have HV := Lib.hid hv; have hfz : W2.frozen? ⟨w2.heap.size, 0, none⟩ = false := free_blk (hob.obj HW1.out hne) 0; have hcw : W2.cell? ⟨w2.heap.size, 0, none⟩ = some (.slice A1 pre.length c1) := cell_blk (cs := [_]) (hob.obj HW1.out hne) 0; clear hrow hob hv hnil)
    obtain ⟨WE, hWE⟩ : ∃ WE, W2.setCell ⟨w2.heap.size, 0, none⟩ (.slice A2 (pre.length + 1) c2) = WE := ⟨_, rfl⟩
    rw [hWE]
    have hW : Only (fun _ => False) W (W.alloc (.cells #[.iface T (.pointer (some a))] 28)) := Only.of_below (below_alloc1 (Below.refl _ _) _)
    have hSR2 := SR.add R5.out Q5.out hsz.1 HAT.out hlo hhi hW HROW.out HOB.out HV.out
    have hset : Only (fun b => b = w2.heap.size) W2 WE := by rw [← hWE]; exact only_set _ _ _ _
    have hSR3 := hSR2.only hset fun b hb1 _ h => by omega
    have hall : Only (fun b => OwnB (.slice A1 pre.length c1) b ∨ b = w2.heap.size) W WE := ((hW.mono fun _ _ h => h.elim).trans (HOB.out.mono fun _ _ h => .inl h)).trans (hset.mono fun _ _ h => .inr h)
    have hkf : KeepsFrom w4.heap.size W WE := ⟨hall.size, fun k o hk hh hc => hall.obj hh fun h => by
      rcases h with h | h
      · obtain ⟨cs, t, f, hcs⟩ := own_cells R5.out.row k h
        rw [hh] at hcs
        injection hcs with hcs
        rw [hcs] at hc
        cases hc
      · omega⟩
    have hob5 : ∀ b, OwnB (.slice A1 pre.length c1) b → w4.heap.size + 2 ≤ b := fun b h => own_base R5.out.row b h
    refine ⟨hkf, hall.mono fun k _ h he => ?_, ?_⟩
    · rcases h with h | h
      · have := hob5 k h
        rcases he with he | he | he <;> omega
      · rcases he with he | he | he <;> omega
    · have hlen : (pre ++ [(((pre.length : Nat) : Int), T, a)]).length = pre.length + 1 := by simp
      show ∃ v xs lo hi, SI w _ _ _ _ _ sq (pre ++ [(((pre.length : Nat) : Int), T, a)]).length v xs lo hi WE
      rw [hlen]
      refine ⟨_, _, _, _, R1.out.trans (hall.below R1.out.size fun k hk h => ?_), ?_, hall.obj R3.out fun h => ?_, hall.obj R4.out fun h => ?_, hSR3⟩
      · rcases h with h | h
        · have := hob5 k h; omega
        · omega
      · rw [← hWE]
        exact set_blk (cs := [_]) (HOB.out.obj HW1.out hne) 0 _
      · rcases h with h | h
        · have := hob5 _ h; omega
        · omega
      · rcases h with h | h
        · have := hob5 _ h; omega
        · omega
  case done =>
    rintro _ ps W rfl hxs ⟨v, xs, lo, hi, r1, r2, r3, r4, r5⟩ hK
    clear HI0 HBD HBT k_w_w4
    rw [hxs] at r5
    obtain ⟨N, hN⟩ : ∃ N, trees.toNat = N := ⟨_, rfl⟩
    rw [hN] at r5
    obtain ⟨A1, c1, rfl⟩ := r5.shape
    have hN6 : N ≤ 60 := by omega
    have hNn : (trees < 0 ∧ N = 0) ∨ (0 ≤ trees ∧ trees = (N : Int)) := by omega
    have hca : W.cell? ⟨w2.heap.size, 0, none⟩ = some (.slice A1 N c1) := by simp [World.cell?, r2]
    have R1 := Lib.hid r1
    have R2 := Lib.hid r2
    have R3 := Lib.hid r3
    have R4 := Lib.hid r4
    have R5 := Lib.hid r5
    have HK := Lib.hid hK
    have hcr : W.cell? ⟨w.heap.size + 1, 0, none⟩ = some (.bool false) := by simp [World.cell?, r3]
    have hfr : W.frozen? ⟨w.heap.size + 1, 0, none⟩ = false := by simp [World.frozen?, r3]
    clear r1 r2 r3 r4 r5 hK hxs hN
    rcases hNn with ⟨hn0, rfl⟩ | ⟨hn0, rfl⟩
    · go_wp2_with fail
      have hJ0 : LJ w (w4.heap.size + 2) w2.heap.size w.heap.size (w.heap.size + 1) w4.heap.size #[.bool scr, .int .u64 dseed, .slice A l.length c] sq (kkf back 0 0) 0 (.slice A1 0 c1) xs lo hi W := ⟨R1.out, R2.out, R3.out, R4.out, HK.out, R5.out.congr fun q hq => by unfold kkf; cases back <;> simp; omega⟩
      have HJ0 := Lib.hid hJ0
      clear hJ0 R1 R2 R3 R4 R5 HK hca hcr hfr
      go_loopg [10] 0 (fun kq v10 w' => kq ≤ 0 ∧ v10 = .int .i64 ((0 - kq : Nat) : Int) ∧ LJ w (w4.heap.size + 2) w2.heap.size w.heap.size (w.heap.size + 1) w4.heap.size #[.bool scr, .int .u64 dseed, .slice A l.length c] sq (kkf back 0 (0 - kq)) 0 (.slice A1 0 c1) xs lo hi w')
      case atStart => exact ⟨Nat.le_refl _, by simp, by rw [Nat.sub_self]; exact HJ0.out⟩
      case round =>
        clear HJ0
        obtain ⟨hk, rfl, hJ⟩ := hrel
        have HJ := Lib.hid hJ
        clear hJ
        cases gk with
        | zero =>
          simp only [Nat.sub_zero] at HJ ⊢
          have hJz := HJ.out
          have hcr : wr.cell? ⟨w.heap.size + 1, 0, none⟩ = some (.bool false) := by have h := hJz.boxR; simp [World.cell?, h]
          have hfr : wr.frozen? ⟨w.heap.size + 1, 0, none⟩ = false := by have h := hJz.boxR; simp [World.frozen?, h]
          have hca : wr.cell? ⟨w2.heap.size, 0, none⟩ = some (.slice A1 0 c1) := by have h := hJz.boxA; simp [World.cell?, h]
          have hF := set_other hJz.fin 0 (.bool true) (by omega : w4.heap.size ≠ w.heap.size + 1)
          have hR := set_blk (cs := [_]) hJz.boxR 0 (.bool true)
          have hRB : Below w.heap.size w (wr.setCell ⟨w.heap.size + 1, 0, none⟩ (.bool true)) := below_set hJz.bel (by omega) _ _
          have hF1 := Lib.hid hF
          have hR1 := Lib.hid hR
          clear hJz hF hR
          go_wp2_with fail
          exact ⟨by simp, .inl ⟨_, _, rfl, run_takeDeferred hF1.out, _, results_boxed rfl rfl _ _ true rfl (by
            have h := (World.putObj_heap_other (o := .deferred none) (by omega : w.heap.size + 1 ≠ w4.heap.size)).trans hR1.out
            simp only [World.cell?, h]
            rfl), rfl, below_putObj2 hRB (by omega) _⟩⟩
        | succ k1 =>
          omega
    · go_wp2_with fail
      have hJ0 : LJ w (w4.heap.size + 2) w2.heap.size w.heap.size (w.heap.size + 1) w4.heap.size #[.bool scr, .int .u64 dseed, .slice A l.length c] sq (kkf back N 0) N (.slice A1 N c1) xs lo hi W := ⟨R1.out, R2.out, R3.out, R4.out, HK.out, R5.out.congr fun q hq => by unfold kkf; cases back <;> simp; omega⟩
      have HJ0 := Lib.hid hJ0
      clear hJ0 R1 R2 R3 R4 R5 HK hca hcr hfr
      go_loopg [10] N (fun kq v10 w' => kq ≤ N ∧ v10 = .int .i64 ((N - kq : Nat) : Int) ∧ LJ w (w4.heap.size + 2) w2.heap.size w.heap.size (w.heap.size + 1) w4.heap.size #[.bool scr, .int .u64 dseed, .slice A l.length c] sq (kkf back N (N - kq)) N (.slice A1 N c1) xs lo hi w')
      case atStart => exact ⟨Nat.le_refl _, by simp, by rw [Nat.sub_self]; exact HJ0.out⟩
      case round =>
        clear HJ0
        obtain ⟨hk, rfl, hJ⟩ := hrel
        have HJ := Lib.hid hJ
        clear hJ
        cases gk with
        | zero =>
          simp only [Nat.sub_zero] at HJ ⊢
          have hJz := HJ.out
          have hcr : wr.cell? ⟨w.heap.size + 1, 0, none⟩ = some (.bool false) := by have h := hJz.boxR; simp [World.cell?, h]
          have hfr : wr.frozen? ⟨w.heap.size + 1, 0, none⟩ = false := by have h := hJz.boxR; simp [World.frozen?, h]
          have hca : wr.cell? ⟨w2.heap.size, 0, none⟩ = some (.slice A1 N c1) := by have h := hJz.boxA; simp [World.cell?, h]
          have hF := set_other hJz.fin 0 (.bool true) (by omega : w4.heap.size ≠ w.heap.size + 1)
          have hR := set_blk (cs := [_]) hJz.boxR 0 (.bool true)
          have hRB : Below w.heap.size w (wr.setCell ⟨w.heap.size + 1, 0, none⟩ (.bool true)) := below_set hJz.bel (by omega) _ _
          have hF1 := Lib.hid hF
          have hR1 := Lib.hid hR
          clear hJz hF hR
          go_wp2_with fail
          exact ⟨by simp, .inl ⟨_, _, rfl, run_takeDeferred hF1.out, _, results_boxed rfl rfl _ _ true rfl (by
            have h := (World.putObj_heap_other (o := .deferred none) (by omega : w.heap.size + 1 ≠ w4.heap.size)).trans hR1.out
            simp only [World.cell?, h]
            rfl), rfl, below_putObj2 hRB (by omega) _⟩⟩
        | succ k1 =>
          obtain ⟨i, hi'⟩ : ∃ i, N - (k1 + 1) = i := ⟨_, rfl⟩
          have hi2 : N - k1 = i + 1 := by omega
          have hlt : i < N := by omega
          rw [hi'] at HJ ⊢
          have HI := Lib.hid hi2
          obtain ⟨k, hk2⟩ : ∃ k, kAt back N i = k := ⟨_, rfl⟩
          have hkN : k < N := by rw [← hk2]; unfold kAt; split <;> omega
          have HKK := Lib.hid hk2
          obtain ⟨n1, hn1⟩ : ∃ n1, n1 + 1 = N := ⟨N - 1, by omega⟩
          have hw1 : IntKind.i64.wrap ((N : Int) - 1) = (n1 : Int) := by rw [i64_w, show (N : Int) - 1 = (n1 : Int) by omega]; exact wrap64_id _ (by omega)
          have hkb : (back = true ∧ (n1 : Int) - (i : Int) = (k : Int)) ∨ (back = false ∧ i = k) := by
            cases back
            · exact .inr ⟨rfl, by rw [← hk2]; rfl⟩
            · exact .inl ⟨rfl, by rw [← hk2]; simp only [kAt, if_true]; omega⟩
          have hJ := HJ.out
          have hca : wr.cell? ⟨w2.heap.size, 0, none⟩ = some (.slice A1 N c1) := by have h := hJ.boxA; simp [World.cell?, h]
          have hd0 : wr.cell? ⟨w.heap.size, 0, none⟩ = some (.bool scr) := by have h := hJ.boxD; simp [World.cell?, h]
          have hd1 : wr.cell? ⟨w.heap.size, 1, none⟩ = some (.int .u64 dseed) := by have h := hJ.boxD; simp [World.cell?, h]
          have hd2 : wr.cell? ⟨w.heap.size, 2, none⟩ = some (.slice A l.length c) := by have h := hJ.boxD; simp [World.cell?, h]
          have hrd := KA.out.below hJ.bel
          have HRD := Lib.hid hrd
          have HN1 := Lib.hid hn1
          clear hJ hrd hi' hi2 hk2 hn1
          rcases hkb with ⟨rfl, hkk⟩ | ⟨rfl, rfl⟩
          · have hw2 : IntKind.i64.wrap ((n1 : Int) - (i : Int)) = (k : Int) := by rw [hkk, i64_w]; exact wrap64_id _ (by omega)
            clear hkk
            go_wp2_with fail
            refine (refOf_calls scr dseed A c l k N _ HRD.out (by omega) (by omega)).mono ?_
            rintro e wf ⟨v5, he, ⟨bR, mixed, st, A', c', l', rfl, hrs, hbR, hal, hst⟩, hbel⟩
            subst he
            have hJ5 := HJ.out.keep hbel
            have hLI : ∀ j, j < N → hi j ≤ bR := fun j hj => Nat.le_trans (HJ.out.sr.bnd j hj).2 hbR
            have hLO : ∀ b, (Value.slice A1 N c1).ownBlock = some b → b < bR := fun b hb => Nat.lt_of_lt_of_le (row_lt HJ.out.sr.row b hb) hbR
            have hLA : ∀ ad, 0 < l'.length → A' = some ad → ∀ j, j < N → hi j ≤ ad.block := fun ad hp he j hj => Nat.le_trans (HJ.out.sr.bnd j hj).2 (hal ad hp he)
            have hk0 := fun q (hq : q < N) => kkf_succ (back := true) hlt hq
            have hkz : kkf true N i k = 0 := by have h := kkf_at (back := true) hlt; rw [HKK.out] at h; exact h
            have hbg : w4.heap.size < bR := Nat.lt_of_lt_of_le (obj_lt HJ.out.fin) hbR
            have hJ6 : LJ w (w4.heap.size + 2) w2.heap.size w.heap.size (w.heap.size + 1) w4.heap.size #[.bool scr, .int .u64 dseed, .slice A l.length c] sq (fun q => if q = k then 0 else kkf true N i q) N (.slice A1 N c1) xs lo hi wf := hJ5.congr fun q hq => by
              by_cases h : q = k
              · rw [if_pos h, h, hkz]
              · rw [if_neg h]
            have HJ6 := Lib.hid hJ6
            have HRS := Lib.hid hrs
            have HLI := Lib.hid hLI
            have HLO := Lib.hid hLO
            have HLA := Lib.hid hLA
            have HST := Lib.hid hst
            have HK0 := Lib.hid hk0
            clear hJ5 hJ6 hrs hLI hLO hLA hal hst hk0 hkz hbel HJ hca hd0 hd1 hd2
            go_wp2_with fail
            go_loopg [13] 5 (fun gq v13 w' => gq ≤ 5 ∧ v13 = .int .i64 ((5 - gq : Nat) : Int) ∧ LJ w (w4.heap.size + 2) w2.heap.size w.heap.size (w.heap.size + 1) w4.heap.size #[.bool scr, .int .u64 dseed, .slice A l.length c] sq (fun q => if q = k then 5 - gq else kkf true N i q) N (.slice A1 N c1) xs lo hi w' ∧ RefS w' bR mixed st A' c' l' (5 - gq))
            case atStart => exact ⟨Nat.le_refl _, rfl, HJ6.out, HRS.out⟩
            case round =>
              clear HJ6 HRS
              obtain ⟨hg, rfl, hJ7, hr7⟩ := hrel
              have HJ7 := Lib.hid hJ7
              have HR7 := Lib.hid hr7
              clear hJ7 hr7
              cases gk with
              | zero =>
                simp only [Nat.sub_zero] at HJ7 HR7 ⊢
                go_wp2_with fail
                go_roundg k1
                case measure => omega
                case rel =>
                  refine ⟨by omega, by rw [HI.out]; rfl, ?_⟩
                  rw [HI.out]
                  exact HJ7.out.congr fun q hq => by rw [HK0.out q hq, HKK.out]
              | succ g1 =>
                obtain ⟨t, ht⟩ : ∃ t, 5 - (g1 + 1) = t := ⟨_, rfl⟩
                have ht2 : 5 - g1 = t + 1 := by omega
                have ht5 : t < 5 := by omega
                rw [ht] at HJ7 HR7 ⊢
                have HT := Lib.hid ht2
                clear ht ht2
                obtain ⟨ad, c9, T, a, hv9, hc9, hx9, hat⟩ := HJ7.out.sr.read k hkN
                injection hv9 with e1 e2 e3
                subst e1 e3
                obtain ⟨T, a, e1, hT⟩ := hat.shape
                injection e1 with e1 e2
                injection e2 with e2
                injection e2 with e2
                subst e1 e2
                simp only [↓reduceIte] at hat
                have mt := hT.meth a
                have ct := hT.call (.pointer (some a))
                obtain ⟨qv, hq⟩ : ∃ q, sq k t = q := ⟨_, rfl⟩
                have hq2 : refS mixed st l' t = qv := by rw [HST.out, ← hq, ← HSQ.out]
                have HQ := Lib.hid hq
                have HQ2 := Lib.hid hq2
                have HAT := Lib.hid hat
                have HX9 := Lib.hid hx9
                have hca : wr.cell? ⟨w2.heap.size, 0, none⟩ = some (.slice (some ad) N c1) := by have h := HJ7.out.boxA; simp [World.cell?, h]
                have bk : (k : Int) < (N : Int) := by omega
                have tqq : (qv != qv) = false := by simp
                clear hq hq2 hat hx9
                go_wp2_with fail
                refine (HAT.out.draw_calls (by omega)).mono ?_
                rintro e w8 ⟨he, hat8, ho8⟩
                rw [HQ.out] at he
                subst he
                have hJ8 := HJ7.out.draw (by omega) hkN HX9.out (by simp only [↓reduceIte]; exact hat8) ho8
                have hr8 := HR7.out.only ho8 (fun h => by have := h.2; have := HLI.out k hkN; omega) (fun ad hp he h => by have := HLA.out ad hp he k hkN; have := h.2; omega)
                have HJ8 := Lib.hid hJ8
                have HR8 := Lib.hid hr8
                clear hJ8 hr8 hat8 ho8
                go_wp2_with fail
                refine (refDraw_calls bR mixed st A' c' l' t _ HR8.out (by omega)).mono ?_
                rintro e w9 ⟨he, hat9, ho9⟩
                rw [HQ2.out] at he
                subst he
                have hJ9 := HJ8.out.one ho9 (by omega) HLI.out HLO.out
                have HJ9 := Lib.hid hJ9
                have HR9 := Lib.hid hat9
                clear hJ9 hat9 ho9
                go_wp2_with fail
                go_roundg g1
                case measure => omega
                case rel =>
                  refine ⟨by omega, by rw [HT.out]; rfl, ?_, by rw [HT.out]; exact HR9.out⟩
                  rw [HT.out]
                  exact HJ9.out.congr fun q hq => by by_cases h : q = k <;> simp [h]
          · go_wp2_with fail
            refine (refOf_calls scr dseed A c l i N _ HRD.out (by omega) (by omega)).mono ?_
            rintro e wf ⟨v5, he, ⟨bR, mixed, st, A', c', l', rfl, hrs, hbR, hal, hst⟩, hbel⟩
            subst he
            have hJ5 := HJ.out.keep hbel
            have hLI : ∀ j, j < N → hi j ≤ bR := fun j hj => Nat.le_trans (HJ.out.sr.bnd j hj).2 hbR
            have hLO : ∀ b, (Value.slice A1 N c1).ownBlock = some b → b < bR := fun b hb => Nat.lt_of_lt_of_le (row_lt HJ.out.sr.row b hb) hbR
            have hLA : ∀ ad, 0 < l'.length → A' = some ad → ∀ j, j < N → hi j ≤ ad.block := fun ad hp he j hj => Nat.le_trans (HJ.out.sr.bnd j hj).2 (hal ad hp he)
            have hk0 := fun q (hq : q < N) => kkf_succ (back := false) hlt hq
            have hkz : kkf false N i i = 0 := by have h := kkf_at (back := false) hlt; rw [HKK.out] at h; exact h
            have hbg : w4.heap.size < bR := Nat.lt_of_lt_of_le (obj_lt HJ.out.fin) hbR
            have hJ6 : LJ w (w4.heap.size + 2) w2.heap.size w.heap.size (w.heap.size + 1) w4.heap.size #[.bool scr, .int .u64 dseed, .slice A l.length c] sq (fun q => if q = i then 0 else kkf false N i q) N (.slice A1 N c1) xs lo hi wf := hJ5.congr fun q hq => by
              by_cases h : q = i
              · rw [if_pos h, h, hkz]
              · rw [if_neg h]
            have HJ6 := Lib.hid hJ6
            have HRS := Lib.hid hrs
            have HLI := Lib.hid hLI
            have HLO := Lib.hid hLO
            have HLA := Lib.hid hLA
            have HST := Lib.hid hst
            have HK0 := Lib.hid hk0
            clear hJ5 hJ6 hrs hLI hLO hLA hal hst hk0 hkz hbel HJ hca hd0 hd1 hd2
            go_wp2_with fail
            go_loopg [13] 5 (fun gq v13 w' => gq ≤ 5 ∧ v13 = .int .i64 ((5 - gq : Nat) : Int) ∧ LJ w (w4.heap.size + 2) w2.heap.size w.heap.size (w.heap.size + 1) w4.heap.size #[.bool scr, .int .u64 dseed, .slice A l.length c] sq (fun q => if q = i then 5 - gq else kkf false N i q) N (.slice A1 N c1) xs lo hi w' ∧ RefS w' bR mixed st A' c' l' (5 - gq))
            case atStart => exact ⟨Nat.le_refl _, rfl, HJ6.out, HRS.out⟩
            case round =>
              clear HJ6 HRS
              obtain ⟨hg, rfl, hJ7, hr7⟩ := hrel
              have HJ7 := Lib.hid hJ7
              have HR7 := Lib.hid hr7
              clear hJ7 hr7
              cases gk with
              | zero =>
                simp only [Nat.sub_zero] at HJ7 HR7 ⊢
                go_wp2_with fail
                go_roundg k1
                case measure => omega
                case rel =>
                  refine ⟨by omega, by rw [HI.out]; rfl, ?_⟩
                  rw [HI.out]
                  exact HJ7.out.congr fun q hq => by rw [HK0.out q hq, HKK.out]
              | succ g1 =>
                obtain ⟨t, ht⟩ : ∃ t, 5 - (g1 + 1) = t := ⟨_, rfl⟩
                have ht2 : 5 - g1 = t + 1 := by omega
                have ht5 : t < 5 := by omega
                rw [ht] at HJ7 HR7 ⊢
                have HT := Lib.hid ht2
                clear ht ht2
                obtain ⟨ad, c9, T, a, hv9, hc9, hx9, hat⟩ := HJ7.out.sr.read i hkN
                injection hv9 with e1 e2 e3
                subst e1 e3
                obtain ⟨T, a, e1, hT⟩ := hat.shape
                injection e1 with e1 e2
                injection e2 with e2
                injection e2 with e2
                subst e1 e2
                simp only [↓reduceIte] at hat
                have mt := hT.meth a
                have ct := hT.call (.pointer (some a))
                obtain ⟨qv, hq⟩ : ∃ q, sq i t = q := ⟨_, rfl⟩
                have hq2 : refS mixed st l' t = qv := by rw [HST.out, ← hq, ← HSQ.out]
                have HQ := Lib.hid hq
                have HQ2 := Lib.hid hq2
                have HAT := Lib.hid hat
                have HX9 := Lib.hid hx9
                have hca : wr.cell? ⟨w2.heap.size, 0, none⟩ = some (.slice (some ad) N c1) := by have h := HJ7.out.boxA; simp [World.cell?, h]
                have bk : (i : Int) < (N : Int) := by omega
                have tqq : (qv != qv) = false := by simp
                clear hq hq2 hat hx9
                go_wp2_with fail
                refine (HAT.out.draw_calls (by omega)).mono ?_
                rintro e w8 ⟨he, hat8, ho8⟩
                rw [HQ.out] at he
                subst he
                have hJ8 := HJ7.out.draw (by omega) hkN HX9.out (by simp only [↓reduceIte]; exact hat8) ho8
                have hr8 := HR7.out.only ho8 (fun h => by have := h.2; have := HLI.out i hkN; omega) (fun ad hp he h => by have := HLA.out ad hp he i hkN; have := h.2; omega)
                have HJ8 := Lib.hid hJ8
                have HR8 := Lib.hid hr8
                clear hJ8 hr8 hat8 ho8
                go_wp2_with fail
                refine (refDraw_calls bR mixed st A' c' l' t _ HR8.out (by omega)).mono ?_
                rintro e w9 ⟨he, hat9, ho9⟩
                rw [HQ2.out] at he
                subst he
                have hJ9 := HJ8.out.one ho9 (by omega) HLI.out HLO.out
                have HJ9 := Lib.hid hJ9
                have HR9 := Lib.hid hat9
                clear hJ9 hat9 ho9
                go_wp2_with fail
                go_roundg g1
                case measure => omega
                case rel =>
                  refine ⟨by omega, by rw [HT.out]; rfl, ?_, by rw [HT.out]; exact HR9.out⟩
                  rw [HT.out]
                  exact HJ9.out.congr fun q hq => by by_cases h : q = i <;> simp [h]
  case stop =>
    rintro b cc pre W _ _ h
    exact h.elim
end Go.Proofs.Ytmcbgogeemnjnaa
