/-
  The statement PlaneTells as a walk: it answers true and leaves all memory that was there as it was. Condition: the arguments read as two planes, two lists of int32 and an int within the form's reach.
-/
import Derived.Test.YtgjcajffkhjlbaaLaw11
import Derived.Test.YtgjcajffkhjlbaaOpen
import Derived.Test.YtgjcajffkhjlbaaPlaneMath
namespace Go.Proofs.Ytgjcajffkhjlbaa
open Go.RowKit
set_option linter.unusedVariables false
set_option linter.unusedSimpArgs false

theorem refFlat_I (z : Int) (n : Nat) (w : World) (hz : z = (n : Int)) (h : n ≤ 1024) :
    Calls Try.prog 38 #[.int .i64 z] w fun e w' => ∃ v, e = .returned (.agg #[v, .int .i64 0]) ∧ Own w' w.heap.size 21 .i32 v (List.replicate n 0) ∧ Below w.heap.size w w' := by
  subst hz
  exact refFlat_calls n w h
set_option maxHeartbeats 6400000 in
set_option maxRecDepth 100000 in
theorem PlaneTells_law (A : Option Addr) (c : Nat) (ns : List Int) (off : Int) (B : Option Addr) (d : Nat) (ms : List Int) (off2 : Int) (C : Option Addr) (f : Nat) (xs : List Int) (D : Option Addr) (g : Nat) (ys : List Int) (dim : Int) (w : World)
    (hc0 : ns.length ≤ c) (hA : Rd w .i32 A ns) (rA : ∀ n ∈ ns, (Lit.int .i32 n).wf = true) (hoff : (Lit.int .i64 off).wf = true)
    (hc1 : ms.length ≤ d) (hB : Rd w .i32 B ms) (rB : ∀ n ∈ ms, (Lit.int .i32 n).wf = true) (hoff2 : (Lit.int .i64 off2).wf = true)
    (hC : Rd w .i32 C xs) (rC : ∀ n ∈ xs, (Lit.int .i32 n).wf = true) (nC : C = none → xs = [] ∧ f = 0) (lC : xs.length * 4 ≤ 140737488351232)
    (hD : Rd w .i32 D ys) (rD : ∀ n ∈ ys, (Lit.int .i32 n).wf = true) (nD : D = none → ys = [] ∧ g = 0) (lD : ys.length * 4 ≤ 140737488351232) (hdim : (Lit.int .i64 dim).wf = true) :
    Calls Try.prog 10 #[.agg #[.slice A ns.length c, .int .i64 off], .agg #[.slice B ms.length d, .int .i64 off2], .slice C xs.length f, .slice D ys.length g, .int .i64 dim] w fun e w' => e = .returned (.bool true) ∧ Below w.heap.size w w' := by
  replace rA := Lib.hid (r32_of_wf rA)
  replace rB := Lib.hid (r32_of_wf rB)
  replace rC := Lib.hid (r32_of_wf rC)
  replace rD := Lib.hid (r32_of_wf rD)
  have lA := hA.1
  have lB := hB.1
  have KA := Lib.hid hA
  have KB := Lib.hid hB
  have KC := Lib.hid hC
  have KD := Lib.hid hD
  have HD := Lib.hid (i64_of_wf hdim)
  clear hA hB hC hD nC nD hoff hoff2 hdim
  by_cases hn0 : 1100 < ns.length
  · have hn0' : decide (1100 < (ns.length : Int)) = true := by simp; omega
    have k_w : Below w.heap.size w w := Below.refl _ _
    go_enter Try.func10, Try.ntmps10
    go_wp2_with fail
    obtain ⟨w1, hw⟩ : ∃ W, ((w.alloc (.cells #[.slice A ns.length c, .int .i64 off] 30)).alloc (.cells #[.slice B ms.length d, .int .i64 off2] 30)) = W := ⟨_, rfl⟩
    rw [hw]
    have hbn : Below w.heap.size w w1 := by rw [← hw]; exact below_alloc1 (below_alloc1 (Below.refl _ _) _) _
    have b3p : w1.heap[w.heap.size]? = some (.cells #[.slice A ns.length c, .int .i64 off] 30 (0, 0)) := by
      have hx := heap_alloc_new w (.cells #[.slice A ns.length c, .int .i64 off] 30)
      rw [← hw]
      exact obj_below (B := w.heap.size + 1) (by first | exact (Below.refl _ _).alloc (by simp) _ | exact ((Below.refl _ _).alloc (by simp) _).alloc (by simp) _ | exact (((Below.refl _ _).alloc (by simp) _).alloc (by simp) _).alloc (by simp) _) hx (by omega)
    have b3q : w1.heap[w.heap.size + 1]? = some (.cells #[.slice B ms.length d, .int .i64 off2] 30 (0, 0)) := by
      have hx := heap_alloc_new (w.alloc (.cells #[.slice A ns.length c, .int .i64 off] 30)) (.cells #[.slice B ms.length d, .int .i64 off2] 30)
      simp only [World.size_alloc] at hx
      rw [← hw]
      exact hx
    clear hw
    have k_w_w1 : Below w.heap.size w w1 := k_w.trans (hbn.mono k_w.size)
    clear k_w
    clear hbn
    have b2 := b3p
    clear b3p
    have h_p0 : w1.cell? ⟨w.heap.size, 0, none⟩ = some (.slice A ns.length c) := by simp [World.cell?, b2]
    have h_p1 : w1.cell? ⟨w.heap.size, 1, none⟩ = some (.int .i64 off) := by simp [World.cell?, b2]
    have b_p := Lib.hid b2
    clear b2
    have b2 := b3q
    clear b3q
    have h_q0 : w1.cell? ⟨w.heap.size + 1, 0, none⟩ = some (.slice B ms.length d) := by simp [World.cell?, b2]
    have h_q1 : w1.cell? ⟨w.heap.size + 1, 1, none⟩ = some (.int .i64 off2) := by simp [World.cell?, b2]
    have b_q := Lib.hid b2
    clear b2
    go_wp2_with fail
    refine (awake_calls _  ).mono ?_
    rintro e w2 ⟨he, hbn⟩
    subst he
    have k_w_w2 : Below w.heap.size w w2 := k_w_w1.trans (hbn.mono k_w_w1.size)
    clear k_w_w1
    have b2 := obj_below hbn b_p.out (obj_lt b_p.out)
    clear b_p h_p0 h_p1
    have h_p0 : w2.cell? ⟨w.heap.size, 0, none⟩ = some (.slice A ns.length c) := by simp [World.cell?, b2]
    have h_p1 : w2.cell? ⟨w.heap.size, 1, none⟩ = some (.int .i64 off) := by simp [World.cell?, b2]
    have b_p := Lib.hid b2
    clear b2
    have b2 := obj_below hbn b_q.out (obj_lt b_q.out)
    clear b_q h_q0 h_q1
    have h_q0 : w2.cell? ⟨w.heap.size + 1, 0, none⟩ = some (.slice B ms.length d) := by simp [World.cell?, b2]
    have h_q1 : w2.cell? ⟨w.heap.size + 1, 1, none⟩ = some (.int .i64 off2) := by simp [World.cell?, b2]
    have b_q := Lib.hid b2
    clear b2
    clear hbn
    go_wp2_with fail
    go_ret
    exact ⟨rfl, k_w_w2⟩
  have hn0' : decide (1100 < (ns.length : Int)) = false := by simp; omega
  replace hn0 : ns.length ≤ 1100 := by omega
  by_cases hn1 : 1100 < ms.length
  · have hn1' : decide (1100 < (ms.length : Int)) = true := by simp; omega
    have k_w : Below w.heap.size w w := Below.refl _ _
    go_enter Try.func10, Try.ntmps10
    go_wp2_with fail
    obtain ⟨w1, hw⟩ : ∃ W, ((w.alloc (.cells #[.slice A ns.length c, .int .i64 off] 30)).alloc (.cells #[.slice B ms.length d, .int .i64 off2] 30)) = W := ⟨_, rfl⟩
    rw [hw]
    have hbn : Below w.heap.size w w1 := by rw [← hw]; exact below_alloc1 (below_alloc1 (Below.refl _ _) _) _
    have b3p : w1.heap[w.heap.size]? = some (.cells #[.slice A ns.length c, .int .i64 off] 30 (0, 0)) := by
      have hx := heap_alloc_new w (.cells #[.slice A ns.length c, .int .i64 off] 30)
      rw [← hw]
      exact obj_below (B := w.heap.size + 1) (by first | exact (Below.refl _ _).alloc (by simp) _ | exact ((Below.refl _ _).alloc (by simp) _).alloc (by simp) _ | exact (((Below.refl _ _).alloc (by simp) _).alloc (by simp) _).alloc (by simp) _) hx (by omega)
    have b3q : w1.heap[w.heap.size + 1]? = some (.cells #[.slice B ms.length d, .int .i64 off2] 30 (0, 0)) := by
      have hx := heap_alloc_new (w.alloc (.cells #[.slice A ns.length c, .int .i64 off] 30)) (.cells #[.slice B ms.length d, .int .i64 off2] 30)
      simp only [World.size_alloc] at hx
      rw [← hw]
      exact hx
    clear hw
    have k_w_w1 : Below w.heap.size w w1 := k_w.trans (hbn.mono k_w.size)
    clear k_w
    clear hbn
    have b2 := b3p
    clear b3p
    have h_p0 : w1.cell? ⟨w.heap.size, 0, none⟩ = some (.slice A ns.length c) := by simp [World.cell?, b2]
    have h_p1 : w1.cell? ⟨w.heap.size, 1, none⟩ = some (.int .i64 off) := by simp [World.cell?, b2]
    have b_p := Lib.hid b2
    clear b2
    have b2 := b3q
    clear b3q
    have h_q0 : w1.cell? ⟨w.heap.size + 1, 0, none⟩ = some (.slice B ms.length d) := by simp [World.cell?, b2]
    have h_q1 : w1.cell? ⟨w.heap.size + 1, 1, none⟩ = some (.int .i64 off2) := by simp [World.cell?, b2]
    have b_q := Lib.hid b2
    clear b2
    go_wp2_with fail
    refine (awake_calls _  ).mono ?_
    rintro e w2 ⟨he, hbn⟩
    subst he
    have k_w_w2 : Below w.heap.size w w2 := k_w_w1.trans (hbn.mono k_w_w1.size)
    clear k_w_w1
    have b2 := obj_below hbn b_p.out (obj_lt b_p.out)
    clear b_p h_p0 h_p1
    have h_p0 : w2.cell? ⟨w.heap.size, 0, none⟩ = some (.slice A ns.length c) := by simp [World.cell?, b2]
    have h_p1 : w2.cell? ⟨w.heap.size, 1, none⟩ = some (.int .i64 off) := by simp [World.cell?, b2]
    have b_p := Lib.hid b2
    clear b2
    have b2 := obj_below hbn b_q.out (obj_lt b_q.out)
    clear b_q h_q0 h_q1
    have h_q0 : w2.cell? ⟨w.heap.size + 1, 0, none⟩ = some (.slice B ms.length d) := by simp [World.cell?, b2]
    have h_q1 : w2.cell? ⟨w.heap.size + 1, 1, none⟩ = some (.int .i64 off2) := by simp [World.cell?, b2]
    have b_q := Lib.hid b2
    clear b2
    clear hbn
    go_wp2_with fail
    go_ret
    exact ⟨rfl, k_w_w2⟩
  have hn1' : decide (1100 < (ms.length : Int)) = false := by simp; omega
  replace hn1 : ms.length ≤ 1100 := by omega
  by_cases hn2 : 1100 < xs.length
  · have hn2' : decide (1100 < (xs.length : Int)) = true := by simp; omega
    have k_w : Below w.heap.size w w := Below.refl _ _
    go_enter Try.func10, Try.ntmps10
    go_wp2_with fail
    obtain ⟨w1, hw⟩ : ∃ W, ((w.alloc (.cells #[.slice A ns.length c, .int .i64 off] 30)).alloc (.cells #[.slice B ms.length d, .int .i64 off2] 30)) = W := ⟨_, rfl⟩
    rw [hw]
    have hbn : Below w.heap.size w w1 := by rw [← hw]; exact below_alloc1 (below_alloc1 (Below.refl _ _) _) _
    have b3p : w1.heap[w.heap.size]? = some (.cells #[.slice A ns.length c, .int .i64 off] 30 (0, 0)) := by
      have hx := heap_alloc_new w (.cells #[.slice A ns.length c, .int .i64 off] 30)
      rw [← hw]
      exact obj_below (B := w.heap.size + 1) (by first | exact (Below.refl _ _).alloc (by simp) _ | exact ((Below.refl _ _).alloc (by simp) _).alloc (by simp) _ | exact (((Below.refl _ _).alloc (by simp) _).alloc (by simp) _).alloc (by simp) _) hx (by omega)
    have b3q : w1.heap[w.heap.size + 1]? = some (.cells #[.slice B ms.length d, .int .i64 off2] 30 (0, 0)) := by
      have hx := heap_alloc_new (w.alloc (.cells #[.slice A ns.length c, .int .i64 off] 30)) (.cells #[.slice B ms.length d, .int .i64 off2] 30)
      simp only [World.size_alloc] at hx
      rw [← hw]
      exact hx
    clear hw
    have k_w_w1 : Below w.heap.size w w1 := k_w.trans (hbn.mono k_w.size)
    clear k_w
    clear hbn
    have b2 := b3p
    clear b3p
    have h_p0 : w1.cell? ⟨w.heap.size, 0, none⟩ = some (.slice A ns.length c) := by simp [World.cell?, b2]
    have h_p1 : w1.cell? ⟨w.heap.size, 1, none⟩ = some (.int .i64 off) := by simp [World.cell?, b2]
    have b_p := Lib.hid b2
    clear b2
    have b2 := b3q
    clear b3q
    have h_q0 : w1.cell? ⟨w.heap.size + 1, 0, none⟩ = some (.slice B ms.length d) := by simp [World.cell?, b2]
    have h_q1 : w1.cell? ⟨w.heap.size + 1, 1, none⟩ = some (.int .i64 off2) := by simp [World.cell?, b2]
    have b_q := Lib.hid b2
    clear b2
    go_wp2_with fail
    refine (awake_calls _  ).mono ?_
    rintro e w2 ⟨he, hbn⟩
    subst he
    have k_w_w2 : Below w.heap.size w w2 := k_w_w1.trans (hbn.mono k_w_w1.size)
    clear k_w_w1
    have b2 := obj_below hbn b_p.out (obj_lt b_p.out)
    clear b_p h_p0 h_p1
    have h_p0 : w2.cell? ⟨w.heap.size, 0, none⟩ = some (.slice A ns.length c) := by simp [World.cell?, b2]
    have h_p1 : w2.cell? ⟨w.heap.size, 1, none⟩ = some (.int .i64 off) := by simp [World.cell?, b2]
    have b_p := Lib.hid b2
    clear b2
    have b2 := obj_below hbn b_q.out (obj_lt b_q.out)
    clear b_q h_q0 h_q1
    have h_q0 : w2.cell? ⟨w.heap.size + 1, 0, none⟩ = some (.slice B ms.length d) := by simp [World.cell?, b2]
    have h_q1 : w2.cell? ⟨w.heap.size + 1, 1, none⟩ = some (.int .i64 off2) := by simp [World.cell?, b2]
    have b_q := Lib.hid b2
    clear b2
    clear hbn
    go_wp2_with fail
    go_ret
    exact ⟨rfl, k_w_w2⟩
  have hn2' : decide (1100 < (xs.length : Int)) = false := by simp; omega
  replace hn2 : xs.length ≤ 1100 := by omega
  by_cases hn3 : 1100 < ys.length
  · have hn3' : decide (1100 < (ys.length : Int)) = true := by simp; omega
    have k_w : Below w.heap.size w w := Below.refl _ _
    go_enter Try.func10, Try.ntmps10
    go_wp2_with fail
    obtain ⟨w1, hw⟩ : ∃ W, ((w.alloc (.cells #[.slice A ns.length c, .int .i64 off] 30)).alloc (.cells #[.slice B ms.length d, .int .i64 off2] 30)) = W := ⟨_, rfl⟩
    rw [hw]
    have hbn : Below w.heap.size w w1 := by rw [← hw]; exact below_alloc1 (below_alloc1 (Below.refl _ _) _) _
    have b3p : w1.heap[w.heap.size]? = some (.cells #[.slice A ns.length c, .int .i64 off] 30 (0, 0)) := by
      have hx := heap_alloc_new w (.cells #[.slice A ns.length c, .int .i64 off] 30)
      rw [← hw]
      exact obj_below (B := w.heap.size + 1) (by first | exact (Below.refl _ _).alloc (by simp) _ | exact ((Below.refl _ _).alloc (by simp) _).alloc (by simp) _ | exact (((Below.refl _ _).alloc (by simp) _).alloc (by simp) _).alloc (by simp) _) hx (by omega)
    have b3q : w1.heap[w.heap.size + 1]? = some (.cells #[.slice B ms.length d, .int .i64 off2] 30 (0, 0)) := by
      have hx := heap_alloc_new (w.alloc (.cells #[.slice A ns.length c, .int .i64 off] 30)) (.cells #[.slice B ms.length d, .int .i64 off2] 30)
      simp only [World.size_alloc] at hx
      rw [← hw]
      exact hx
    clear hw
    have k_w_w1 : Below w.heap.size w w1 := k_w.trans (hbn.mono k_w.size)
    clear k_w
    clear hbn
    have b2 := b3p
    clear b3p
    have h_p0 : w1.cell? ⟨w.heap.size, 0, none⟩ = some (.slice A ns.length c) := by simp [World.cell?, b2]
    have h_p1 : w1.cell? ⟨w.heap.size, 1, none⟩ = some (.int .i64 off) := by simp [World.cell?, b2]
    have b_p := Lib.hid b2
    clear b2
    have b2 := b3q
    clear b3q
    have h_q0 : w1.cell? ⟨w.heap.size + 1, 0, none⟩ = some (.slice B ms.length d) := by simp [World.cell?, b2]
    have h_q1 : w1.cell? ⟨w.heap.size + 1, 1, none⟩ = some (.int .i64 off2) := by simp [World.cell?, b2]
    have b_q := Lib.hid b2
    clear b2
    go_wp2_with fail
    refine (awake_calls _  ).mono ?_
    rintro e w2 ⟨he, hbn⟩
    subst he
    have k_w_w2 : Below w.heap.size w w2 := k_w_w1.trans (hbn.mono k_w_w1.size)
    clear k_w_w1
    have b2 := obj_below hbn b_p.out (obj_lt b_p.out)
    clear b_p h_p0 h_p1
    have h_p0 : w2.cell? ⟨w.heap.size, 0, none⟩ = some (.slice A ns.length c) := by simp [World.cell?, b2]
    have h_p1 : w2.cell? ⟨w.heap.size, 1, none⟩ = some (.int .i64 off) := by simp [World.cell?, b2]
    have b_p := Lib.hid b2
    clear b2
    have b2 := obj_below hbn b_q.out (obj_lt b_q.out)
    clear b_q h_q0 h_q1
    have h_q0 : w2.cell? ⟨w.heap.size + 1, 0, none⟩ = some (.slice B ms.length d) := by simp [World.cell?, b2]
    have h_q1 : w2.cell? ⟨w.heap.size + 1, 1, none⟩ = some (.int .i64 off2) := by simp [World.cell?, b2]
    have b_q := Lib.hid b2
    clear b2
    clear hbn
    go_wp2_with fail
    go_ret
    exact ⟨rfl, k_w_w2⟩
  have hn3' : decide (1100 < (ys.length : Int)) = false := by simp; omega
  replace hn3 : ys.length ≤ 1100 := by omega
  obtain ⟨fl, EF'⟩ : ∃ p, (if dim < 0 ∨ 1024 < dim then 0 else dim.toNat) = p := ⟨_, rfl⟩
  obtain ⟨c1, E1'⟩ : ∃ p, checkP ns off dim = p := ⟨_, rfl⟩
  obtain ⟨L, EL'⟩ : ∃ p, less xs ys = p := ⟨_, rfl⟩
  obtain ⟨ob, EO'⟩ : ∃ p, betweenOff xs ys = p := ⟨_, rfl⟩
  obtain ⟨m, EM'⟩ : ∃ p, margin ns off xs = p := ⟨_, rfl⟩
  obtain ⟨z1, EZ'⟩ : ∃ p, (decide (off = off2) && decide (ns = ms)) = p := ⟨_, rfl⟩
  have hfl : fl ≤ 1024 := by rw [← EF']; split <;> omega
  have EF2 := Lib.hid EF'
  have EF := Lib.hid EF'
  have E1 := Lib.hid E1'
  have EL := Lib.hid EL'
  have EO := Lib.hid EO'
  have EM := Lib.hid EM'
  have EZ := Lib.hid EZ'
  clear EF' E1' EL' EO' EM' EZ'
  obtain ⟨Z, hZ⟩ : ∃ Z, List.replicate fl (0 : Int) = Z := ⟨_, rfl⟩
  have EZZ := Lib.hid hZ
  have S1 : Hid (decide (0 ≤ margin ns off xs) = decide (0 ≤ m)) := by rw [EM.out]; rfl
  have hz1 : (decide (off = off) && decide (ns = ns)) = true := by simp
  have x1 : (c1 == c1) = true := by simp
  have x2 : (m == m) = true := by simp
  have x3 : (decide (0 ≤ m) == decide (0 ≤ m)) = true := by simp
  have x4 : (z1 == z1) = true := by simp
  have hs1 : xs.length ≤ 35184372088832 := by omega
  have hs2 : xs.length ≤ 1000000 := by omega
  clear hZ hz1
  by_cases hd1 : dim < 0
  · have hd1' : decide (dim < 0) = true := decide_eq_true hd1
    have HFL := Lib.hid (show (0 : Int) = (fl : Int) by rw [← EF.out, if_pos (.inl hd1)]; rfl)
    have k_w : Below w.heap.size w w := Below.refl _ _
    go_enter Try.func10, Try.ntmps10
    go_wp2_with fail
    obtain ⟨w1, hw⟩ : ∃ W, ((w.alloc (.cells #[.slice A ns.length c, .int .i64 off] 30)).alloc (.cells #[.slice B ms.length d, .int .i64 off2] 30)) = W := ⟨_, rfl⟩
    rw [hw]
    have hbn : Below w.heap.size w w1 := by rw [← hw]; exact below_alloc1 (below_alloc1 (Below.refl _ _) _) _
    have b3p : w1.heap[w.heap.size]? = some (.cells #[.slice A ns.length c, .int .i64 off] 30 (0, 0)) := by
      have hx := heap_alloc_new w (.cells #[.slice A ns.length c, .int .i64 off] 30)
      rw [← hw]
      exact obj_below (B := w.heap.size + 1) (by first | exact (Below.refl _ _).alloc (by simp) _ | exact ((Below.refl _ _).alloc (by simp) _).alloc (by simp) _ | exact (((Below.refl _ _).alloc (by simp) _).alloc (by simp) _).alloc (by simp) _) hx (by omega)
    have b3q : w1.heap[w.heap.size + 1]? = some (.cells #[.slice B ms.length d, .int .i64 off2] 30 (0, 0)) := by
      have hx := heap_alloc_new (w.alloc (.cells #[.slice A ns.length c, .int .i64 off] 30)) (.cells #[.slice B ms.length d, .int .i64 off2] 30)
      simp only [World.size_alloc] at hx
      rw [← hw]
      exact hx
    clear hw
    have k_w_w1 : Below w.heap.size w w1 := k_w.trans (hbn.mono k_w.size)
    clear k_w
    clear hbn
    have b2 := b3p
    clear b3p
    have h_p0 : w1.cell? ⟨w.heap.size, 0, none⟩ = some (.slice A ns.length c) := by simp [World.cell?, b2]
    have h_p1 : w1.cell? ⟨w.heap.size, 1, none⟩ = some (.int .i64 off) := by simp [World.cell?, b2]
    have b_p := Lib.hid b2
    clear b2
    have b2 := b3q
    clear b3q
    have h_q0 : w1.cell? ⟨w.heap.size + 1, 0, none⟩ = some (.slice B ms.length d) := by simp [World.cell?, b2]
    have h_q1 : w1.cell? ⟨w.heap.size + 1, 1, none⟩ = some (.int .i64 off2) := by simp [World.cell?, b2]
    have b_q := Lib.hid b2
    clear b2
    go_wp2_with fail
    refine (awake_calls _  ).mono ?_
    rintro e w2 ⟨he, hbn⟩
    subst he
    have k_w_w2 : Below w.heap.size w w2 := k_w_w1.trans (hbn.mono k_w_w1.size)
    clear k_w_w1
    have b2 := obj_below hbn b_p.out (obj_lt b_p.out)
    clear b_p h_p0 h_p1
    have h_p0 : w2.cell? ⟨w.heap.size, 0, none⟩ = some (.slice A ns.length c) := by simp [World.cell?, b2]
    have h_p1 : w2.cell? ⟨w.heap.size, 1, none⟩ = some (.int .i64 off) := by simp [World.cell?, b2]
    have b_p := Lib.hid b2
    clear b2
    have b2 := obj_below hbn b_q.out (obj_lt b_q.out)
    clear b_q h_q0 h_q1
    have h_q0 : w2.cell? ⟨w.heap.size + 1, 0, none⟩ = some (.slice B ms.length d) := by simp [World.cell?, b2]
    have h_q1 : w2.cell? ⟨w.heap.size + 1, 1, none⟩ = some (.int .i64 off2) := by simp [World.cell?, b2]
    have b_q := Lib.hid b2
    clear b2
    clear hbn
    have k0 : Below w2.heap.size w2 w2 := Below.refl _ _
    have gp0 := fun o => (World.cell?_alloc_lt (o := o) w2 _ (World.block_lt_of_cell? _ _ h_p0)).trans h_p0
    have gp1 := fun o => (World.cell?_alloc_lt (o := o) w2 _ (World.block_lt_of_cell? _ _ h_p1)).trans h_p1
    go_upto_region 8 with fail
    go_cut [12, 13] (fun s12 s13 wx => ∃ bX AL cL, s12 = .pointer (some ⟨bX, 0, none⟩) ∧ s13 = .int .i64 m ∧ wx.heap[bX]? = some (.cells #[.slice AL L.length cL, .int .i64 ob] 30 (0, 0)) ∧ Rd wx .i32 AL L ∧ Below w2.heap.size w2 wx)
    case first =>
      go_region_law
        (first
          | (go_simp; go_at_call 27; (with_reducible refine (Between_calls C D f g xs ys _ ((KC.out.below k_w_w2).below (by first | ((repeat (first | assumption | exact Below.refl _ _ | apply below_drew1 | apply below_alloc1)); done))) ((KD.out.below k_w_w2).below (by first | ((repeat (first | assumption | exact Below.refl _ _ | apply below_drew1 | apply below_alloc1)); done))) rC.out rD.out hs1).mono ?_); rintro e wb ⟨v4, he, ho, hbn⟩; rw [EO.out] at he; subst he; rw [EL.out] at ho; obtain ⟨AL, cL, hv, hcv, hRV⟩ := ho.shape; subst hv; have HOW := Lib.hid ho; (try (have hbx := obj_below hbn (heap_alloc_new w2 (.cells #[.slice none 0 0, .int .i64 0] 30)) (obj_lt (heap_alloc_new w2 (.cells #[.slice none 0 0, .int .i64 0] 30))); have hbx0 : wb.cell? ⟨w2.heap.size, 0, none⟩ = some (.slice none 0 0) := (by simp [World.cell?, hbx]); have hbx1 : wb.cell? ⟨w2.heap.size, 1, none⟩ = some (.int .i64 0) := (by simp [World.cell?, hbx]); have hbf0 : wb.frozen? ⟨w2.heap.size, 0, none⟩ = false := (by simp [World.frozen?, hbx]); have hbf1 : wb.frozen? ⟨w2.heap.size, 1, none⟩ = false := (by simp [World.frozen?, hbx]))); have hBb : Below w2.heap.size w2 wb := Below.after (by first | ((repeat (first | assumption | exact Below.refl _ _ | apply below_drew1 | apply below_alloc1)); done)) hbn; have hpb0 := cell_below hBb h_p0 (World.block_lt_of_cell? _ _ h_p0); have hpb1 := cell_below hBb h_p1 (World.block_lt_of_cell? _ _ h_p1); have gpb0 := fun o => (World.cell?_alloc_lt (o := o) wb _ (World.block_lt_of_cell? _ _ hpb0)).trans hpb0; have gpb1 := fun o => (World.cell?_alloc_lt (o := o) wb _ (World.block_lt_of_cell? _ _ hpb1)).trans hpb1)
          | (go_simp; go_at_call 32; (with_reducible refine (refMargin_calls A C c f ns xs off _ ((KA.out.below k_w_w2).below (by first | ((repeat (first | assumption | exact Below.refl _ _ | apply below_drew1 | apply below_alloc1)); done) | (refine Below.trans hBb ?_; refine (fun (hh : Below wb.heap.size wb _) => hh.mono hBb.size) ?_; (repeat (first | assumption | exact Below.refl _ _ | apply below_drew1 | apply below_alloc1)); done))) ((KC.out.below k_w_w2).below (by first | ((repeat (first | assumption | exact Below.refl _ _ | apply below_drew1 | apply below_alloc1)); done) | (refine Below.trans hBb ?_; refine (fun (hh : Below wb.heap.size wb _) => hh.mono hBb.size) ?_; (repeat (first | assumption | exact Below.refl _ _ | apply below_drew1 | apply below_alloc1)); done))) rA.out rC.out).mono ?_); rintro e wm ⟨he, hbm⟩; rw [EM.out] at he; subst he; (try (have hm := obj_below hbm (heap_alloc_new wb (.cells #[.slice none 0 0, .int .i64 0] 30)) (obj_lt (heap_alloc_new wb (.cells #[.slice none 0 0, .int .i64 0] 30))); have hm0 : wm.cell? ⟨wb.heap.size, 0, none⟩ = some (.slice none 0 0) := (by simp [World.cell?, hm]); have hm1 : wm.cell? ⟨wb.heap.size, 1, none⟩ = some (.int .i64 0) := (by simp [World.cell?, hm]); have hm2 : wm.frozen? ⟨wb.heap.size, 0, none⟩ = false := (by simp [World.frozen?, hm]); have hm3 : wm.frozen? ⟨wb.heap.size, 1, none⟩ = false := (by simp [World.frozen?, hm]))); (try (have hn := obj_below hbm hbx (obj_lt hbx); have hn0 : wm.cell? ⟨w2.heap.size, 0, none⟩ = some (.slice none 0 0) := (by simp [World.cell?, hn]); have hn1 : wm.cell? ⟨w2.heap.size, 1, none⟩ = some (.int .i64 0) := (by simp [World.cell?, hn]); have hn2 : wm.frozen? ⟨w2.heap.size, 0, none⟩ = false := (by simp [World.frozen?, hn]); have hn3 : wm.frozen? ⟨w2.heap.size, 1, none⟩ = false := (by simp [World.frozen?, hn])))))
      all_goals
        go_wp2_with fail
        go_meet
        first
          | exact ⟨_, AL, cL, rfl, rfl, heap_alloc_new wm _, (HOW.out.rd.2.below hbm).alloc _, below_alloc1 (hBb.trans (hbm.mono hBb.size)) _⟩
          | (have ho1 := (HOW.out.alloc1 (.cells #[.slice none 0 0, .int .i64 0] 30)).keep hbm
             have ho2 := (ho1.only (only_set wm wb.heap.size 0 (.slice AL L.length cL)) (fun k hk e => by have := (HOW.out.lt k hk).2; omega)).only (only_set _ wb.heap.size 1 (.int .i64 ob)) (fun k hk e => by have := (HOW.out.lt k hk).2; omega)
             have hz := hBb.size
             have hbz : Below w2.heap.size w2 wm := (below_alloc1 hBb (.cells #[.slice none 0 0, .int .i64 0] 30)).trans (hbm.mono (by rw [World.size_alloc]; omega))
             exact ⟨_, AL, cL, rfl, rfl, set_blk (cs := [_, _]) (set_blk (cs := [_, _]) hm 0 _) 1 _, ho2.rd.2, below_set (below_set hbz (by omega) _ _) (by omega) _ _⟩)
          | (have ho1 := HOW.out.keep hbm
             have hlo : ∀ k, (Value.slice AL L.length cL).ownBlock = some k → w2.heap.size + 1 ≤ k := fun k hk => by have h := (HOW.out.lt k hk).1; rw [World.size_drew, World.size_alloc] at h; exact h
             have ho2 := (ho1.only (only_set wm w2.heap.size 0 (.slice AL L.length cL)) (fun k hk e => by have := hlo k hk; omega)).only (only_set _ w2.heap.size 1 (.int .i64 ob)) (fun k hk e => by have := hlo k hk; omega)
             have hbz : Below w2.heap.size w2 wm := hBb.trans (hbm.mono hBb.size)
             exact ⟨_, AL, cL, rfl, rfl, set_blk (cs := [_, _]) (set_blk (cs := [_, _]) hn 0 _) 1 _, ho2.rd.2, below_set (below_set hbz (Nat.le_refl _) _ _) (Nat.le_refl _) _ _⟩)
    case rest =>
      obtain ⟨bX, AL, cL, rfl, rfl, hX, hRL, hbc⟩ := hcut
      have hRX := Lib.hid hRL
      have kc := k_w_w2.trans (hbc.mono k_w_w2.size)
      have bp := obj_below hbc b_p.out (obj_lt b_p.out)
      have bq := obj_below hbc b_q.out (obj_lt b_q.out)
      have cp0 : wc.cell? ⟨w.heap.size, 0, none⟩ = some (.slice A ns.length c) := by simp [World.cell?, bp]
      have cp1 : wc.cell? ⟨w.heap.size, 1, none⟩ = some (.int .i64 off) := by simp [World.cell?, bp]
      have cq0 : wc.cell? ⟨w.heap.size + 1, 0, none⟩ = some (.slice B ms.length d) := by simp [World.cell?, bq]
      have cq1 : wc.cell? ⟨w.heap.size + 1, 1, none⟩ = some (.int .i64 off2) := by simp [World.cell?, bq]
      have cx0 : wc.cell? ⟨bX, 0, none⟩ = some (.slice AL L.length cL) := by simp [World.cell?, hX]
      have cx1 : wc.cell? ⟨bX, 1, none⟩ = some (.int .i64 ob) := by simp [World.cell?, hX]
      have GA := Lib.hid (KA.out.below kc)
      have GB := Lib.hid (KB.out.below kc)
      have GC := Lib.hid (KC.out.below kc)
      have GD := Lib.hid (KD.out.below kc)
      have hbs0 : Below wc.heap.size wc wc := Below.refl _ _
      clear hRL hX bp bq h_p0 h_p1 h_q0 h_q1 b_p b_q gp0 gp1 hbc k0 k_w_w2
      go_wp2_with fail
      go_region_held3 (fun w' => w'.cell? ⟨w.heap.size, 0, none⟩ = some (.slice A ns.length c) ∧ w'.cell? ⟨w.heap.size, 1, none⟩ = some (.int .i64 off) ∧ w'.cell? ⟨w.heap.size + 1, 0, none⟩ = some (.slice B ms.length d) ∧ w'.cell? ⟨w.heap.size + 1, 1, none⟩ = some (.int .i64 off2) ∧ w'.cell? ⟨bX, 0, none⟩ = some (.slice AL L.length cL) ∧ w'.cell? ⟨bX, 1, none⟩ = some (.int .i64 ob) ∧ Below wc.heap.size wc w')
        (first | exact ⟨cell_below (B := wc.heap.size) (w := wc) (by first | ((repeat (first | assumption | exact Below.refl _ _ | apply below_drew1 | apply below_alloc1)); done)) cp0 (World.block_lt_of_cell? _ _ cp0), cell_below (B := wc.heap.size) (w := wc) (by first | ((repeat (first | assumption | exact Below.refl _ _ | apply below_drew1 | apply below_alloc1)); done)) cp1 (World.block_lt_of_cell? _ _ cp1), cell_below (B := wc.heap.size) (w := wc) (by first | ((repeat (first | assumption | exact Below.refl _ _ | apply below_drew1 | apply below_alloc1)); done)) cq0 (World.block_lt_of_cell? _ _ cq0), cell_below (B := wc.heap.size) (w := wc) (by first | ((repeat (first | assumption | exact Below.refl _ _ | apply below_drew1 | apply below_alloc1)); done)) cq1 (World.block_lt_of_cell? _ _ cq1), cell_below (B := wc.heap.size) (w := wc) (by first | ((repeat (first | assumption | exact Below.refl _ _ | apply below_drew1 | apply below_alloc1)); done)) cx0 (World.block_lt_of_cell? _ _ cx0), cell_below (B := wc.heap.size) (w := wc) (by first | ((repeat (first | assumption | exact Below.refl _ _ | apply below_drew1 | apply below_alloc1)); done)) cx1 (World.block_lt_of_cell? _ _ cx1), (by first | ((repeat (first | assumption | exact Below.refl _ _ | apply below_drew1 | apply below_alloc1)); done))⟩ | go_keep)
        (first
          | (go_at_call 33; go_split_ands; (with_reducible refine (pCheck_calls A c ns off dim _ (GA.out.below (by first | ((repeat (first | assumption | exact Below.refl _ _ | apply below_drew1 | apply below_alloc1)); done)))).mono ?_); rintro e v1 ⟨he, hbn⟩; rw [E1.out] at he; subst he; have hB1 : Below wc.heap.size wc v1 := Below.after (by first | ((repeat (first | assumption | exact Below.refl _ _ | apply below_drew1 | apply below_alloc1)); done)) hbn)
          | (go_at_call 34; go_split_ands; (with_reducible refine (refpCheck_calls A c ns off dim _ (GA.out.below (by first | ((repeat (first | assumption | exact Below.refl _ _ | apply below_drew1 | apply below_alloc1)); done)))).mono ?_); rintro e v2 ⟨he, hbn⟩; rw [E1.out] at he; subst he; have hB2 : Below wc.heap.size wc v2 := Below.after (by first | ((repeat (first | assumption | exact Below.refl _ _ | apply below_drew1 | apply below_alloc1)); done)) hbn)
          | (go_at_call 36; go_split_ands; (with_reducible refine (refBetween_calls C D f g xs ys _ (GC.out.below (by first | ((repeat (first | assumption | exact Below.refl _ _ | apply below_drew1 | apply below_alloc1)); done))) (GD.out.below (by first | ((repeat (first | assumption | exact Below.refl _ _ | apply below_drew1 | apply below_alloc1)); done))) rC.out rD.out hs2).mono ?_); rintro e v3 ⟨vv, he, ho, hbn⟩; rw [EO.out] at he; subst he; rw [EL.out] at ho; obtain ⟨AR, cR, hv3, _, hR3⟩ := ho.shape; subst hv3; have KR := Lib.hid hR3; have hs3 : Below v3.heap.size v3 v3 := Below.refl _ _; have hB3 : Below wc.heap.size wc v3 := Below.after (by first | ((repeat (first | assumption | exact Below.refl _ _ | apply below_drew1 | apply below_alloc1)); done)) hbn)
          | (go_at_call 35; go_split_ands; (with_reducible refine (refpSame_calls AL AR cL cR L L ob ob _ (hRX.out.below (by first | ((repeat (first | assumption | exact Below.refl _ _ | apply below_drew1 | apply below_alloc1)); done))) (KR.out.below (by first | ((repeat (first | assumption | exact Below.refl _ _ | apply below_drew1 | apply below_alloc1)); done)))).mono ?_); rintro e v4 ⟨he, hbn⟩; replace he : e = .returned (.bool true) := he.trans (by simp); subst he; have hB4 : Below wc.heap.size wc v4 := Below.after (by first | ((repeat (first | assumption | exact Below.refl _ _ | apply below_drew1 | apply below_alloc1)); done)) hbn)
          | (go_at_call 28; go_split_ands; (with_reducible refine (Margin_calls A C c f ns xs off _ (GA.out.below (by first | ((repeat (first | assumption | exact Below.refl _ _ | apply below_drew1 | apply below_alloc1)); done))) (GC.out.below (by first | ((repeat (first | assumption | exact Below.refl _ _ | apply below_drew1 | apply below_alloc1)); done))) rA.out rC.out).mono ?_); rintro e v5 ⟨he, hbn⟩; rw [EM.out] at he; subst he; have hB5 : Below wc.heap.size wc v5 := Below.after (by first | ((repeat (first | assumption | exact Below.refl _ _ | apply below_drew1 | apply below_alloc1)); done)) hbn)
          | (go_at_call 29; go_split_ands; (with_reducible refine (Side_calls A C c f ns xs off _ (GA.out.below (by first | ((repeat (first | assumption | exact Below.refl _ _ | apply below_drew1 | apply below_alloc1)); done))) (GC.out.below (by first | ((repeat (first | assumption | exact Below.refl _ _ | apply below_drew1 | apply below_alloc1)); done))) rA.out rC.out).mono ?_); rintro e v6 ⟨he, hbn⟩; rw [S1.out] at he; subst he; have hB6 : Below wc.heap.size wc v6 := Below.after (by first | ((repeat (first | assumption | exact Below.refl _ _ | apply below_drew1 | apply below_alloc1)); done)) hbn)
          | (go_at_call 31; go_split_ands; (with_reducible refine (pSame_calls A B c d ns ms off off2 _ (GA.out.below (by first | ((repeat (first | assumption | exact Below.refl _ _ | apply below_drew1 | apply below_alloc1)); done))) (GB.out.below (by first | ((repeat (first | assumption | exact Below.refl _ _ | apply below_drew1 | apply below_alloc1)); done)))).mono ?_); rintro e v7 ⟨he, hbn⟩; rw [EZ.out] at he; subst he; have hB7 : Below wc.heap.size wc v7 := Below.after (by first | ((repeat (first | assumption | exact Below.refl _ _ | apply below_drew1 | apply below_alloc1)); done)) hbn)
          | (go_at_call 35; go_split_ands; (with_reducible refine (refpSame_calls A B c d ns ms off off2 _ (GA.out.below (by first | ((repeat (first | assumption | exact Below.refl _ _ | apply below_drew1 | apply below_alloc1)); done))) (GB.out.below (by first | ((repeat (first | assumption | exact Below.refl _ _ | apply below_drew1 | apply below_alloc1)); done)))).mono ?_); rintro e v8 ⟨he, hbn⟩; rw [EZ.out] at he; subst he; have hB8 : Below wc.heap.size wc v8 := Below.after (by first | ((repeat (first | assumption | exact Below.refl _ _ | apply below_drew1 | apply below_alloc1)); done)) hbn)
          | (go_at_call 37; go_split_ands; (with_reducible refine (Flat_calls dim _ HD.out).mono ?_); rintro e v9 ⟨vv, he, ho, hbn⟩; subst he; rw [EF.out, EZZ.out] at ho; obtain ⟨AZ, cZ, hv9, _, hR9⟩ := ho.shape; subst hv9; have KZ := Lib.hid hR9; have hs9 : Below v9.heap.size v9 v9 := Below.refl _ _; have hB9 : Below wc.heap.size wc v9 := Below.after (by first | ((repeat (first | assumption | exact Below.refl _ _ | apply below_drew1 | apply below_alloc1)); done)) hbn)
          | (go_at_call 38; go_split_ands; (with_reducible refine (refFlat_I 0 fl _ HFL.out hfl).mono ?_); rintro e v10 ⟨vv, he, ho, hbn⟩; subst he; rw [EZZ.out] at ho; obtain ⟨AY, cY, hv10, _, hR10⟩ := ho.shape; subst hv10; have KY := Lib.hid hR10; have KZ2 := Lib.hid ((KZ.out.below (by first | ((repeat (first | assumption | exact Below.refl _ _ | apply below_drew1 | apply below_alloc1)); done))).below hbn); have hs10 : Below v10.heap.size v10 v10 := Below.refl _ _; have hB10 : Below wc.heap.size wc v10 := Below.after (by first | ((repeat (first | assumption | exact Below.refl _ _ | apply below_drew1 | apply below_alloc1)); done)) hbn)
          | (go_at_call 35; go_split_ands; (with_reducible refine (refpSame_calls AZ AY cZ cY Z Z 0 0 _ (KZ2.out.below (by first | ((repeat (first | assumption | exact Below.refl _ _ | apply below_drew1 | apply below_alloc1)); done))) (KY.out.below (by first | ((repeat (first | assumption | exact Below.refl _ _ | apply below_drew1 | apply below_alloc1)); done)))).mono ?_); rintro e v11 ⟨he, hbn⟩; replace he : e = .returned (.bool true) := he.trans (by simp); subst he; have hB11 : Below wc.heap.size wc v11 := Below.after (by first | ((repeat (first | assumption | exact Below.refl _ _ | apply below_drew1 | apply below_alloc1)); done)) hbn)
        )
      go_wp2_with fail
      go_ret
      have hz := kc.size
      exact ⟨by simp, kc.trans ((show Below wc.heap.size wc _ from (by first | ((repeat (first | assumption | exact Below.refl _ _ | apply below_drew1 | apply below_alloc1)); done))).mono hz)⟩
  have hd1' : decide (dim < 0) = false := decide_eq_false hd1
  by_cases hd2 : 1024 < dim
  · have hd2' : decide (1024 < dim) = true := decide_eq_true hd2
    have HFL := Lib.hid (show (0 : Int) = (fl : Int) by rw [← EF.out, if_pos (.inr hd2)]; rfl)
    have k_w : Below w.heap.size w w := Below.refl _ _
    go_enter Try.func10, Try.ntmps10
    go_wp2_with fail
    obtain ⟨w1, hw⟩ : ∃ W, ((w.alloc (.cells #[.slice A ns.length c, .int .i64 off] 30)).alloc (.cells #[.slice B ms.length d, .int .i64 off2] 30)) = W := ⟨_, rfl⟩
    rw [hw]
    have hbn : Below w.heap.size w w1 := by rw [← hw]; exact below_alloc1 (below_alloc1 (Below.refl _ _) _) _
    have b3p : w1.heap[w.heap.size]? = some (.cells #[.slice A ns.length c, .int .i64 off] 30 (0, 0)) := by
      have hx := heap_alloc_new w (.cells #[.slice A ns.length c, .int .i64 off] 30)
      rw [← hw]
      exact obj_below (B := w.heap.size + 1) (by first | exact (Below.refl _ _).alloc (by simp) _ | exact ((Below.refl _ _).alloc (by simp) _).alloc (by simp) _ | exact (((Below.refl _ _).alloc (by simp) _).alloc (by simp) _).alloc (by simp) _) hx (by omega)
    have b3q : w1.heap[w.heap.size + 1]? = some (.cells #[.slice B ms.length d, .int .i64 off2] 30 (0, 0)) := by
      have hx := heap_alloc_new (w.alloc (.cells #[.slice A ns.length c, .int .i64 off] 30)) (.cells #[.slice B ms.length d, .int .i64 off2] 30)
      simp only [World.size_alloc] at hx
      rw [← hw]
      exact hx
    clear hw
    have k_w_w1 : Below w.heap.size w w1 := k_w.trans (hbn.mono k_w.size)
    clear k_w
    clear hbn
    have b2 := b3p
    clear b3p
    have h_p0 : w1.cell? ⟨w.heap.size, 0, none⟩ = some (.slice A ns.length c) := by simp [World.cell?, b2]
    have h_p1 : w1.cell? ⟨w.heap.size, 1, none⟩ = some (.int .i64 off) := by simp [World.cell?, b2]
    have b_p := Lib.hid b2
    clear b2
    have b2 := b3q
    clear b3q
    have h_q0 : w1.cell? ⟨w.heap.size + 1, 0, none⟩ = some (.slice B ms.length d) := by simp [World.cell?, b2]
    have h_q1 : w1.cell? ⟨w.heap.size + 1, 1, none⟩ = some (.int .i64 off2) := by simp [World.cell?, b2]
    have b_q := Lib.hid b2
    clear b2
    go_wp2_with fail
    refine (awake_calls _  ).mono ?_
    rintro e w2 ⟨he, hbn⟩
    subst he
    have k_w_w2 : Below w.heap.size w w2 := k_w_w1.trans (hbn.mono k_w_w1.size)
    clear k_w_w1
    have b2 := obj_below hbn b_p.out (obj_lt b_p.out)
    clear b_p h_p0 h_p1
    have h_p0 : w2.cell? ⟨w.heap.size, 0, none⟩ = some (.slice A ns.length c) := by simp [World.cell?, b2]
    have h_p1 : w2.cell? ⟨w.heap.size, 1, none⟩ = some (.int .i64 off) := by simp [World.cell?, b2]
    have b_p := Lib.hid b2
    clear b2
    have b2 := obj_below hbn b_q.out (obj_lt b_q.out)
    clear b_q h_q0 h_q1
    have h_q0 : w2.cell? ⟨w.heap.size + 1, 0, none⟩ = some (.slice B ms.length d) := by simp [World.cell?, b2]
    have h_q1 : w2.cell? ⟨w.heap.size + 1, 1, none⟩ = some (.int .i64 off2) := by simp [World.cell?, b2]
    have b_q := Lib.hid b2
    clear b2
    clear hbn
    have k0 : Below w2.heap.size w2 w2 := Below.refl _ _
    have gp0 := fun o => (World.cell?_alloc_lt (o := o) w2 _ (World.block_lt_of_cell? _ _ h_p0)).trans h_p0
    have gp1 := fun o => (World.cell?_alloc_lt (o := o) w2 _ (World.block_lt_of_cell? _ _ h_p1)).trans h_p1
    go_upto_region 8 with fail
    go_cut [12, 13] (fun s12 s13 wx => ∃ bX AL cL, s12 = .pointer (some ⟨bX, 0, none⟩) ∧ s13 = .int .i64 m ∧ wx.heap[bX]? = some (.cells #[.slice AL L.length cL, .int .i64 ob] 30 (0, 0)) ∧ Rd wx .i32 AL L ∧ Below w2.heap.size w2 wx)
    case first =>
      go_region_law
        (first
          | (go_simp; go_at_call 27; (with_reducible refine (Between_calls C D f g xs ys _ ((KC.out.below k_w_w2).below (by first | ((repeat (first | assumption | exact Below.refl _ _ | apply below_drew1 | apply below_alloc1)); done))) ((KD.out.below k_w_w2).below (by first | ((repeat (first | assumption | exact Below.refl _ _ | apply below_drew1 | apply below_alloc1)); done))) rC.out rD.out hs1).mono ?_); rintro e wb ⟨v4, he, ho, hbn⟩; rw [EO.out] at he; subst he; rw [EL.out] at ho; obtain ⟨AL, cL, hv, hcv, hRV⟩ := ho.shape; subst hv; have HOW := Lib.hid ho; (try (have hbx := obj_below hbn (heap_alloc_new w2 (.cells #[.slice none 0 0, .int .i64 0] 30)) (obj_lt (heap_alloc_new w2 (.cells #[.slice none 0 0, .int .i64 0] 30))); have hbx0 : wb.cell? ⟨w2.heap.size, 0, none⟩ = some (.slice none 0 0) := (by simp [World.cell?, hbx]); have hbx1 : wb.cell? ⟨w2.heap.size, 1, none⟩ = some (.int .i64 0) := (by simp [World.cell?, hbx]); have hbf0 : wb.frozen? ⟨w2.heap.size, 0, none⟩ = false := (by simp [World.frozen?, hbx]); have hbf1 : wb.frozen? ⟨w2.heap.size, 1, none⟩ = false := (by simp [World.frozen?, hbx]))); have hBb : Below w2.heap.size w2 wb := Below.after (by first | ((repeat (first | assumption | exact Below.refl _ _ | apply below_drew1 | apply below_alloc1)); done)) hbn; have hpb0 := cell_below hBb h_p0 (World.block_lt_of_cell? _ _ h_p0); have hpb1 := cell_below hBb h_p1 (World.block_lt_of_cell? _ _ h_p1); have gpb0 := fun o => (World.cell?_alloc_lt (o := o) wb _ (World.block_lt_of_cell? _ _ hpb0)).trans hpb0; have gpb1 := fun o => (World.cell?_alloc_lt (o := o) wb _ (World.block_lt_of_cell? _ _ hpb1)).trans hpb1)
          | (go_simp; go_at_call 32; (with_reducible refine (refMargin_calls A C c f ns xs off _ ((KA.out.below k_w_w2).below (by first | ((repeat (first | assumption | exact Below.refl _ _ | apply below_drew1 | apply below_alloc1)); done) | (refine Below.trans hBb ?_; refine (fun (hh : Below wb.heap.size wb _) => hh.mono hBb.size) ?_; (repeat (first | assumption | exact Below.refl _ _ | apply below_drew1 | apply below_alloc1)); done))) ((KC.out.below k_w_w2).below (by first | ((repeat (first | assumption | exact Below.refl _ _ | apply below_drew1 | apply below_alloc1)); done) | (refine Below.trans hBb ?_; refine (fun (hh : Below wb.heap.size wb _) => hh.mono hBb.size) ?_; (repeat (first | assumption | exact Below.refl _ _ | apply below_drew1 | apply below_alloc1)); done))) rA.out rC.out).mono ?_); rintro e wm ⟨he, hbm⟩; rw [EM.out] at he; subst he; (try (have hm := obj_below hbm (heap_alloc_new wb (.cells #[.slice none 0 0, .int .i64 0] 30)) (obj_lt (heap_alloc_new wb (.cells #[.slice none 0 0, .int .i64 0] 30))); have hm0 : wm.cell? ⟨wb.heap.size, 0, none⟩ = some (.slice none 0 0) := (by simp [World.cell?, hm]); have hm1 : wm.cell? ⟨wb.heap.size, 1, none⟩ = some (.int .i64 0) := (by simp [World.cell?, hm]); have hm2 : wm.frozen? ⟨wb.heap.size, 0, none⟩ = false := (by simp [World.frozen?, hm]); have hm3 : wm.frozen? ⟨wb.heap.size, 1, none⟩ = false := (by simp [World.frozen?, hm]))); (try (have hn := obj_below hbm hbx (obj_lt hbx); have hn0 : wm.cell? ⟨w2.heap.size, 0, none⟩ = some (.slice none 0 0) := (by simp [World.cell?, hn]); have hn1 : wm.cell? ⟨w2.heap.size, 1, none⟩ = some (.int .i64 0) := (by simp [World.cell?, hn]); have hn2 : wm.frozen? ⟨w2.heap.size, 0, none⟩ = false := (by simp [World.frozen?, hn]); have hn3 : wm.frozen? ⟨w2.heap.size, 1, none⟩ = false := (by simp [World.frozen?, hn])))))
      all_goals
        go_wp2_with fail
        go_meet
        first
          | exact ⟨_, AL, cL, rfl, rfl, heap_alloc_new wm _, (HOW.out.rd.2.below hbm).alloc _, below_alloc1 (hBb.trans (hbm.mono hBb.size)) _⟩
          | (have ho1 := (HOW.out.alloc1 (.cells #[.slice none 0 0, .int .i64 0] 30)).keep hbm
             have ho2 := (ho1.only (only_set wm wb.heap.size 0 (.slice AL L.length cL)) (fun k hk e => by have := (HOW.out.lt k hk).2; omega)).only (only_set _ wb.heap.size 1 (.int .i64 ob)) (fun k hk e => by have := (HOW.out.lt k hk).2; omega)
             have hz := hBb.size
             have hbz : Below w2.heap.size w2 wm := (below_alloc1 hBb (.cells #[.slice none 0 0, .int .i64 0] 30)).trans (hbm.mono (by rw [World.size_alloc]; omega))
             exact ⟨_, AL, cL, rfl, rfl, set_blk (cs := [_, _]) (set_blk (cs := [_, _]) hm 0 _) 1 _, ho2.rd.2, below_set (below_set hbz (by omega) _ _) (by omega) _ _⟩)
          | (have ho1 := HOW.out.keep hbm
             have hlo : ∀ k, (Value.slice AL L.length cL).ownBlock = some k → w2.heap.size + 1 ≤ k := fun k hk => by have h := (HOW.out.lt k hk).1; rw [World.size_drew, World.size_alloc] at h; exact h
             have ho2 := (ho1.only (only_set wm w2.heap.size 0 (.slice AL L.length cL)) (fun k hk e => by have := hlo k hk; omega)).only (only_set _ w2.heap.size 1 (.int .i64 ob)) (fun k hk e => by have := hlo k hk; omega)
             have hbz : Below w2.heap.size w2 wm := hBb.trans (hbm.mono hBb.size)
             exact ⟨_, AL, cL, rfl, rfl, set_blk (cs := [_, _]) (set_blk (cs := [_, _]) hn 0 _) 1 _, ho2.rd.2, below_set (below_set hbz (Nat.le_refl _) _ _) (Nat.le_refl _) _ _⟩)
    case rest =>
      obtain ⟨bX, AL, cL, rfl, rfl, hX, hRL, hbc⟩ := hcut
      have hRX := Lib.hid hRL
      have kc := k_w_w2.trans (hbc.mono k_w_w2.size)
      have bp := obj_below hbc b_p.out (obj_lt b_p.out)
      have bq := obj_below hbc b_q.out (obj_lt b_q.out)
      have cp0 : wc.cell? ⟨w.heap.size, 0, none⟩ = some (.slice A ns.length c) := by simp [World.cell?, bp]
      have cp1 : wc.cell? ⟨w.heap.size, 1, none⟩ = some (.int .i64 off) := by simp [World.cell?, bp]
      have cq0 : wc.cell? ⟨w.heap.size + 1, 0, none⟩ = some (.slice B ms.length d) := by simp [World.cell?, bq]
      have cq1 : wc.cell? ⟨w.heap.size + 1, 1, none⟩ = some (.int .i64 off2) := by simp [World.cell?, bq]
      have cx0 : wc.cell? ⟨bX, 0, none⟩ = some (.slice AL L.length cL) := by simp [World.cell?, hX]
      have cx1 : wc.cell? ⟨bX, 1, none⟩ = some (.int .i64 ob) := by simp [World.cell?, hX]
      have GA := Lib.hid (KA.out.below kc)
      have GB := Lib.hid (KB.out.below kc)
      have GC := Lib.hid (KC.out.below kc)
      have GD := Lib.hid (KD.out.below kc)
      have hbs0 : Below wc.heap.size wc wc := Below.refl _ _
      clear hRL hX bp bq h_p0 h_p1 h_q0 h_q1 b_p b_q gp0 gp1 hbc k0 k_w_w2
      go_wp2_with fail
      go_region_held3 (fun w' => w'.cell? ⟨w.heap.size, 0, none⟩ = some (.slice A ns.length c) ∧ w'.cell? ⟨w.heap.size, 1, none⟩ = some (.int .i64 off) ∧ w'.cell? ⟨w.heap.size + 1, 0, none⟩ = some (.slice B ms.length d) ∧ w'.cell? ⟨w.heap.size + 1, 1, none⟩ = some (.int .i64 off2) ∧ w'.cell? ⟨bX, 0, none⟩ = some (.slice AL L.length cL) ∧ w'.cell? ⟨bX, 1, none⟩ = some (.int .i64 ob) ∧ Below wc.heap.size wc w')
        (first | exact ⟨cell_below (B := wc.heap.size) (w := wc) (by first | ((repeat (first | assumption | exact Below.refl _ _ | apply below_drew1 | apply below_alloc1)); done)) cp0 (World.block_lt_of_cell? _ _ cp0), cell_below (B := wc.heap.size) (w := wc) (by first | ((repeat (first | assumption | exact Below.refl _ _ | apply below_drew1 | apply below_alloc1)); done)) cp1 (World.block_lt_of_cell? _ _ cp1), cell_below (B := wc.heap.size) (w := wc) (by first | ((repeat (first | assumption | exact Below.refl _ _ | apply below_drew1 | apply below_alloc1)); done)) cq0 (World.block_lt_of_cell? _ _ cq0), cell_below (B := wc.heap.size) (w := wc) (by first | ((repeat (first | assumption | exact Below.refl _ _ | apply below_drew1 | apply below_alloc1)); done)) cq1 (World.block_lt_of_cell? _ _ cq1), cell_below (B := wc.heap.size) (w := wc) (by first | ((repeat (first | assumption | exact Below.refl _ _ | apply below_drew1 | apply below_alloc1)); done)) cx0 (World.block_lt_of_cell? _ _ cx0), cell_below (B := wc.heap.size) (w := wc) (by first | ((repeat (first | assumption | exact Below.refl _ _ | apply below_drew1 | apply below_alloc1)); done)) cx1 (World.block_lt_of_cell? _ _ cx1), (by first | ((repeat (first | assumption | exact Below.refl _ _ | apply below_drew1 | apply below_alloc1)); done))⟩ | go_keep)
        (first
          | (go_at_call 33; go_split_ands; (with_reducible refine (pCheck_calls A c ns off dim _ (GA.out.below (by first | ((repeat (first | assumption | exact Below.refl _ _ | apply below_drew1 | apply below_alloc1)); done)))).mono ?_); rintro e v1 ⟨he, hbn⟩; rw [E1.out] at he; subst he; have hB1 : Below wc.heap.size wc v1 := Below.after (by first | ((repeat (first | assumption | exact Below.refl _ _ | apply below_drew1 | apply below_alloc1)); done)) hbn)
          | (go_at_call 34; go_split_ands; (with_reducible refine (refpCheck_calls A c ns off dim _ (GA.out.below (by first | ((repeat (first | assumption | exact Below.refl _ _ | apply below_drew1 | apply below_alloc1)); done)))).mono ?_); rintro e v2 ⟨he, hbn⟩; rw [E1.out] at he; subst he; have hB2 : Below wc.heap.size wc v2 := Below.after (by first | ((repeat (first | assumption | exact Below.refl _ _ | apply below_drew1 | apply below_alloc1)); done)) hbn)
          | (go_at_call 36; go_split_ands; (with_reducible refine (refBetween_calls C D f g xs ys _ (GC.out.below (by first | ((repeat (first | assumption | exact Below.refl _ _ | apply below_drew1 | apply below_alloc1)); done))) (GD.out.below (by first | ((repeat (first | assumption | exact Below.refl _ _ | apply below_drew1 | apply below_alloc1)); done))) rC.out rD.out hs2).mono ?_); rintro e v3 ⟨vv, he, ho, hbn⟩; rw [EO.out] at he; subst he; rw [EL.out] at ho; obtain ⟨AR, cR, hv3, _, hR3⟩ := ho.shape; subst hv3; have KR := Lib.hid hR3; have hs3 : Below v3.heap.size v3 v3 := Below.refl _ _; have hB3 : Below wc.heap.size wc v3 := Below.after (by first | ((repeat (first | assumption | exact Below.refl _ _ | apply below_drew1 | apply below_alloc1)); done)) hbn)
          | (go_at_call 35; go_split_ands; (with_reducible refine (refpSame_calls AL AR cL cR L L ob ob _ (hRX.out.below (by first | ((repeat (first | assumption | exact Below.refl _ _ | apply below_drew1 | apply below_alloc1)); done))) (KR.out.below (by first | ((repeat (first | assumption | exact Below.refl _ _ | apply below_drew1 | apply below_alloc1)); done)))).mono ?_); rintro e v4 ⟨he, hbn⟩; replace he : e = .returned (.bool true) := he.trans (by simp); subst he; have hB4 : Below wc.heap.size wc v4 := Below.after (by first | ((repeat (first | assumption | exact Below.refl _ _ | apply below_drew1 | apply below_alloc1)); done)) hbn)
          | (go_at_call 28; go_split_ands; (with_reducible refine (Margin_calls A C c f ns xs off _ (GA.out.below (by first | ((repeat (first | assumption | exact Below.refl _ _ | apply below_drew1 | apply below_alloc1)); done))) (GC.out.below (by first | ((repeat (first | assumption | exact Below.refl _ _ | apply below_drew1 | apply below_alloc1)); done))) rA.out rC.out).mono ?_); rintro e v5 ⟨he, hbn⟩; rw [EM.out] at he; subst he; have hB5 : Below wc.heap.size wc v5 := Below.after (by first | ((repeat (first | assumption | exact Below.refl _ _ | apply below_drew1 | apply below_alloc1)); done)) hbn)
          | (go_at_call 29; go_split_ands; (with_reducible refine (Side_calls A C c f ns xs off _ (GA.out.below (by first | ((repeat (first | assumption | exact Below.refl _ _ | apply below_drew1 | apply below_alloc1)); done))) (GC.out.below (by first | ((repeat (first | assumption | exact Below.refl _ _ | apply below_drew1 | apply below_alloc1)); done))) rA.out rC.out).mono ?_); rintro e v6 ⟨he, hbn⟩; rw [S1.out] at he; subst he; have hB6 : Below wc.heap.size wc v6 := Below.after (by first | ((repeat (first | assumption | exact Below.refl _ _ | apply below_drew1 | apply below_alloc1)); done)) hbn)
          | (go_at_call 31; go_split_ands; (with_reducible refine (pSame_calls A B c d ns ms off off2 _ (GA.out.below (by first | ((repeat (first | assumption | exact Below.refl _ _ | apply below_drew1 | apply below_alloc1)); done))) (GB.out.below (by first | ((repeat (first | assumption | exact Below.refl _ _ | apply below_drew1 | apply below_alloc1)); done)))).mono ?_); rintro e v7 ⟨he, hbn⟩; rw [EZ.out] at he; subst he; have hB7 : Below wc.heap.size wc v7 := Below.after (by first | ((repeat (first | assumption | exact Below.refl _ _ | apply below_drew1 | apply below_alloc1)); done)) hbn)
          | (go_at_call 35; go_split_ands; (with_reducible refine (refpSame_calls A B c d ns ms off off2 _ (GA.out.below (by first | ((repeat (first | assumption | exact Below.refl _ _ | apply below_drew1 | apply below_alloc1)); done))) (GB.out.below (by first | ((repeat (first | assumption | exact Below.refl _ _ | apply below_drew1 | apply below_alloc1)); done)))).mono ?_); rintro e v8 ⟨he, hbn⟩; rw [EZ.out] at he; subst he; have hB8 : Below wc.heap.size wc v8 := Below.after (by first | ((repeat (first | assumption | exact Below.refl _ _ | apply below_drew1 | apply below_alloc1)); done)) hbn)
          | (go_at_call 37; go_split_ands; (with_reducible refine (Flat_calls dim _ HD.out).mono ?_); rintro e v9 ⟨vv, he, ho, hbn⟩; subst he; rw [EF.out, EZZ.out] at ho; obtain ⟨AZ, cZ, hv9, _, hR9⟩ := ho.shape; subst hv9; have KZ := Lib.hid hR9; have hs9 : Below v9.heap.size v9 v9 := Below.refl _ _; have hB9 : Below wc.heap.size wc v9 := Below.after (by first | ((repeat (first | assumption | exact Below.refl _ _ | apply below_drew1 | apply below_alloc1)); done)) hbn)
          | (go_at_call 38; go_split_ands; (with_reducible refine (refFlat_I 0 fl _ HFL.out hfl).mono ?_); rintro e v10 ⟨vv, he, ho, hbn⟩; subst he; rw [EZZ.out] at ho; obtain ⟨AY, cY, hv10, _, hR10⟩ := ho.shape; subst hv10; have KY := Lib.hid hR10; have KZ2 := Lib.hid ((KZ.out.below (by first | ((repeat (first | assumption | exact Below.refl _ _ | apply below_drew1 | apply below_alloc1)); done))).below hbn); have hs10 : Below v10.heap.size v10 v10 := Below.refl _ _; have hB10 : Below wc.heap.size wc v10 := Below.after (by first | ((repeat (first | assumption | exact Below.refl _ _ | apply below_drew1 | apply below_alloc1)); done)) hbn)
          | (go_at_call 35; go_split_ands; (with_reducible refine (refpSame_calls AZ AY cZ cY Z Z 0 0 _ (KZ2.out.below (by first | ((repeat (first | assumption | exact Below.refl _ _ | apply below_drew1 | apply below_alloc1)); done))) (KY.out.below (by first | ((repeat (first | assumption | exact Below.refl _ _ | apply below_drew1 | apply below_alloc1)); done)))).mono ?_); rintro e v11 ⟨he, hbn⟩; replace he : e = .returned (.bool true) := he.trans (by simp); subst he; have hB11 : Below wc.heap.size wc v11 := Below.after (by first | ((repeat (first | assumption | exact Below.refl _ _ | apply below_drew1 | apply below_alloc1)); done)) hbn)
        )
      go_wp2_with fail
      go_ret
      have hz := kc.size
      exact ⟨by simp, kc.trans ((show Below wc.heap.size wc _ from (by first | ((repeat (first | assumption | exact Below.refl _ _ | apply below_drew1 | apply below_alloc1)); done))).mono hz)⟩
  have hd2' : decide (1024 < dim) = false := decide_eq_false hd2
  have HFL := Lib.hid (show dim = (fl : Int) by rw [← EF.out, if_neg (by omega)]; omega)
  have k_w : Below w.heap.size w w := Below.refl _ _
  go_enter Try.func10, Try.ntmps10
  go_wp2_with fail
  obtain ⟨w1, hw⟩ : ∃ W, ((w.alloc (.cells #[.slice A ns.length c, .int .i64 off] 30)).alloc (.cells #[.slice B ms.length d, .int .i64 off2] 30)) = W := ⟨_, rfl⟩
  rw [hw]
  have hbn : Below w.heap.size w w1 := by rw [← hw]; exact below_alloc1 (below_alloc1 (Below.refl _ _) _) _
  have b3p : w1.heap[w.heap.size]? = some (.cells #[.slice A ns.length c, .int .i64 off] 30 (0, 0)) := by
    have hx := heap_alloc_new w (.cells #[.slice A ns.length c, .int .i64 off] 30)
    rw [← hw]
    exact obj_below (B := w.heap.size + 1) (by first | exact (Below.refl _ _).alloc (by simp) _ | exact ((Below.refl _ _).alloc (by simp) _).alloc (by simp) _ | exact (((Below.refl _ _).alloc (by simp) _).alloc (by simp) _).alloc (by simp) _) hx (by omega)
  have b3q : w1.heap[w.heap.size + 1]? = some (.cells #[.slice B ms.length d, .int .i64 off2] 30 (0, 0)) := by
    have hx := heap_alloc_new (w.alloc (.cells #[.slice A ns.length c, .int .i64 off] 30)) (.cells #[.slice B ms.length d, .int .i64 off2] 30)
    simp only [World.size_alloc] at hx
    rw [← hw]
    exact hx
  clear hw
  have k_w_w1 : Below w.heap.size w w1 := k_w.trans (hbn.mono k_w.size)
  clear k_w
  clear hbn
  have b2 := b3p
  clear b3p
  have h_p0 : w1.cell? ⟨w.heap.size, 0, none⟩ = some (.slice A ns.length c) := by simp [World.cell?, b2]
  have h_p1 : w1.cell? ⟨w.heap.size, 1, none⟩ = some (.int .i64 off) := by simp [World.cell?, b2]
  have b_p := Lib.hid b2
  clear b2
  have b2 := b3q
  clear b3q
  have h_q0 : w1.cell? ⟨w.heap.size + 1, 0, none⟩ = some (.slice B ms.length d) := by simp [World.cell?, b2]
  have h_q1 : w1.cell? ⟨w.heap.size + 1, 1, none⟩ = some (.int .i64 off2) := by simp [World.cell?, b2]
  have b_q := Lib.hid b2
  clear b2
  go_wp2_with fail
  refine (awake_calls _  ).mono ?_
  rintro e w2 ⟨he, hbn⟩
  subst he
  have k_w_w2 : Below w.heap.size w w2 := k_w_w1.trans (hbn.mono k_w_w1.size)
  clear k_w_w1
  have b2 := obj_below hbn b_p.out (obj_lt b_p.out)
  clear b_p h_p0 h_p1
  have h_p0 : w2.cell? ⟨w.heap.size, 0, none⟩ = some (.slice A ns.length c) := by simp [World.cell?, b2]
  have h_p1 : w2.cell? ⟨w.heap.size, 1, none⟩ = some (.int .i64 off) := by simp [World.cell?, b2]
  have b_p := Lib.hid b2
  clear b2
  have b2 := obj_below hbn b_q.out (obj_lt b_q.out)
  clear b_q h_q0 h_q1
  have h_q0 : w2.cell? ⟨w.heap.size + 1, 0, none⟩ = some (.slice B ms.length d) := by simp [World.cell?, b2]
  have h_q1 : w2.cell? ⟨w.heap.size + 1, 1, none⟩ = some (.int .i64 off2) := by simp [World.cell?, b2]
  have b_q := Lib.hid b2
  clear b2
  clear hbn
  have k0 : Below w2.heap.size w2 w2 := Below.refl _ _
  have gp0 := fun o => (World.cell?_alloc_lt (o := o) w2 _ (World.block_lt_of_cell? _ _ h_p0)).trans h_p0
  have gp1 := fun o => (World.cell?_alloc_lt (o := o) w2 _ (World.block_lt_of_cell? _ _ h_p1)).trans h_p1
  go_upto_region 8 with fail
  go_cut [12, 13] (fun s12 s13 wx => ∃ bX AL cL, s12 = .pointer (some ⟨bX, 0, none⟩) ∧ s13 = .int .i64 m ∧ wx.heap[bX]? = some (.cells #[.slice AL L.length cL, .int .i64 ob] 30 (0, 0)) ∧ Rd wx .i32 AL L ∧ Below w2.heap.size w2 wx)
  case first =>
    go_region_law
      (first
        | (go_simp; go_at_call 27; (with_reducible refine (Between_calls C D f g xs ys _ ((KC.out.below k_w_w2).below (by first | ((repeat (first | assumption | exact Below.refl _ _ | apply below_drew1 | apply below_alloc1)); done))) ((KD.out.below k_w_w2).below (by first | ((repeat (first | assumption | exact Below.refl _ _ | apply below_drew1 | apply below_alloc1)); done))) rC.out rD.out hs1).mono ?_); rintro e wb ⟨v4, he, ho, hbn⟩; rw [EO.out] at he; subst he; rw [EL.out] at ho; obtain ⟨AL, cL, hv, hcv, hRV⟩ := ho.shape; subst hv; have HOW := Lib.hid ho; (try (have hbx := obj_below hbn (heap_alloc_new w2 (.cells #[.slice none 0 0, .int .i64 0] 30)) (obj_lt (heap_alloc_new w2 (.cells #[.slice none 0 0, .int .i64 0] 30))); have hbx0 : wb.cell? ⟨w2.heap.size, 0, none⟩ = some (.slice none 0 0) := (by simp [World.cell?, hbx]); have hbx1 : wb.cell? ⟨w2.heap.size, 1, none⟩ = some (.int .i64 0) := (by simp [World.cell?, hbx]); have hbf0 : wb.frozen? ⟨w2.heap.size, 0, none⟩ = false := (by simp [World.frozen?, hbx]); have hbf1 : wb.frozen? ⟨w2.heap.size, 1, none⟩ = false := (by simp [World.frozen?, hbx]))); have hBb : Below w2.heap.size w2 wb := Below.after (by first | ((repeat (first | assumption | exact Below.refl _ _ | apply below_drew1 | apply below_alloc1)); done)) hbn; have hpb0 := cell_below hBb h_p0 (World.block_lt_of_cell? _ _ h_p0); have hpb1 := cell_below hBb h_p1 (World.block_lt_of_cell? _ _ h_p1); have gpb0 := fun o => (World.cell?_alloc_lt (o := o) wb _ (World.block_lt_of_cell? _ _ hpb0)).trans hpb0; have gpb1 := fun o => (World.cell?_alloc_lt (o := o) wb _ (World.block_lt_of_cell? _ _ hpb1)).trans hpb1)
        | (go_simp; go_at_call 32; (with_reducible refine (refMargin_calls A C c f ns xs off _ ((KA.out.below k_w_w2).below (by first | ((repeat (first | assumption | exact Below.refl _ _ | apply below_drew1 | apply below_alloc1)); done) | (refine Below.trans hBb ?_; refine (fun (hh : Below wb.heap.size wb _) => hh.mono hBb.size) ?_; (repeat (first | assumption | exact Below.refl _ _ | apply below_drew1 | apply below_alloc1)); done))) ((KC.out.below k_w_w2).below (by first | ((repeat (first | assumption | exact Below.refl _ _ | apply below_drew1 | apply below_alloc1)); done) | (refine Below.trans hBb ?_; refine (fun (hh : Below wb.heap.size wb _) => hh.mono hBb.size) ?_; (repeat (first | assumption | exact Below.refl _ _ | apply below_drew1 | apply below_alloc1)); done))) rA.out rC.out).mono ?_); rintro e wm ⟨he, hbm⟩; rw [EM.out] at he; subst he; (try (have hm := obj_below hbm (heap_alloc_new wb (.cells #[.slice none 0 0, .int .i64 0] 30)) (obj_lt (heap_alloc_new wb (.cells #[.slice none 0 0, .int .i64 0] 30))); have hm0 : wm.cell? ⟨wb.heap.size, 0, none⟩ = some (.slice none 0 0) := (by simp [World.cell?, hm]); have hm1 : wm.cell? ⟨wb.heap.size, 1, none⟩ = some (.int .i64 0) := (by simp [World.cell?, hm]); have hm2 : wm.frozen? ⟨wb.heap.size, 0, none⟩ = false := (by simp [World.frozen?, hm]); have hm3 : wm.frozen? ⟨wb.heap.size, 1, none⟩ = false := (by simp [World.frozen?, hm]))); (try (have hn := obj_below hbm hbx (obj_lt hbx); have hn0 : wm.cell? ⟨w2.heap.size, 0, none⟩ = some (.slice none 0 0) := (by simp [World.cell?, hn]); have hn1 : wm.cell? ⟨w2.heap.size, 1, none⟩ = some (.int .i64 0) := (by simp [World.cell?, hn]); have hn2 : wm.frozen? ⟨w2.heap.size, 0, none⟩ = false := (by simp [World.frozen?, hn]); have hn3 : wm.frozen? ⟨w2.heap.size, 1, none⟩ = false := (by simp [World.frozen?, hn])))))
    all_goals
      go_wp2_with fail
      go_meet
      first
        | exact ⟨_, AL, cL, rfl, rfl, heap_alloc_new wm _, (HOW.out.rd.2.below hbm).alloc _, below_alloc1 (hBb.trans (hbm.mono hBb.size)) _⟩
        | (have ho1 := (HOW.out.alloc1 (.cells #[.slice none 0 0, .int .i64 0] 30)).keep hbm
           have ho2 := (ho1.only (only_set wm wb.heap.size 0 (.slice AL L.length cL)) (fun k hk e => by have := (HOW.out.lt k hk).2; omega)).only (only_set _ wb.heap.size 1 (.int .i64 ob)) (fun k hk e => by have := (HOW.out.lt k hk).2; omega)
           have hz := hBb.size
           have hbz : Below w2.heap.size w2 wm := (below_alloc1 hBb (.cells #[.slice none 0 0, .int .i64 0] 30)).trans (hbm.mono (by rw [World.size_alloc]; omega))
           exact ⟨_, AL, cL, rfl, rfl, set_blk (cs := [_, _]) (set_blk (cs := [_, _]) hm 0 _) 1 _, ho2.rd.2, below_set (below_set hbz (by omega) _ _) (by omega) _ _⟩)
        | (have ho1 := HOW.out.keep hbm
           have hlo : ∀ k, (Value.slice AL L.length cL).ownBlock = some k → w2.heap.size + 1 ≤ k := fun k hk => by have h := (HOW.out.lt k hk).1; rw [World.size_drew, World.size_alloc] at h; exact h
           have ho2 := (ho1.only (only_set wm w2.heap.size 0 (.slice AL L.length cL)) (fun k hk e => by have := hlo k hk; omega)).only (only_set _ w2.heap.size 1 (.int .i64 ob)) (fun k hk e => by have := hlo k hk; omega)
           have hbz : Below w2.heap.size w2 wm := hBb.trans (hbm.mono hBb.size)
           exact ⟨_, AL, cL, rfl, rfl, set_blk (cs := [_, _]) (set_blk (cs := [_, _]) hn 0 _) 1 _, ho2.rd.2, below_set (below_set hbz (Nat.le_refl _) _ _) (Nat.le_refl _) _ _⟩)
  case rest =>
    obtain ⟨bX, AL, cL, rfl, rfl, hX, hRL, hbc⟩ := hcut
    have hRX := Lib.hid hRL
    have kc := k_w_w2.trans (hbc.mono k_w_w2.size)
    have bp := obj_below hbc b_p.out (obj_lt b_p.out)
    have bq := obj_below hbc b_q.out (obj_lt b_q.out)
    have cp0 : wc.cell? ⟨w.heap.size, 0, none⟩ = some (.slice A ns.length c) := by simp [World.cell?, bp]
    have cp1 : wc.cell? ⟨w.heap.size, 1, none⟩ = some (.int .i64 off) := by simp [World.cell?, bp]
    have cq0 : wc.cell? ⟨w.heap.size + 1, 0, none⟩ = some (.slice B ms.length d) := by simp [World.cell?, bq]
    have cq1 : wc.cell? ⟨w.heap.size + 1, 1, none⟩ = some (.int .i64 off2) := by simp [World.cell?, bq]
    have cx0 : wc.cell? ⟨bX, 0, none⟩ = some (.slice AL L.length cL) := by simp [World.cell?, hX]
    have cx1 : wc.cell? ⟨bX, 1, none⟩ = some (.int .i64 ob) := by simp [World.cell?, hX]
    have GA := Lib.hid (KA.out.below kc)
    have GB := Lib.hid (KB.out.below kc)
    have GC := Lib.hid (KC.out.below kc)
    have GD := Lib.hid (KD.out.below kc)
    have hbs0 : Below wc.heap.size wc wc := Below.refl _ _
    clear hRL hX bp bq h_p0 h_p1 h_q0 h_q1 b_p b_q gp0 gp1 hbc k0 k_w_w2
    go_wp2_with fail
    go_region_held3 (fun w' => w'.cell? ⟨w.heap.size, 0, none⟩ = some (.slice A ns.length c) ∧ w'.cell? ⟨w.heap.size, 1, none⟩ = some (.int .i64 off) ∧ w'.cell? ⟨w.heap.size + 1, 0, none⟩ = some (.slice B ms.length d) ∧ w'.cell? ⟨w.heap.size + 1, 1, none⟩ = some (.int .i64 off2) ∧ w'.cell? ⟨bX, 0, none⟩ = some (.slice AL L.length cL) ∧ w'.cell? ⟨bX, 1, none⟩ = some (.int .i64 ob) ∧ Below wc.heap.size wc w')
      (first | exact ⟨cell_below (B := wc.heap.size) (w := wc) (by first | ((repeat (first | assumption | exact Below.refl _ _ | apply below_drew1 | apply below_alloc1)); done)) cp0 (World.block_lt_of_cell? _ _ cp0), cell_below (B := wc.heap.size) (w := wc) (by first | ((repeat (first | assumption | exact Below.refl _ _ | apply below_drew1 | apply below_alloc1)); done)) cp1 (World.block_lt_of_cell? _ _ cp1), cell_below (B := wc.heap.size) (w := wc) (by first | ((repeat (first | assumption | exact Below.refl _ _ | apply below_drew1 | apply below_alloc1)); done)) cq0 (World.block_lt_of_cell? _ _ cq0), cell_below (B := wc.heap.size) (w := wc) (by first | ((repeat (first | assumption | exact Below.refl _ _ | apply below_drew1 | apply below_alloc1)); done)) cq1 (World.block_lt_of_cell? _ _ cq1), cell_below (B := wc.heap.size) (w := wc) (by first | ((repeat (first | assumption | exact Below.refl _ _ | apply below_drew1 | apply below_alloc1)); done)) cx0 (World.block_lt_of_cell? _ _ cx0), cell_below (B := wc.heap.size) (w := wc) (by first | ((repeat (first | assumption | exact Below.refl _ _ | apply below_drew1 | apply below_alloc1)); done)) cx1 (World.block_lt_of_cell? _ _ cx1), (by first | ((repeat (first | assumption | exact Below.refl _ _ | apply below_drew1 | apply below_alloc1)); done))⟩ | go_keep)
      (first
        | (go_at_call 33; go_split_ands; (with_reducible refine (pCheck_calls A c ns off dim _ (GA.out.below (by first | ((repeat (first | assumption | exact Below.refl _ _ | apply below_drew1 | apply below_alloc1)); done)))).mono ?_); rintro e v1 ⟨he, hbn⟩; rw [E1.out] at he; subst he; have hB1 : Below wc.heap.size wc v1 := Below.after (by first | ((repeat (first | assumption | exact Below.refl _ _ | apply below_drew1 | apply below_alloc1)); done)) hbn)
        | (go_at_call 34; go_split_ands; (with_reducible refine (refpCheck_calls A c ns off dim _ (GA.out.below (by first | ((repeat (first | assumption | exact Below.refl _ _ | apply below_drew1 | apply below_alloc1)); done)))).mono ?_); rintro e v2 ⟨he, hbn⟩; rw [E1.out] at he; subst he; have hB2 : Below wc.heap.size wc v2 := Below.after (by first | ((repeat (first | assumption | exact Below.refl _ _ | apply below_drew1 | apply below_alloc1)); done)) hbn)
        | (go_at_call 36; go_split_ands; (with_reducible refine (refBetween_calls C D f g xs ys _ (GC.out.below (by first | ((repeat (first | assumption | exact Below.refl _ _ | apply below_drew1 | apply below_alloc1)); done))) (GD.out.below (by first | ((repeat (first | assumption | exact Below.refl _ _ | apply below_drew1 | apply below_alloc1)); done))) rC.out rD.out hs2).mono ?_); rintro e v3 ⟨vv, he, ho, hbn⟩; rw [EO.out] at he; subst he; rw [EL.out] at ho; obtain ⟨AR, cR, hv3, _, hR3⟩ := ho.shape; subst hv3; have KR := Lib.hid hR3; have hs3 : Below v3.heap.size v3 v3 := Below.refl _ _; have hB3 : Below wc.heap.size wc v3 := Below.after (by first | ((repeat (first | assumption | exact Below.refl _ _ | apply below_drew1 | apply below_alloc1)); done)) hbn)
        | (go_at_call 35; go_split_ands; (with_reducible refine (refpSame_calls AL AR cL cR L L ob ob _ (hRX.out.below (by first | ((repeat (first | assumption | exact Below.refl _ _ | apply below_drew1 | apply below_alloc1)); done))) (KR.out.below (by first | ((repeat (first | assumption | exact Below.refl _ _ | apply below_drew1 | apply below_alloc1)); done)))).mono ?_); rintro e v4 ⟨he, hbn⟩; replace he : e = .returned (.bool true) := he.trans (by simp); subst he; have hB4 : Below wc.heap.size wc v4 := Below.after (by first | ((repeat (first | assumption | exact Below.refl _ _ | apply below_drew1 | apply below_alloc1)); done)) hbn)
        | (go_at_call 28; go_split_ands; (with_reducible refine (Margin_calls A C c f ns xs off _ (GA.out.below (by first | ((repeat (first | assumption | exact Below.refl _ _ | apply below_drew1 | apply below_alloc1)); done))) (GC.out.below (by first | ((repeat (first | assumption | exact Below.refl _ _ | apply below_drew1 | apply below_alloc1)); done))) rA.out rC.out).mono ?_); rintro e v5 ⟨he, hbn⟩; rw [EM.out] at he; subst he; have hB5 : Below wc.heap.size wc v5 := Below.after (by first | ((repeat (first | assumption | exact Below.refl _ _ | apply below_drew1 | apply below_alloc1)); done)) hbn)
        | (go_at_call 29; go_split_ands; (with_reducible refine (Side_calls A C c f ns xs off _ (GA.out.below (by first | ((repeat (first | assumption | exact Below.refl _ _ | apply below_drew1 | apply below_alloc1)); done))) (GC.out.below (by first | ((repeat (first | assumption | exact Below.refl _ _ | apply below_drew1 | apply below_alloc1)); done))) rA.out rC.out).mono ?_); rintro e v6 ⟨he, hbn⟩; rw [S1.out] at he; subst he; have hB6 : Below wc.heap.size wc v6 := Below.after (by first | ((repeat (first | assumption | exact Below.refl _ _ | apply below_drew1 | apply below_alloc1)); done)) hbn)
        | (go_at_call 31; go_split_ands; (with_reducible refine (pSame_calls A B c d ns ms off off2 _ (GA.out.below (by first | ((repeat (first | assumption | exact Below.refl _ _ | apply below_drew1 | apply below_alloc1)); done))) (GB.out.below (by first | ((repeat (first | assumption | exact Below.refl _ _ | apply below_drew1 | apply below_alloc1)); done)))).mono ?_); rintro e v7 ⟨he, hbn⟩; rw [EZ.out] at he; subst he; have hB7 : Below wc.heap.size wc v7 := Below.after (by first | ((repeat (first | assumption | exact Below.refl _ _ | apply below_drew1 | apply below_alloc1)); done)) hbn)
        | (go_at_call 35; go_split_ands; (with_reducible refine (refpSame_calls A B c d ns ms off off2 _ (GA.out.below (by first | ((repeat (first | assumption | exact Below.refl _ _ | apply below_drew1 | apply below_alloc1)); done))) (GB.out.below (by first | ((repeat (first | assumption | exact Below.refl _ _ | apply below_drew1 | apply below_alloc1)); done)))).mono ?_); rintro e v8 ⟨he, hbn⟩; rw [EZ.out] at he; subst he; have hB8 : Below wc.heap.size wc v8 := Below.after (by first | ((repeat (first | assumption | exact Below.refl _ _ | apply below_drew1 | apply below_alloc1)); done)) hbn)
        | (go_at_call 37; go_split_ands; (with_reducible refine (Flat_calls dim _ HD.out).mono ?_); rintro e v9 ⟨vv, he, ho, hbn⟩; subst he; rw [EF.out, EZZ.out] at ho; obtain ⟨AZ, cZ, hv9, _, hR9⟩ := ho.shape; subst hv9; have KZ := Lib.hid hR9; have hs9 : Below v9.heap.size v9 v9 := Below.refl _ _; have hB9 : Below wc.heap.size wc v9 := Below.after (by first | ((repeat (first | assumption | exact Below.refl _ _ | apply below_drew1 | apply below_alloc1)); done)) hbn)
        | (go_at_call 38; go_split_ands; (with_reducible refine (refFlat_I dim fl _ HFL.out hfl).mono ?_); rintro e v10 ⟨vv, he, ho, hbn⟩; subst he; rw [EZZ.out] at ho; obtain ⟨AY, cY, hv10, _, hR10⟩ := ho.shape; subst hv10; have KY := Lib.hid hR10; have KZ2 := Lib.hid ((KZ.out.below (by first | ((repeat (first | assumption | exact Below.refl _ _ | apply below_drew1 | apply below_alloc1)); done))).below hbn); have hs10 : Below v10.heap.size v10 v10 := Below.refl _ _; have hB10 : Below wc.heap.size wc v10 := Below.after (by first | ((repeat (first | assumption | exact Below.refl _ _ | apply below_drew1 | apply below_alloc1)); done)) hbn)
        | (go_at_call 35; go_split_ands; (with_reducible refine (refpSame_calls AZ AY cZ cY Z Z 0 0 _ (KZ2.out.below (by first | ((repeat (first | assumption | exact Below.refl _ _ | apply below_drew1 | apply below_alloc1)); done))) (KY.out.below (by first | ((repeat (first | assumption | exact Below.refl _ _ | apply below_drew1 | apply below_alloc1)); done)))).mono ?_); rintro e v11 ⟨he, hbn⟩; replace he : e = .returned (.bool true) := he.trans (by simp); subst he; have hB11 : Below wc.heap.size wc v11 := Below.after (by first | ((repeat (first | assumption | exact Below.refl _ _ | apply below_drew1 | apply below_alloc1)); done)) hbn)
      )
    go_wp2_with fail
    go_ret
    have hz := kc.size
    exact ⟨by simp, kc.trans ((show Below wc.heap.size wc _ from (by first | ((repeat (first | assumption | exact Below.refl _ _ | apply below_drew1 | apply below_alloc1)); done))).mono hz)⟩
end Go.Proofs.Ytgjcajffkhjlbaa
