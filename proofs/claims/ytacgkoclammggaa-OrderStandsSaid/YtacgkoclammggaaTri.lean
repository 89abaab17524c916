
/-
  Rows of elements of three whole numbers: words and laws. No condition: plain definitions and lemmas.
-/
import Derived.Test.YtacgkoclammggaaTwo
import Derived.Test.YtacgkoclammggaaHeapMath
namespace Go.Proofs.Ytacgkoclammggaa
open Go.RowKit
set_option linter.unusedVariables false
set_option maxRecDepth 100000
set_option linter.unusedSimpArgs false

section
variable {α : Type} {f : α → List Value} {q : Nat}
theorem flatMap_set (hq : ∀ x, (f x).length = q) : ∀ (xs : List α) (j i : Nat) (x y : α) (u : Value), xs[j]? = some x → i < q → f y = (f x).set i u → (xs.set j y).flatMap f = (xs.flatMap f).set (j * q + i) u
  | [], j, i, x, y, u, h, _, _ => by simp at h
  | z :: xs, 0, i, x, y, u, h, hi, hy => by
    simp at h
    subst h
    rw [List.set_cons_zero, List.flatMap_cons, List.flatMap_cons, hy, Nat.zero_mul, Nat.zero_add, List.set_append_left _ _ (by rw [hq]; exact hi)]
  | z :: xs, j + 1, i, x, y, u, h, hi, hy => by
    have ih := flatMap_set hq xs j i x y u (by simpa using h) hi hy
    rw [List.set_cons_succ, List.flatMap_cons, List.flatMap_cons, ih, List.set_append_right _ _ (by rw [hq, Nat.succ_mul]; omega), hq]
    congr 2
    rw [Nat.succ_mul]; omega
theorem OwnF.storeI {w : World} {base : Nat} {e : TypeId} {g n c : Nat} {xs : List α} (hq : ∀ x, (f x).length = q) (h : OwnF w base e q f (.slice (some ⟨g, 0, none⟩) n c) xs) (j i : Nat) {x y : α} {u : Value} (hx : xs[j]? = some x) (hi : i < q) (hy : f y = (f x).set i u) :
    OwnF (w.setCell ⟨g, j * q + i, none⟩ u) base e q f (.slice (some ⟨g, 0, none⟩) n c) (xs.set j y) := by
  obtain ⟨A1, c1, he, _⟩ := h.shape
  injection he with e1 e2 e3
  subst e2 e3
  have h1 := (World.ownsRow.stored h (j * q + i) u).1
  unfold OwnF
  rw [flatMap_set hq xs j i x y u hx hi hy, List.length_set]
  exact h1
theorem OwnF.pop {w : World} {base : Nat} {e : TypeId} {A : Option Addr} {n c : Nat} {xs : List α} {x : α} (hq : ∀ x, (f x).length = q) (h : OwnF w base e q f (.slice A (n + 1) c) (xs ++ [x])) : OwnF w base e q f (.slice A n c) xs := by
  obtain ⟨A1, c1, he, _⟩ := h.shape
  injection he with e1 e2 e3
  have hn : xs.length = n := by simp at e2; omega
  subst hn
  refine ⟨cellsF_length hq xs, ?_⟩
  rcases h.2 with ⟨_, hh⟩ | ⟨g, cap, cur, h1, hb, hg, hc, hm, hs, ht⟩
  · simp at hh
  · injection h1 with h1 h2 h3
    subst h1; subst h3
    refine .inr ⟨g, c, cur, rfl, hb, hg, by simp at hc; omega, hm, hs, ?_⟩
    have h5 := congrArg (List.take (xs.length * q)) ht
    rw [List.take_take, List.flatMap_append] at h5
    rw [show min (xs.length * q) ((xs ++ [x]).length * q) = xs.length * q by rw [List.length_append, List.length_singleton, Nat.succ_mul]; omega] at h5
    rw [h5, List.take_append_of_le_length (by rw [cellsF_length hq]; exact Nat.le_refl _), List.take_of_length_le (by rw [cellsF_length hq]; exact Nat.le_refl _)]
end


def tri (p : Int × Int × Int) : List Value := [.int .i64 p.1, .int .i64 p.2.1, .int .i64 p.2.2]
theorem tri_q (p : Int × Int × Int) : (tri p).length = 3 := rfl
theorem tri_one (p : Int × Int × Int) : ∀ u ∈ tri p, u.oneCell' = true := by
  intro u hu
  simp [tri] at hu
  rcases hu with rfl | rfl | rfl <;> rfl
theorem OwnF.store3 {w : World} {base : Nat} {e : TypeId} {g n c : Nat} {xs : List (Int × Int × Int)} (h : OwnF w base e 3 tri (.slice (some ⟨g, 0, none⟩) n c) xs) (j : Nat) (hj : j < n) (y : Int × Int × Int) :
    OwnF (((w.setCell ⟨g, j * 3, none⟩ (.int .i64 y.1)).setCell ⟨g, j * 3 + 1, none⟩ (.int .i64 y.2.1)).setCell ⟨g, j * 3 + 2, none⟩ (.int .i64 y.2.2)) base e 3 tri (.slice (some ⟨g, 0, none⟩) n c) (xs.set j y) := by
  obtain ⟨A1, c1, he, _⟩ := h.shape
  injection he with e1 e2 e3
  subst e2 e3
  have hx : xs[j]? = some xs[j] := List.getElem?_eq_getElem hj
  have h1 := OwnF.storeI tri_q h j 0 (y := (y.1, xs[j].2.1, xs[j].2.2)) (u := .int .i64 y.1) hx (by omega) rfl
  have h2 := OwnF.storeI tri_q h1 j 1 (x := (y.1, xs[j].2.1, xs[j].2.2)) (y := (y.1, y.2.1, xs[j].2.2)) (u := .int .i64 y.2.1) (by simp [hj]) (by omega) rfl
  have h3 := OwnF.storeI tri_q h2 j 2 (x := (y.1, y.2.1, xs[j].2.2)) (y := y) (u := .int .i64 y.2.2) (by simp [hj]) (by omega) rfl
  simp only [List.set_set, Nat.add_zero] at h3
  exact h3
/-- Neither the heap's block nor its row's. -/
def Ns (v : Value) (b k : Nat) : Prop := ¬ (k = b ∨ OwnB v k)
theorem only_drew_self (S : Nat → Prop) (w : World) : Only S w w.drew := Only.of_below (Below.refl _ _).drew
end Go.Proofs.Ytacgkoclammggaa
