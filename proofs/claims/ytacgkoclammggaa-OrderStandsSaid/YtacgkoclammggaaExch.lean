
/-
  Two elements of a row of the call's own are exchanged: where they lie, and what the row reads as then. Condition: each element lies as two whole numbers.
-/
import Derived.Test.YtacgkoclammggaaTwo
namespace Go.Proofs.Ytacgkoclammggaa
open Go.RowKit
set_option linter.unusedVariables false
set_option maxRecDepth 100000
section
variable {α : Type} {X Y Z : List α} {u v : α}
theorem ex_at1 : (X ++ u :: (Y ++ v :: Z))[X.length]? = some u := by simp
theorem ex_at2 : (X ++ u :: (Y ++ v :: Z))[X.length + 1 + Y.length]? = some v := by
  rw [List.getElem?_append_right (by omega), show X.length + 1 + Y.length - X.length = Y.length + 1 by omega, List.getElem?_cons_succ, List.getElem?_append_right (by omega), Nat.sub_self]
  rfl
theorem ex_setA (x : α) : (X ++ u :: (Y ++ v :: Z)).set X.length x = X ++ x :: (Y ++ v :: Z) := by
  rw [List.set_append_right _ _ (by omega), Nat.sub_self]
  rfl
theorem ex_setB (x : α) : (X ++ u :: (Y ++ v :: Z)).set (X.length + 1 + Y.length) x = X ++ u :: (Y ++ x :: Z) := by
  rw [List.set_append_right _ _ (by omega), show X.length + 1 + Y.length - X.length = Y.length + 1 by omega, List.set_cons_succ, List.set_append_right _ _ (by omega), Nat.sub_self]
  rfl
end
theorem only_sets {w : World} {T : Nat → Prop} {g : Nat} (hT : T g) (i0 i1 i2 i3 : Nat) (a b c d : Value) : Only T w ((((w.setCell ⟨g, i0, none⟩ a).setCell ⟨g, i1, none⟩ b).setCell ⟨g, i2, none⟩ c).setCell ⟨g, i3, none⟩ d) := by
  have hs := fun (W : World) (q : Nat) (u : Value) => (only_set W g q u).mono (T := T) fun k _ h => by rw [h]; exact hT
  exact (((hs w i0 a).trans (hs _ i1 b)).trans (hs _ i2 c)).trans (hs _ i3 d)
theorem OwnF.exch {f : Int × Int → List Value} (hf : f = fun p => [.int .i64 p.1, .int .i64 p.2]) {w : World} {base : Nat} {e : TypeId} {A : Option Addr} {n c i j : Nat} {X Y Z : List (Int × Int)} {u0 u1 v0 v1 : Int}
    (h : OwnF w base e 2 f (.slice A n c) (X ++ (u0, u1) :: (Y ++ (v0, v1) :: Z))) (hi : X.length = i) (hj : i + 1 + Y.length = j) :
    ∃ g, A = some ⟨g, 0, none⟩ ∧ base ≤ g ∧ i < n ∧ j < n ∧ w.cell? ⟨g, i * 2, none⟩ = some (.int .i64 u0) ∧ w.cell? ⟨g, i * 2 + 1, none⟩ = some (.int .i64 u1) ∧ w.cell? ⟨g, j * 2, none⟩ = some (.int .i64 v0) ∧ w.cell? ⟨g, j * 2 + 1, none⟩ = some (.int .i64 v1) ∧ (∀ k, w.frozen? ⟨g, k, none⟩ = false) ∧
      (OwnF ((((w.setCell ⟨g, i * 2, none⟩ (.int .i64 v0)).setCell ⟨g, i * 2 + 1, none⟩ (.int .i64 v1)).setCell ⟨g, j * 2, none⟩ (.int .i64 u0)).setCell ⟨g, j * 2 + 1, none⟩ (.int .i64 u1)) base e 2 f (.slice A n c) (X ++ (v0, v1) :: (Y ++ (u0, u1) :: Z)) ∧ Only (OwnB (.slice A n c)) w ((((w.setCell ⟨g, i * 2, none⟩ (.int .i64 v0)).setCell ⟨g, i * 2 + 1, none⟩ (.int .i64 v1)).setCell ⟨g, j * 2, none⟩ (.int .i64 u0)).setCell ⟨g, j * 2 + 1, none⟩ (.int .i64 u1))) ∧
      (OwnF ((((w.setCell ⟨g, j * 2, none⟩ (.int .i64 u0)).setCell ⟨g, j * 2 + 1, none⟩ (.int .i64 u1)).setCell ⟨g, i * 2, none⟩ (.int .i64 v0)).setCell ⟨g, i * 2 + 1, none⟩ (.int .i64 v1)) base e 2 f (.slice A n c) (X ++ (v0, v1) :: (Y ++ (u0, u1) :: Z)) ∧ Only (OwnB (.slice A n c)) w ((((w.setCell ⟨g, j * 2, none⟩ (.int .i64 u0)).setCell ⟨g, j * 2 + 1, none⟩ (.int .i64 u1)).setCell ⟨g, i * 2, none⟩ (.int .i64 v0)).setCell ⟨g, i * 2 + 1, none⟩ (.int .i64 v1))) := by
  subst hi hj
  have hq : ∀ x, (f x).length = 2 := fun x => by rw [hf]; rfl
  obtain ⟨A1, c1, he, _⟩ := h.shape
  injection he with e1 e2 e3
  have hn : n = X.length + (Y.length + Z.length + 1) + 1 := by rw [e2]; simp; omega
  have hin : X.length < n := by omega
  have hjn : X.length + 1 + Y.length < n := by omega
  obtain ⟨g, x, rfl, hb, _, hx, hcx, hfz, hob⟩ := h.at_ hq X.length hin (by omega)
  obtain ⟨g', y, hg', _, _, hy, hcy, _, _⟩ := h.at_ hq (X.length + 1 + Y.length) hjn (by omega)
  injection hg' with hg'
  injection hg' with hg'
  subst hg'
  rw [ex_at1] at hx
  injection hx with hx
  subst hx
  rw [ex_at2] at hy
  injection hy with hy
  subst hy
  have hfu : ∀ p, f p = [.int .i64 p.1, .int .i64 p.2] := fun p => by rw [hf]
  refine ⟨g, rfl, hb, hin, hjn, ?_, ?_, ?_, ?_, hfz, ⟨?_, only_sets hob _ _ _ _ _ _ _ _⟩, ⟨?_, only_sets hob _ _ _ _ _ _ _ _⟩⟩
  · simpa [hfu] using hcx 0 (by omega)
  · simpa [hfu] using hcx 1 (by omega)
  · simpa [hfu] using hcy 0 (by omega)
  · simpa [hfu] using hcy 1 (by omega)
  · have h1 := h.store2 hq X.length hin (y := (v0, v1)) (hfu _)
    have h2 := h1.store2 hq (X.length + 1 + Y.length) hjn (y := (u0, u1)) (hfu _)
    rwa [ex_setA, ex_setB] at h2
  · have h1 := h.store2 hq (X.length + 1 + Y.length) hjn (y := (u0, u1)) (hfu _)
    have h2 := h1.store2 hq X.length hin (y := (v0, v1)) (hfu _)
    rwa [ex_setB, ex_setA] at h2
/-- One element: where it lies. -/
theorem OwnF.one {f : Int × Int → List Value} (hf : f = fun p => [.int .i64 p.1, .int .i64 p.2]) {w : World} {base : Nat} {e : TypeId} {A : Option Addr} {n c i : Nat} {L : List (Int × Int)} {u0 u1 : Int}
    (h : OwnF w base e 2 f (.slice A n c) L) (hi : L[i]? = some (u0, u1)) :
    ∃ g, A = some ⟨g, 0, none⟩ ∧ base ≤ g ∧ i < n ∧ w.cell? ⟨g, i * 2, none⟩ = some (.int .i64 u0) ∧ w.cell? ⟨g, i * 2 + 1, none⟩ = some (.int .i64 u1) := by
  have hq : ∀ x, (f x).length = 2 := fun x => by rw [hf]; rfl
  obtain ⟨A1, c1, he, _⟩ := h.shape
  injection he with e1 e2 e3
  have hin : i < n := by rw [e2]; exact (List.getElem?_eq_some_iff.1 hi).1
  obtain ⟨g, x, rfl, hb, _, hx, hcx, hfz, hob⟩ := h.at_ hq i hin (by omega)
  rw [hi] at hx
  injection hx with hx
  subst hx
  have hfu : ∀ p, f p = [.int .i64 p.1, .int .i64 p.2] := fun p => by rw [hf]
  exact ⟨g, rfl, hb, hin, by simpa [hfu] using hcx 0 (by omega), by simpa [hfu] using hcx 1 (by omega)⟩
theorem OwnF.len {f : Int × Int → List Value} {w : World} {base : Nat} {e : TypeId} {q : Nat} {A : Option Addr} {n c : Nat} {L : List (Int × Int)} (h : OwnF w base e q f (.slice A n c) L) : L.length = n := by
  obtain ⟨A1, c1, he, _⟩ := h.shape
  injection he with e1 e2 e3
  exact e2.symm
/-! ### two pieces of one length change places -/
def SwL (P U M V S : List (Int × Int)) (i : Nat) : List (Int × Int) := P ++ (V.take i ++ (U.drop i ++ (M ++ (U.take i ++ (V.drop i ++ S)))))
theorem SwL.step {P U M V S : List (Int × Int)} {i m : Nat} (hu : U.length = m) (hv : V.length = m) (hi : i < m) :
    ∃ X Y Z u v, SwL P U M V S i = X ++ u :: (Y ++ v :: Z) ∧ SwL P U M V S (i + 1) = X ++ v :: (Y ++ u :: Z) ∧ X.length = P.length + i ∧ P.length + i + 1 + Y.length = P.length + m + M.length + i := by
  have h1 : i < U.length := by omega
  have h2 : i < V.length := by omega
  have e1 := List.drop_eq_getElem_cons h1
  have e2 := List.drop_eq_getElem_cons h2
  have e3 : U.take (i + 1) = U.take i ++ [U[i]] := by rw [List.take_add_one, List.getElem?_eq_getElem h1]; rfl
  have e4 : V.take (i + 1) = V.take i ++ [V[i]] := by rw [List.take_add_one, List.getElem?_eq_getElem h2]; rfl
  refine ⟨P ++ V.take i, U.drop (i + 1) ++ (M ++ U.take i), V.drop (i + 1) ++ S, U[i], V[i], ?_, ?_, ?_, ?_⟩
  · simp only [SwL, e1, e2, List.append_assoc, List.cons_append]
  · simp only [SwL, e3, e4, List.append_assoc, List.cons_append, List.nil_append]
  · simp; omega
  · simp; omega
theorem SwL.zero (P U M V S : List (Int × Int)) : SwL P U M V S 0 = P ++ (U ++ (M ++ (V ++ S))) := by simp [SwL]
theorem SwL.all {P U M V S : List (Int × Int)} {m : Nat} (hu : U.length = m) (hv : V.length = m) : SwL P U M V S m = P ++ (V ++ (M ++ (U ++ S))) := by
  unfold SwL
  rw [List.take_of_length_le (by omega), List.take_of_length_le (by omega), List.drop_of_length_le (by omega), List.drop_of_length_le (by omega)]
  simp
end Go.Proofs.Ytacgkoclammggaa
