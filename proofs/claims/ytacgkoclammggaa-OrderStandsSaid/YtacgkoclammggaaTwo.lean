
/-
  A row of the call's own whose elements are structs of q whole numbers: what it reads as, how a place of it is stored, and what append makes of it. Condition: each element lies as q cells.
-/
import Derived.Test.YtacgkoclammggaaLib
namespace Go.Proofs.Ytacgkoclammggaa
open Go.RowKit
set_option linter.unusedVariables false
set_option maxRecDepth 100000

section
variable {α : Type} {f : α → List Value} {q : Nat}
theorem cellsF_length (hq : ∀ x, (f x).length = q) (xs : List α) : (xs.flatMap f).length = xs.length * q := by
  induction xs with
  | nil => simp
  | cons x xs ih => rw [List.flatMap_cons, List.length_append, ih, hq, List.length_cons, Nat.succ_mul]; omega
theorem cellsF_get (hq : ∀ x, (f x).length = q) : ∀ (xs : List α) (j i : Nat) (x : α), xs[j]? = some x → i < q → (xs.flatMap f)[j * q + i]? = (f x)[i]?
  | [], j, i, x, h, _ => by simp at h
  | y :: ys, 0, i, x, h, hi => by
    have : y = x := by simpa using h
    subst this
    rw [List.flatMap_cons, Nat.zero_mul, Nat.zero_add, List.getElem?_append_left (by rw [hq]; exact hi)]
  | y :: ys, j + 1, i, x, h, hi => by
    rw [List.flatMap_cons, List.getElem?_append_right (by rw [hq, Nat.succ_mul]; omega), hq, show (j + 1) * q + i - q = j * q + i by rw [Nat.succ_mul]; omega]
    exact cellsF_get hq ys j i x (by simpa using h) hi
theorem cellsF_one (h1 : ∀ x, ∀ u ∈ f x, u.oneCell' = true) (xs : List α) : ∀ u ∈ xs.flatMap f, u.oneCell' = true := fun u hu => by
  obtain ⟨x, _, h⟩ := List.mem_flatMap.1 hu
  exact h1 x u h
theorem cellsF_set2 {a b : Value} {y : α} (hy : f y = [a, b]) (hq : ∀ x, (f x).length = 2) : ∀ (xs : List α) (j : Nat), j < xs.length → (xs.set j y).flatMap f = ((xs.flatMap f).set (j * 2) a).set (j * 2 + 1) b
  | [], j, h => by simp at h
  | x :: xs, 0, h => by
    obtain ⟨u, v, hf⟩ : ∃ u v, f x = [u, v] := by
      have := hq x
      match hfx : f x, this with
      | [u, v], _ => exact ⟨u, v, rfl⟩
    simp [hy, hf]
  | x :: xs, j + 1, h => by
    have ih := cellsF_set2 hy hq xs j (by simpa using h)
    obtain ⟨u, v, hf⟩ : ∃ u v, f x = [u, v] := by
      have := hq x
      match hfx : f x, this with
      | [u, v], _ => exact ⟨u, v, rfl⟩
    rw [List.set_cons_succ, List.flatMap_cons, List.flatMap_cons, hf, ih, show (j + 1) * 2 = j * 2 + 1 + 1 by omega]
    simp
/-- A row of the call's own, of elements of q cells. -/
def OwnF (w : World) (base : Nat) (e : TypeId) (q : Nat) (f : α → List Value) (v : Value) (xs : List α) : Prop := w.ownsRow base e q v xs.length (xs.flatMap f)
theorem OwnF.nil (w : World) (base : Nat) (e : TypeId) : OwnF w base e q f (.slice none 0 0) [] := ⟨by simp, .inl ⟨rfl, rfl⟩⟩
theorem OwnF.shape {w : World} {base : Nat} {e : TypeId} {v : Value} {xs : List α} (h : OwnF w base e q f v xs) : ∃ A c, v = .slice A xs.length c ∧ xs.length ≤ c := own_shape h
theorem OwnF.keep {w w1 : World} {base : Nat} {e : TypeId} {v : Value} {xs : List α} (h : OwnF w base e q f v xs) (hb : Below w.heap.size w w1) : OwnF w1 base e q f v xs :=
  World.ownsRow.kept h (grown_of_below hb none) (by cases v.ownBlock <;> simp)
theorem OwnF.low {w : World} {base base' : Nat} {e : TypeId} {v : Value} {xs : List α} (h : OwnF w base e q f v xs) (hb : base' ≤ base) : OwnF w base' e q f v xs := by
  refine ⟨h.1, ?_⟩
  rcases h.2 with h | ⟨g, cap, cur, h1, h2, h3⟩
  · exact .inl h
  · exact .inr ⟨g, cap, cur, h1, by omega, h3⟩
theorem OwnF.only {w w1 : World} {S : Nat → Prop} {base : Nat} {e : TypeId} {v : Value} {xs : List α} (h : OwnF w base e q f v xs) (ho : Only S w w1) (hs : ∀ b, v.ownBlock = some b → ¬ S b) : OwnF w1 base e q f v xs := row_only h ho hs
theorem OwnF.lt {w : World} {base : Nat} {e : TypeId} {v : Value} {xs : List α} (h : OwnF w base e q f v xs) (b : Nat) (hb : v.ownBlock = some b) : base ≤ b ∧ b < w.heap.size := World.ownsRow.lt h b hb
theorem OwnF.alloc1 {w : World} {base : Nat} {e : TypeId} {v : Value} {xs : List α} (h : OwnF w base e q f v xs) (o : Obj) : OwnF (w.alloc o) base e q f v xs := own_alloc1 h o
theorem OwnF.drew1 {w : World} {base : Nat} {e : TypeId} {v : Value} {xs : List α} (h : OwnF w base e q f v xs) : OwnF w.drew base e q f v xs := own_drew1 h
theorem OwnF.drewN {w : World} {base : Nat} {e : TypeId} {v : Value} {xs : List α} (h : OwnF w base e q f v xs) (n : Nat) : OwnF (w.drewN n) base e q f v xs := h.keep (below_drewN_self w n)
/-- Where element j lies, and what its cells are. -/
theorem OwnF.at_ {w : World} {base : Nat} {e : TypeId} {A : Option Addr} {n c : Nat} {xs : List α} (hq : ∀ x, (f x).length = q) (h : OwnF w base e q f (.slice A n c) xs) (j : Nat) (hj : j < n) (h0 : 0 < q) :
    ∃ g x, A = some ⟨g, 0, none⟩ ∧ base ≤ g ∧ g < w.heap.size ∧ xs[j]? = some x ∧ (∀ i, i < q → w.cell? ⟨g, j * q + i, none⟩ = (f x)[i]?) ∧ (∀ i, w.frozen? ⟨g, i, none⟩ = false) ∧ (Value.slice A n c).ownBlock = some g := by
  obtain ⟨A1, c1, he, _⟩ := h.shape
  injection he with e1 e2 e3
  subst e1 e2 e3
  have hlt := h.lt
  rcases h.2 with ⟨_, hn⟩ | ⟨g, cap, cur, h1, hb, hg, hc, _, hs, ht⟩
  · omega
  · injection h1 with h1 h2 h3
    subst h1
    have hx : xs[j]? = some (xs[j]'hj) := by simp [hj]
    refine ⟨g, xs[j]'hj, rfl, hb, (hlt g rfl).2, hx, fun i hi => ?_, fun i => by simp [World.frozen?, hg], rfl⟩
    have hle : j * q + i < xs.length * q := by
      have : (j + 1) * q ≤ xs.length * q := Nat.mul_le_mul_right _ hj
      rw [Nat.succ_mul] at this
      omega
    rw [← cellsF_get hq xs j i _ hx hi, ← ht]
    simp [World.cell?, hg, hle]
theorem OwnF.store2 {w : World} {base : Nat} {e : TypeId} {g n c : Nat} {xs : List α} (hq : ∀ x, (f x).length = 2) (h : OwnF w base e 2 f (.slice (some ⟨g, 0, none⟩) n c) xs) (j : Nat) (hj : j < n) {y : α} {a b : Value} (hy : f y = [a, b]) :
    OwnF ((w.setCell ⟨g, j * 2, none⟩ a).setCell ⟨g, j * 2 + 1, none⟩ b) base e 2 f (.slice (some ⟨g, 0, none⟩) n c) (xs.set j y) := by
  obtain ⟨A1, c1, he, _⟩ := h.shape
  injection he with e1 e2 e3
  subst e2 e3
  have h1 := (World.ownsRow.stored h (j * 2) a).1
  have h2 := (World.ownsRow.stored h1 (j * 2 + 1) b).1
  unfold OwnF
  rw [cellsF_set2 hy hq xs j hj, List.length_set]
  exact h2
theorem wpList_appF {P : Program} (w : World) {ops : Array Oper} {rest : List Oper} {o : Oper} {a : Act} {Q : Exit → Act → World → Prop} (hgd : o.guard = none) (s x : Operand) (t e : TypeId)
    (ho : o.op = .call { callee := .builtin .append, args := #[s, x], argTypes := #[t, t] })
    (z : Value) (bytes : Nat) (ht : P.underlying t = some (.slice e)) (hinfo : (P.info? e).map (fun i => (i.zero, i.size, i.bytes)) = some (some z, q, bytes)) (hz : z.cells.size = q) (h0 : 0 < q) (hb0 : 0 < bytes) (hq : ∀ x, (f x).length = q) (h1 : ∀ x, ∀ u ∈ f x, u.oneCell' = true)
    (base : Nat) (v : Value) (xs : List α) (hs : a.eval s = v) (A : Option Addr) (c : Nat) (ys : List α) (hx : a.eval x = .slice A ys.length c) (hown : OwnF w base e q f v xs) (w0 : World) (HB : Below base w0 w) (hbase : base ≤ w.heap.size)
    (hnews : RdC w A (ys.flatMap f)) (hbytes : (xs.length + ys.length) * bytes ≤ 140737488355328)
    (h : ∀ v' w', OwnF w' base e q f v' (xs ++ ys) → Only (OwnB v) w w' → Below base w0 w' → (v'.ownBlock = v.ownBlock ∨ v'.ownBlock = some w.heap.size) → (v' = .slice none 0 0 ↔ v = .slice none 0 0 ∧ ys.length = 0) → wpList P ops Q rest (a.put o.dst v') w') :
    wpList P ops Q (o :: rest) a w :=
  wpList_app w hgd s x t e ho z q bytes ht hinfo hz h0 hb0 base v xs.length (xs.flatMap f) hs A ys.length c hx hown w0 HB hbase (ys.flatMap f) (cellsF_length hq ys) hnews (cellsF_one h1 ys) hbytes
    fun v' w' h1 h2 h3 h4 h5 => h v' w' (by unfold OwnF; rw [List.flatMap_append, List.length_append]; exact h1) h2 h3 h4 h5
theorem step_appF {P : Program} (w : World) {ops : Array Oper} {o : Oper} {a : Act} {K : Act → World → Prop} {Q : Exit → Act → World → Prop} {E : Prop} (hgd : o.guard = none) (s x : Operand) (t e : TypeId)
    (ho : o.op = .call { callee := .builtin .append, args := #[s, x], argTypes := #[t, t] })
    (z : Value) (bytes : Nat) (ht : P.underlying t = some (.slice e)) (hinfo : (P.info? e).map (fun i => (i.zero, i.size, i.bytes)) = some (some z, q, bytes)) (hz : z.cells.size = q) (h0 : 0 < q) (hb0 : 0 < bytes) (hq : ∀ x, (f x).length = q) (h1 : ∀ x, ∀ u ∈ f x, u.oneCell' = true)
    (base : Nat) (v : Value) (xs : List α) (hs : a.eval s = v) (A : Option Addr) (c : Nat) (ys : List α) (hx : a.eval x = .slice A ys.length c) (hown : OwnF w base e q f v xs) (w0 : World) (HB : Below base w0 w) (hbase : base ≤ w.heap.size)
    (hnews : RdC w A (ys.flatMap f)) (hbytes : (xs.length + ys.length) * bytes ≤ 140737488355328)
    (h : ∀ v' w', OwnF w' base e q f v' (xs ++ ys) → Only (OwnB v) w w' → Below base w0 w' → (v'.ownBlock = v.ownBlock ∨ v'.ownBlock = some w.heap.size) → (v' = .slice none 0 0 ↔ v = .slice none 0 0 ∧ ys.length = 0) → K (a.put o.dst v') w') :
    if Region.wanted o (yielded ops a.tmps) = true then Oper.wp P o a w K Q else E :=
  step_app w hgd s x t e ho z q bytes ht hinfo hz h0 hb0 base v xs.length (xs.flatMap f) hs A ys.length c hx hown w0 HB hbase (ys.flatMap f) (cellsF_length hq ys) hnews (cellsF_one h1 ys) hbytes
    fun v' w' h1 h2 h3 h4 h5 => h v' w' (by unfold OwnF; rw [List.flatMap_append, List.length_append]; exact h1) h2 h3 h4 h5
end
end Go.Proofs.Ytacgkoclammggaa
