
/-
  Rows of nodes and of jobs that the call owns: words and laws. No condition: plain definitions and lemmas.
-/
import Derived.Test.YtohmcpblagcfeaaTwo
import Derived.Test.YtohmcpblagcfeaaGrowL
namespace Go.Proofs.Ytohmcpblagcfeaa
open Go.RowKit
set_option linter.unusedVariables false
set_option maxRecDepth 100000
set_option linter.unusedSimpArgs false

/-- A slice of ints from block base on, in none of the blocks X. -/
def Lies (w : World) (base : Nat) (k : IntKind) (A : Option Addr) (c : Nat) (xs : List Int) (X : Nat → Prop) : Prop :=
  xs.length ≤ c ∧ Rd w k A xs ∧ ∀ ad, 0 < xs.length → A = some ad → base ≤ ad.block ∧ ¬ X ad.block
theorem Lies.step {w w1 : World} {S X X1 : Nat → Prop} {base : Nat} {k : IntKind} {A : Option Addr} {c : Nat} {xs : List Int} (h : Lies w base k A c xs X) (ho : Only S w w1) (hs : ∀ b, base ≤ b → b < w.heap.size → S b → X b) (hx : ∀ b, X1 b → X b ∨ w.heap.size ≤ b) : Lies w1 base k A c xs X1 := by
  obtain ⟨h1, h2, h3⟩ := h
  refine ⟨h1, h2.onlyB ho fun ad hl e hS => (h3 ad hl e).2 (hs _ (h3 ad hl e).1 (Rd.blk_lt h2 ad hl e) hS), fun ad hl e => ⟨(h3 ad hl e).1, fun hX => ?_⟩⟩
  rcases hx _ hX with h4 | h4
  · exact (h3 ad hl e).2 h4
  · have := Rd.blk_lt h2 ad hl e; omega
theorem Lies.own {w : World} {b0 base : Nat} {e : TypeId} {k : IntKind} {A : Option Addr} {c : Nat} {xs : List Int} {X : Nat → Prop} (h : Own w b0 e k (.slice A xs.length c) xs) (hb : base ≤ b0) (hX : ∀ b, X b → b < b0) : Lies w base k A c xs X := by
  obtain ⟨A1, c1, he, hc, hr⟩ := h.shape
  injection he with e1 e2 e3
  subst e1; subst e3
  refine ⟨hc, hr, fun ad hl e => ?_⟩
  obtain ⟨g, e2, hg, _⟩ := Own.at_ h 0 hl
  rw [e] at e2
  injection e2 with e2
  subst e2
  exact ⟨Nat.le_trans hb hg, fun hx => by have := hX _ hx; simp at this; omega⟩
theorem Lies.nil (w : World) (base : Nat) (k : IntKind) (X : Nat → Prop) : Lies w base k none 0 [] X := ⟨Nat.le_refl _, Rd.nil _ _ _, fun ad h => by simp at h⟩

section
variable {α : Type} {f : α → List Value} {q : Nat}
theorem flatMap_set (hq : ∀ x, (f x).length = q) : ∀ (xs : List α) (j i : Nat) (x y : α) (u : Value), xs[j]? = some x → i < q → f y = (f x).set i u → (xs.set j y).flatMap f = (xs.flatMap f).set (j * q + i) u
  | [], j, i, x, y, u, h, _, _ => by simp at h
  | z :: xs, 0, i, x, y, u, h, hi, hy => by
    simp at h
    subst h
    rw [List.set_cons_zero, List.flatMap_cons, List.flatMap_cons, hy, Nat.zero_mul, Nat.zero_add, List.set_append_left _ _ (by rw [hq]; exact hi)]
  | z :: xs, j + 1, i, x, y, u, h, hi, hy => by
    have ih := flatMap_set hq xs j i x y u (by simpa using h) hi hy
    rw [List.set_cons_succ, List.flatMap_cons, List.flatMap_cons, ih, List.set_append_right _ _ (by rw [hq, Nat.succ_mul]; omega), hq]
    congr 2
    rw [Nat.succ_mul]; omega
theorem OwnF.storeI {w : World} {base : Nat} {e : TypeId} {g n c : Nat} {xs : List α} (hq : ∀ x, (f x).length = q) (h : OwnF w base e q f (.slice (some ⟨g, 0, none⟩) n c) xs) (j i : Nat) {x y : α} {u : Value} (hx : xs[j]? = some x) (hi : i < q) (hy : f y = (f x).set i u) :
    OwnF (w.setCell ⟨g, j * q + i, none⟩ u) base e q f (.slice (some ⟨g, 0, none⟩) n c) (xs.set j y) := by
  obtain ⟨A1, c1, he, _⟩ := h.shape
  injection he with e1 e2 e3
  subst e2 e3
  have h1 := (World.ownsRow.stored h (j * q + i) u).1
  unfold OwnF
  rw [flatMap_set hq xs j i x y u hx hi hy, List.length_set]
  exact h1
theorem OwnF.pop {w : World} {base : Nat} {e : TypeId} {A : Option Addr} {n c : Nat} {xs : List α} {x : α} (hq : ∀ x, (f x).length = q) (h : OwnF w base e q f (.slice A (n + 1) c) (xs ++ [x])) : OwnF w base e q f (.slice A n c) xs := by
  obtain ⟨A1, c1, he, _⟩ := h.shape
  injection he with e1 e2 e3
  have hn : xs.length = n := by simp at e2; omega
  subst hn
  refine ⟨cellsF_length hq xs, ?_⟩
  rcases h.2 with ⟨_, hh⟩ | ⟨g, cap, cur, h1, hb, hg, hc, hm, hs, ht⟩
  · simp at hh
  · injection h1 with h1 h2 h3
    subst h1; subst h3
    refine .inr ⟨g, c, cur, rfl, hb, hg, by simp at hc; omega, hm, hs, ?_⟩
    have h5 := congrArg (List.take (xs.length * q)) ht
    rw [List.take_take, List.flatMap_append] at h5
    rw [show min (xs.length * q) ((xs ++ [x]).length * q) = xs.length * q by rw [List.length_append, List.length_singleton, Nat.succ_mul]; omega] at h5
    rw [h5, List.take_append_of_le_length (by rw [cellsF_length hq]; exact Nat.le_refl _), List.take_of_length_le (by rw [cellsF_length hq]; exact Nat.le_refl _)]
end

structure NodeA where
  x : NodeV
  A : Option Addr
  c : Nat
  B : Option Addr
  d : Nat
def nodeF (a : NodeA) : List Value := [.bool a.x.leaf, .slice a.A a.x.ids.length a.c, .slice a.B a.x.ns.length a.d, .int .i64 a.x.off, .int .i64 a.x.left, .int .i64 a.x.right]
theorem nodeF_q (a : NodeA) : (nodeF a).length = 6 := rfl
theorem nodeF_one (a : NodeA) : ∀ u ∈ nodeF a, u.oneCell' = true := by intro u hu; simp [nodeF] at hu; rcases hu with rfl | rfl | rfl | rfl | rfl | rfl <;> rfl
/-- A row of nodes. -/
def OwnN (w : World) (base : Nat) (v : Value) (N : List NodeV) (X : Nat → Prop) : Prop :=
  ∃ al : List NodeA, al.map NodeA.x = N ∧ OwnF w base 73 6 nodeF v al ∧ ∀ a ∈ al, Lies w base .i64 a.A a.c a.x.ids X ∧ Lies w base .i32 a.B a.d a.x.ns X
theorem OwnN.nil (w : World) (base : Nat) (X : Nat → Prop) : OwnN w base (.slice none 0 0) [] X := ⟨[], rfl, OwnF.nil _ _ _, fun a h => by simp at h⟩
theorem OwnN.shape {w : World} {base : Nat} {v : Value} {N : List NodeV} {X : Nat → Prop} (h : OwnN w base v N X) : ∃ A c, v = .slice A N.length c ∧ N.length ≤ c := by
  obtain ⟨al, e, ho, _⟩ := h
  obtain ⟨A, c, h1, h2⟩ := ho.shape
  have : al.length = N.length := by rw [← e, List.length_map]
  rw [this] at h1 h2
  exact ⟨A, c, h1, h2⟩
theorem OwnN.lt {w : World} {base : Nat} {v : Value} {N : List NodeV} {X : Nat → Prop} (h : OwnN w base v N X) (b : Nat) (hb : v.ownBlock = some b) : base ≤ b ∧ b < w.heap.size := by
  obtain ⟨al, _, ho, _⟩ := h; exact ho.lt b hb
theorem OwnN.step {w w1 : World} {S X X1 : Nat → Prop} {base : Nat} {v : Value} {N : List NodeV} (h : OwnN w base v N X) (ho : Only S w w1) (hv : ∀ b, v.ownBlock = some b → ¬ S b) (hs : ∀ b, base ≤ b → b < w.heap.size → S b → X b) (hx : ∀ b, X1 b → X b ∨ w.heap.size ≤ b) : OwnN w1 base v N X1 := by
  obtain ⟨al, e, h1, h2⟩ := h
  exact ⟨al, e, h1.only ho hv, fun a ha => ⟨(h2 a ha).1.step ho hs hx, (h2 a ha).2.step ho hs hx⟩⟩
/-- What is read of a node. -/
theorem OwnN.at_ {w : World} {base : Nat} {A : Option Addr} {n c : Nat} {N : List NodeV} {X : Nat → Prop} (h : OwnN w base (.slice A n c) N X) (j : Nat) (hj : j < n) :
    ∃ g x B1 c1 B2 c2, A = some ⟨g, 0, none⟩ ∧ N[j]? = some x ∧ base ≤ g ∧ g < w.heap.size ∧ (∀ i, w.frozen? ⟨g, i, none⟩ = false) ∧
      w.cell? ⟨g, j * 6, none⟩ = some (.bool x.leaf) ∧ w.cell? ⟨g, j * 6 + 1, none⟩ = some (.slice B1 x.ids.length c1) ∧ w.cell? ⟨g, j * 6 + 2, none⟩ = some (.slice B2 x.ns.length c2) ∧
      w.cell? ⟨g, j * 6 + 3, none⟩ = some (.int .i64 x.off) ∧ w.cell? ⟨g, j * 6 + 4, none⟩ = some (.int .i64 x.left) ∧ w.cell? ⟨g, j * 6 + 5, none⟩ = some (.int .i64 x.right) ∧
      Lies w base .i64 B1 c1 x.ids X ∧ Lies w base .i32 B2 c2 x.ns X := by
  obtain ⟨al, e, h1, h2⟩ := h
  obtain ⟨g, a, e1, hb, hlt, hx, hcell, hfz, _⟩ := OwnF.at_ nodeF_q h1 j hj (by omega)
  refine ⟨g, a.x, a.A, a.c, a.B, a.d, e1, by rw [← e]; simp [hx], hb, hlt, hfz, ?_, ?_, ?_, ?_, ?_, ?_, (h2 a (List.mem_of_getElem? hx)).1, (h2 a (List.mem_of_getElem? hx)).2⟩
  · have h := hcell 0 (by omega); exact h
  · have h := hcell 1 (by omega); exact h
  · have h := hcell 2 (by omega); exact h
  · have h := hcell 3 (by omega); exact h
  · have h := hcell 4 (by omega); exact h
  · have h := hcell 5 (by omega); exact h
theorem OwnN.right {w : World} {base : Nat} {g n c : Nat} {N : List NodeV} {X : Nat → Prop} (h : OwnN w base (.slice (some ⟨g, 0, none⟩) n c) N X) (hX : X g) (u : Nat) (hu : u < n) (v : Int) :
    OwnN (w.setCell ⟨g, u * 6 + 5, none⟩ (.int .i64 v)) base (.slice (some ⟨g, 0, none⟩) n c) (setR N (some u) v) X := by
  obtain ⟨al, e, h1, h2⟩ := h
  obtain ⟨g', a, e1, hb, hlt, hx, hcell, hfz, _⟩ := OwnF.at_ nodeF_q h1 u hu (by omega)
  have hul : u < al.length := by
    rcases Nat.lt_or_ge u al.length with h | h
    · exact h
    · rw [List.getElem?_eq_none h] at hx; contradiction
  have hux : al[u] = a := by rw [List.getElem?_eq_getElem hul] at hx; injection hx
  refine ⟨al.set u { a with x := { a.x with right := v } }, ?_, OwnF.storeI nodeF_q h1 u 5 hx (by omega) rfl, fun a' ha' => ?_⟩
  · rw [← e]
    apply List.ext_getElem?
    intro i
    simp only [setR, List.getElem?_modify, List.getElem?_map, List.getElem?_set]
    by_cases hi : u = i
    · subst hi; simp [hul, hux]
    · simp [hi]
  · have key : Lies w base .i64 a'.A a'.c a'.x.ids X ∧ Lies w base .i32 a'.B a'.d a'.x.ns X := by
      rcases List.mem_or_eq_of_mem_set ha' with h3 | h3
      · exact h2 a' h3
      · subst h3; exact h2 a (List.mem_of_getElem? hx)
    exact ⟨key.1.step (only_set w g _ _) (fun b _ _ e => by subst e; exact hX) (fun b hb => .inl hb), key.2.step (only_set w g _ _) (fun b _ _ e => by subst e; exact hX) (fun b hb => .inl hb)⟩

structure JobA where
  x : JobV
  A : Option Addr
  c : Nat
def upI : Option Nat → Int
  | none => -1
  | some u => (u : Int)
def jobF (dm : Nat) (a : JobA) : List Value := [.slice a.A a.x.ids.length a.c, .int .i64 ((dm - a.x.f : Nat) : Int), .int .i64 (upI a.x.up)]
theorem jobF_q (dm : Nat) (a : JobA) : (jobF dm a).length = 3 := rfl
theorem jobF_one (dm : Nat) (a : JobA) : ∀ u ∈ jobF dm a, u.oneCell' = true := by intro u hu; simp [jobF] at hu; rcases hu with rfl | rfl | rfl <;> rfl
def OwnJ (w : World) (base : Nat) (dm : Nat) (v : Value) (J : List JobV) (X : Nat → Prop) : Prop :=
  ∃ al : List JobA, al.map JobA.x = J ∧ OwnF w base 114 3 (jobF dm) v al ∧ ∀ a ∈ al, Lies w base .i64 a.A a.c a.x.ids X
theorem OwnJ.shape {w : World} {base dm : Nat} {v : Value} {J : List JobV} {X : Nat → Prop} (h : OwnJ w base dm v J X) : ∃ A c, v = .slice A J.length c ∧ J.length ≤ c := by
  obtain ⟨al, e, ho, _⟩ := h
  obtain ⟨A, c, h1, h2⟩ := ho.shape
  have : al.length = J.length := by rw [← e, List.length_map]
  rw [this] at h1 h2
  exact ⟨A, c, h1, h2⟩
theorem OwnJ.lt {w : World} {base dm : Nat} {v : Value} {J : List JobV} {X : Nat → Prop} (h : OwnJ w base dm v J X) (b : Nat) (hb : v.ownBlock = some b) : base ≤ b ∧ b < w.heap.size := by
  obtain ⟨al, _, ho, _⟩ := h; exact ho.lt b hb
theorem OwnJ.step {w w1 : World} {S X X1 : Nat → Prop} {base dm : Nat} {v : Value} {J : List JobV} (h : OwnJ w base dm v J X) (ho : Only S w w1) (hv : ∀ b, v.ownBlock = some b → ¬ S b) (hs : ∀ b, base ≤ b → b < w.heap.size → S b → X b) (hx : ∀ b, X1 b → X b ∨ w.heap.size ≤ b) : OwnJ w1 base dm v J X1 := by
  obtain ⟨al, e, h1, h2⟩ := h
  exact ⟨al, e, h1.only ho hv, fun a ha => (h2 a ha).step ho hs hx⟩
theorem OwnJ.top {w : World} {base dm : Nat} {A : Option Addr} {n c : Nat} {J : List JobV} {j : JobV} {X : Nat → Prop} (h : OwnJ w base dm (.slice A (n + 1) c) (J ++ [j]) X) :
    ∃ g B c1, A = some ⟨g, 0, none⟩ ∧ n = J.length ∧ w.cell? ⟨g, n * 3, none⟩ = some (.slice B j.ids.length c1) ∧ w.cell? ⟨g, n * 3 + 1, none⟩ = some (.int .i64 ((dm - j.f : Nat) : Int)) ∧ w.cell? ⟨g, n * 3 + 2, none⟩ = some (.int .i64 (upI j.up)) ∧
      Lies w base .i64 B c1 j.ids X ∧ OwnJ w base dm (.slice A n c) J X := by
  obtain ⟨al, e, h1, h2⟩ := h
  rcases List.eq_nil_or_concat al with rfl | ⟨al0, a, rfl⟩
  · simp at e
  rw [List.concat_eq_append] at h1 h2 e
  rw [List.map_append, List.map_cons, List.map_nil] at e
  obtain ⟨e1, e2⟩ := List.append_inj' e rfl
  injection e2 with e2 _
  obtain ⟨A1, c1, he, _⟩ := h1.shape
  injection he with _ en _
  have hn : n = al0.length := by simp at en; omega
  have hJ : n = J.length := by rw [hn, ← e1, List.length_map]
  obtain ⟨g, a', ea, hb, hlt, hx, hcell, hfz, _⟩ := OwnF.at_ (jobF_q dm) h1 n (by omega) (by omega)
  have ha : a' = a := by
    subst hn
    simp at hx
    exact hx.symm
  subst ha
  subst e2
  refine ⟨g, a'.A, a'.c, ea, hJ, ?_, ?_, ?_, h2 a' (by simp), al0, e1, OwnF.pop (jobF_q dm) h1, fun b hb => h2 b (by simp [hb])⟩
  · have h := hcell 0 (by omega); exact h
  · have h := hcell 1 (by omega); exact h
  · have h := hcell 2 (by omega); exact h
end Go.Proofs.Ytohmcpblagcfeaa
