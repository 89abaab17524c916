
/-
  Trees, plain: the tree by definition (two trees below a split), and the same by a stack of jobs; how many nodes and draws. No program in sight.
-/
import Derived.Test.YtohmcpblagcfeaaWholeL
namespace Go.Proofs.Ytohmcpblagcfeaa
open Go.RowKit
set_option linter.unusedVariables false
set_option maxRecDepth 100000

structure NodeV where
  leaf : Bool
  ids : List Int
  ns : List Int
  off : Int
  left : Int
  right : Int
def leafN (ids : List Int) : NodeV := ⟨true, ids, [], 0, 0, 0⟩
def growF (rows : List (List Int)) (dim leaf : Nat) (s : Nat → Int) : Nat → List Int → Nat → Nat → List NodeV × Nat
  | 0, ids, _, k => ([leafN ids], k)
  | f + 1, ids, at_, k => if ids.length ≤ leaf then ([leafN ids], k) else
    (⟨false, [], (choose rows dim ids s k).ns, (choose rows dim ids s k).off, ((at_ + 1 : Nat) : Int), ((at_ + 1 + (growF rows dim leaf s f (choose rows dim ids s k).left (at_ + 1) (k + 2 * (choose rows dim ids s k).tries)).1.length : Nat) : Int)⟩ ::
      ((growF rows dim leaf s f (choose rows dim ids s k).left (at_ + 1) (k + 2 * (choose rows dim ids s k).tries)).1 ++
       (growF rows dim leaf s f (choose rows dim ids s k).right (at_ + 1 + (growF rows dim leaf s f (choose rows dim ids s k).left (at_ + 1) (k + 2 * (choose rows dim ids s k).tries)).1.length) (growF rows dim leaf s f (choose rows dim ids s k).left (at_ + 1) (k + 2 * (choose rows dim ids s k).tries)).2).1),
     (growF rows dim leaf s f (choose rows dim ids s k).right (at_ + 1 + (growF rows dim leaf s f (choose rows dim ids s k).left (at_ + 1) (k + 2 * (choose rows dim ids s k).tries)).1.length) (growF rows dim leaf s f (choose rows dim ids s k).left (at_ + 1) (k + 2 * (choose rows dim ids s k).tries)).2).2)
theorem growF_leaf {rows : List (List Int)} {dim leaf : Nat} {s : Nat → Int} {f : Nat} {ids : List Int} (at_ k : Nat) (h : ids.length ≤ leaf ∨ f = 0) : growF rows dim leaf s f ids at_ k = ([leafN ids], k) := by
  cases f with
  | zero => rfl
  | succ f =>
    unfold growF
    rw [if_pos (by omega)]
theorem growF_split {rows : List (List Int)} {dim leaf : Nat} {s : Nat → Int} {f : Nat} {ids : List Int} (at_ k : Nat) (h : leaf < ids.length) {C : SplitV} (hC : choose rows dim ids s k = C) {L R : List NodeV × Nat}
    (hL : growF rows dim leaf s f C.left (at_ + 1) (k + 2 * C.tries) = L) (hR : growF rows dim leaf s f C.right (at_ + 1 + L.1.length) L.2 = R) :
    growF rows dim leaf s (f + 1) ids at_ k = (⟨false, [], C.ns, C.off, ((at_ + 1 : Nat) : Int), ((at_ + 1 + L.1.length : Nat) : Int)⟩ :: (L.1 ++ R.1), R.2) := by
  subst hC; subst hL; subst hR
  rw [growF]
  rw [if_neg (by omega)]
/-- How many nodes, and draws. -/
theorem growF_size (rows : List (List Int)) (dim : Nat) {leaf : Nat} (s : Nat → Int) (hl : 1 ≤ leaf) : ∀ (f : Nat) (ids : List Int) (at_ k : Nat), 1 ≤ ids.length → 1 ≤ (growF rows dim leaf s f ids at_ k).1.length ∧ (growF rows dim leaf s f ids at_ k).1.length + 1 ≤ 2 * ids.length ∧ k ≤ (growF rows dim leaf s f ids at_ k).2 ∧ (growF rows dim leaf s f ids at_ k).2 + 8 ≤ k + 8 * ids.length := fun f => by
  induction f with
  | zero => intro ids at_ k h; simp [growF]; omega
  | succ f ih =>
    intro ids at_ k h
    rcases Nat.lt_or_ge leaf ids.length with hh | hh
    · obtain ⟨C, hC⟩ : ∃ C, choose rows dim ids s k = C := ⟨_, rfl⟩
      obtain ⟨L, hL⟩ : ∃ L, growF rows dim leaf s f C.left (at_ + 1) (k + 2 * C.tries) = L := ⟨_, rfl⟩
      obtain ⟨R, hR⟩ : ∃ R, growF rows dim leaf s f C.right (at_ + 1 + L.1.length) L.2 = R := ⟨_, rfl⟩
      have h1 := choose_len rows dim ids s k
      have h2 := choose_parts rows dim ids s k (by omega)
      have h3 := choose_tr rows dim ids s k
      rw [hC] at h1 h2 h3
      rw [growF_split at_ k hh hC hL hR]
      have i1 := ih C.left (at_ + 1) (k + 2 * C.tries) (by omega)
      have i2 := ih C.right (at_ + 1 + L.1.length) L.2 (by omega)
      rw [hL] at i1
      rw [hR] at i2
      simp only [List.length_cons, List.length_append]
      omega
    · rw [growF_leaf at_ k (.inl hh)]
      simp; omega
structure JobV where
  ids : List Int
  f : Nat
  up : Option Nat
def setR (N : List NodeV) (up : Option Nat) (v : Int) : List NodeV := match up with
  | none => N
  | some u => N.modify u fun x => { x with right := v }
theorem setR_length (N : List NodeV) (up : Option Nat) (v : Int) : (setR N up v).length = N.length := by
  cases up <;> simp [setR]
def finJ (rows : List (List Int)) (dim leaf : Nat) (s : Nat → Int) : List NodeV → List JobV → Nat → List NodeV × Nat
  | N, [], k => (N, k)
  | N, j :: st, k => finJ rows dim leaf s (setR N j.up N.length ++ (growF rows dim leaf s j.f j.ids N.length k).1) st (growF rows dim leaf s j.f j.ids N.length k).2
theorem finJ_leaf {rows : List (List Int)} {dim leaf : Nat} {s : Nat → Int} {N : List NodeV} {ids : List Int} {f : Nat} {up : Option Nat} {st : List JobV} {k : Nat} (h : ids.length ≤ leaf ∨ f = 0) :
    finJ rows dim leaf s N (⟨ids, f, up⟩ :: st) k = finJ rows dim leaf s (setR N up N.length ++ [leafN ids]) st k := by
  rw [finJ]
  simp only [growF_leaf _ _ h]
theorem finJ_split {rows : List (List Int)} {dim leaf : Nat} {s : Nat → Int} {N : List NodeV} {ids : List Int} {f : Nat} {up : Option Nat} {st : List JobV} {k : Nat} (h : leaf < ids.length) {C : SplitV} (hC : choose rows dim ids s k = C) :
    finJ rows dim leaf s N (⟨ids, f + 1, up⟩ :: st) k = finJ rows dim leaf s (setR N up N.length ++ [⟨false, [], C.ns, C.off, ((N.length + 1 : Nat) : Int), 0⟩]) (⟨C.left, f, none⟩ :: ⟨C.right, f, some N.length⟩ :: st) (k + 2 * C.tries) := by
  obtain ⟨L, hL⟩ : ∃ L, growF rows dim leaf s f C.left (N.length + 1) (k + 2 * C.tries) = L := ⟨_, rfl⟩
  obtain ⟨R, hR⟩ : ∃ R, growF rows dim leaf s f C.right (N.length + 1 + L.1.length) L.2 = R := ⟨_, rfl⟩
  obtain ⟨M, hM⟩ : ∃ M, setR N up N.length = M := ⟨_, rfl⟩
  have hMl : M.length = N.length := by rw [← hM, setR_length]
  conv => lhs; rw [finJ]
  conv => rhs; rw [finJ, finJ]
  simp only [growF_split N.length k h hC hL hR, hM]
  have e1 : (M ++ [(⟨false, [], C.ns, C.off, ((N.length + 1 : Nat) : Int), 0⟩ : NodeV)]).length = N.length + 1 := by simp [hMl]
  simp only [e1, setR, hL]
  have e2 : (M ++ [(⟨false, [], C.ns, C.off, ((N.length + 1 : Nat) : Int), 0⟩ : NodeV)] ++ L.1).length = N.length + 1 + L.1.length := by simp [hMl]; omega
  simp only [e2, hR]
  congr 1
  have e3 : (M ++ [(⟨false, [], C.ns, C.off, ((N.length + 1 : Nat) : Int), 0⟩ : NodeV)] ++ L.1).modify N.length (fun x => { x with right := ((N.length + 1 + L.1.length : Nat) : Int) }) = M ++ (⟨false, [], C.ns, C.off, ((N.length + 1 : Nat) : Int), ((N.length + 1 + L.1.length : Nat) : Int)⟩ : NodeV) :: L.1 := by
    apply List.ext_getElem?
    intro i
    rw [List.getElem?_modify]
    have k1 : ∀ X : List NodeV, i < N.length → (M ++ X)[i]? = M[i]? := fun X h => by rw [List.getElem?_append_left (by omega)]
    have k2 : ∀ X : List NodeV, N.length ≤ i → (M ++ X)[i]? = X[i - N.length]? := fun X h => by rw [List.getElem?_append_right (by omega), hMl]
    rw [List.append_assoc]
    rcases Nat.lt_trichotomy i N.length with h1 | h1 | h1
    · rw [k1 _ h1, k1 _ h1]; simp [show ¬ N.length = i by omega]
    · rw [k2 _ (by omega), k2 _ (by omega), h1, Nat.sub_self]; simp
    · rw [k2 _ (by omega), k2 _ (by omega)]
      obtain ⟨m, hm⟩ : ∃ m, i - N.length = m + 1 := ⟨i - N.length - 1, by omega⟩
      rw [hm]; simp [show ¬ N.length = i by omega]
  simp only [e3]
  simp
theorem finJ_len (rows : List (List Int)) (dim : Nat) {leaf : Nat} (s : Nat → Int) (hl : 1 ≤ leaf) : ∀ (st : List JobV) (N : List NodeV) (k : Nat), (∀ j ∈ st, 1 ≤ j.ids.length) → N.length + st.length ≤ (finJ rows dim leaf s N st k).1.length := fun st => by
  induction st with
  | nil => intro N k _; simp [finJ]
  | cons j st ih =>
    intro N k h
    rw [finJ]
    have h1 := ih (setR N j.up N.length ++ (growF rows dim leaf s j.f j.ids N.length k).1) (growF rows dim leaf s j.f j.ids N.length k).2 (fun j' hj => h j' (List.mem_cons_of_mem _ hj))
    have h2 := growF_size rows dim s hl j.f j.ids N.length k (h j (List.mem_cons_self))
    rw [List.length_append, setR_length] at h1
    rw [List.length_cons]
    omega
theorem finJ_draws (rows : List (List Int)) (dim : Nat) {leaf : Nat} (s : Nat → Int) (hl : 1 ≤ leaf) : ∀ (st : List JobV) (N : List NodeV) (k : Nat), (∀ j ∈ st, 1 ≤ j.ids.length) → k ≤ (finJ rows dim leaf s N st k).2 := fun st => by
  induction st with
  | nil => intro N k _; simp [finJ]
  | cons j st ih =>
    intro N k h
    rw [finJ]
    have h1 := ih (setR N j.up N.length ++ (growF rows dim leaf s j.f j.ids N.length k).1) (growF rows dim leaf s j.f j.ids N.length k).2 (fun j' hj => h j' (List.mem_cons_of_mem _ hj))
    have h2 := growF_size rows dim s hl j.f j.ids N.length k (h j (List.mem_cons_self))
    omega
end Go.Proofs.Ytohmcpblagcfeaa
