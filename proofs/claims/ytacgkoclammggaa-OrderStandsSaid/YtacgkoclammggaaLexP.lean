
/-
  Pairs in order by the number, and of like ones as they stood, in plain Lean. Condition: they stand in order of their places.
-/
import Derived.Test.YtacgkoclammggaaRef4P
import Derived.Test.YtacgkoclammggaaSortI
namespace Go.Proofs.Ytacgkoclammggaa
set_option linter.unusedVariables false
set_option maxRecDepth 100000

/-- By the number, then by the place. -/
def lexP (a b : Int × Int) : Bool := decide (a.1 < b.1 ∨ (a.1 = b.1 ∧ a.2 < b.2))
theorem lexP_iff (a b : Int × Int) : lexP a b = true ↔ a.1 < b.1 ∨ (a.1 = b.1 ∧ a.2 < b.2) := by unfold lexP; rw [decide_eq_true_iff]
theorem lexP_no (a b : Int × Int) : lexP a b = false ↔ ¬ (a.1 < b.1 ∨ (a.1 = b.1 ∧ a.2 < b.2)) := by rw [← lexP_iff, Bool.not_eq_true]
theorem lexP_wo : WO lexP := ⟨fun a b h => by rw [lexP_iff] at h; rw [lexP_no]; omega, fun a b c h1 h2 => by rw [lexP_no] at *; omega⟩
theorem lexP_anti (a b : Int × Int) (h1 : lexP a b = false) (h2 : lexP b a = false) : a = b := by
  rw [lexP_no] at h1 h2
  exact Prod.ext (by omega) (by omega)
/-- Of later ones the number alone tells. -/
theorem lexP_late {x a : Int × Int} (h : a.2 < x.2) : ltP x a = lexP x a := by
  rw [Bool.eq_iff_iff, ltP_iff, lexP_iff]
  omega
theorem posI_congr {α : Type} {lt lt' : α → α → Bool} {d x : α} {out : List α} (h : ∀ a ∈ out, lt x a = lt' x a) : ∀ k, k ≤ out.length → posI lt d x out k = posI lt' d x out k
  | 0, _ => rfl
  | k + 1, hk => by
    have hm : out.getD k d ∈ out := by
      have : k < out.length := by omega
      simp [List.getD, this]
    unfold posI
    rw [h _ hm, posI_congr h k (by omega)]
theorem insI_congr {α : Type} {lt lt' : α → α → Bool} {d x : α} {out : List α} (h : ∀ a ∈ out, lt x a = lt' x a) : insI lt d x out = insI lt' d x out := by
  unfold insI
  rw [posI_congr h _ (Nat.le_refl _)]
theorem sort_lex {p : List (Int × Int)} (h : p.Pairwise fun a b => a.2 < b.2) : sortI ltP (0, 0) p = sortI lexP (0, 0) p := by
  have key : p.Pairwise (fun a b => a.2 < b.2) → sortI ltP (0, 0) p = sortI lexP (0, 0) p := by
    refine rev_ind (P := fun p => p.Pairwise (fun a b => a.2 < b.2) → sortI ltP (0, 0) p = sortI lexP (0, 0) p) (fun _ => rfl) (fun p x ih h => ?_) p
    obtain ⟨h1, _, h2⟩ := List.pairwise_append.1 h
    rw [sortI_snoc, sortI_snoc, ih h1]
    exact insI_congr fun a ha => lexP_late (h2 a ((sortI_perm p).subset ha) x (by simp))
  exact key h
/-- Numbers, and where they stand, from a place on. -/
def prs (o : Nat) (l : List Int) : List (Int × Int) := (l.zipIdx o).map fun p => (p.1, (p.2 : Int))
theorem prs_nil (o : Nat) : prs o [] = [] := rfl
theorem prs_snoc (o : Nat) (l : List Int) (x : Int) : prs o (l ++ [x]) = prs o l ++ [(x, ((o + l.length : Nat) : Int))] := by simp [prs, List.zipIdx_append]
theorem prs_length (o : Nat) (l : List Int) : (prs o l).length = l.length := by simp [prs]
theorem prs_at (o : Nat) (l : List Int) (i : Nat) : (prs o l)[i]? = l[i]?.map fun x => (x, ((o + i : Nat) : Int)) := by simp [prs, List.getElem?_zipIdx, Option.map_map, Function.comp_def]
theorem prs_sorted (o : Nat) (l : List Int) : (prs o l).Pairwise fun a b => a.2 < b.2 := by
  rw [List.pairwise_iff_getElem]
  intro i j hi hj hij
  have h1 := prs_at o l i
  have h2 := prs_at o l j
  rw [prs_length] at hi hj
  rw [List.getElem?_eq_getElem (by rw [prs_length]; exact hi), List.getElem?_eq_getElem hi] at h1
  rw [List.getElem?_eq_getElem (by rw [prs_length]; exact hj), List.getElem?_eq_getElem hj] at h2
  simp only [Option.map_some, Option.some.injEq] at h1 h2
  rw [h1, h2]
  simp only
  omega
theorem prs_take (o : Nat) (l : List Int) (k : Nat) : (prs o l).take k = prs o (l.take k) := by
  refine List.ext_getElem? fun i => ?_
  rw [List.getElem?_take, prs_at, prs_at, List.getElem?_take]
  split <;> rfl
end Go.Proofs.Ytacgkoclammggaa
