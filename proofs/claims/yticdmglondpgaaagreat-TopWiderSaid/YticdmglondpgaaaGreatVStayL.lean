/-
  Items that are all shifted by the same are split alike: the plain law. No condition.
-/
import Derived.Test.YticdmglondpgaaaGreatQ14

namespace Go.Proofs.YticdmglondpgaaaGreat
open Go.RowKit
set_option linter.unusedVariables false
set_option maxRecDepth 100000

def shL (b : Int) (xs : List Int) : List Int := xs.map fun x => x + b
theorem shL_length (b : Int) (xs : List Int) : (shL b xs).length = xs.length := by simp [shL]
theorem shL_get (b : Int) (xs : List Int) (i : Nat) (h : i < xs.length) : (shL b xs).getD i 0 = xs.getD i 0 + b := by simp [shL, List.getD, h]
theorem less_sh (b : Int) {xs ys : List Int} : less (shL b xs) (shL b ys) = less xs ys := by
  unfold less lessN
  rw [shL_length, shL_length]
  apply List.map_congr_left
  intro i hi
  rw [List.mem_range] at hi
  rw [shL_get _ _ _ (by omega), shL_get _ _ _ (by omega)]
  congr 1; omega
theorem dot_sh (b : Int) {d xs : List Int} (h : d.length = xs.length) : dot d (shL b xs) = dot d xs + b * sumTo (fun i => d.getD i 0) xs.length := by
  unfold dot dotN
  rw [shL_length, h, Nat.min_self, ← sumTo_mul, ← sumTo_add]
  exact sumTo_congr _ fun i hi => by rw [shL_get _ _ _ hi, Int.mul_add, Int.mul_comm b]
theorem margin_sh (b : Int) {d x a c : List Int} (h1 : d = less a c) (h2 : a.length = x.length) (h3 : c.length = x.length) : margin d (betweenOff (shL b a) (shL b c)) (shL b x) = margin d (betweenOff a c) x := by
  have hd : d.length = x.length := by subst h1; unfold less; rw [lessN_length]; omega
  unfold margin betweenOff
  rw [less_sh, ← h1, dot_sh b hd, dot_sh b (by omega : d.length = a.length), dot_sh b (by omega : d.length = c.length), h2, h3]
  rw [wrap64_sub', wrap64_sub']
  congr 1; omega
theorem itemZ_sh (b : Int) {rows : List (List Int)} {id : Int} (h : 0 ≤ id ∧ id < rows.length) : itemZ (rows.map (shL b)) id = shL b (itemZ rows id) := by
  obtain ⟨i, rfl⟩ : ∃ i : Nat, id = i := ⟨id.toNat, by omega⟩
  have hi : i < rows.length := by omega
  rw [itemZ_nat (by simpa using hi), itemZ_nat hi]
  simp [List.getD, hi]
theorem itemZ_dim {rows : List (List Int)} {id : Int} {dim : Nat} (hl : ∀ r ∈ rows, r.length = dim) (h : 0 ≤ id ∧ id < rows.length) : (itemZ rows id).length = dim := by
  obtain ⟨i, rfl⟩ : ∃ i : Nat, id = i := ⟨id.toNat, by omega⟩
  have hi : i < rows.length := by omega
  rw [itemZ_nat hi]
  exact hl _ (by simp [List.getD, hi])
theorem sideL_sh (b : Int) {rows : List (List Int)} {dim : Nat} {ids a c : List Int} (on : Bool) (hl : ∀ r ∈ rows, r.length = dim) (hid : ∀ id ∈ ids, 0 ≤ id ∧ id < rows.length) (ha : a.length = dim) (hc : c.length = dim) :
    sideL (rows.map (shL b)) (less (shL b a) (shL b c)) (betweenOff (shL b a) (shL b c)) ids on = sideL rows (less a c) (betweenOff a c) ids on := by
  unfold sideL
  apply List.filter_congr
  intro id h
  have hx := itemZ_dim hl (hid id h)
  unfold onB
  rw [less_sh, itemZ_sh b (hid id h), margin_sh b rfl (by omega) (by omega)]
theorem choose_sh (b : Int) {rows : List (List Int)} {dim : Nat} {ids : List Int} (s : Nat → Int) (k : Nat) (hl : ∀ r ∈ rows, r.length = dim) (hid : ∀ id ∈ ids, 0 ≤ id ∧ id < rows.length) :
    (choose (rows.map (shL b)) dim ids s k).left = (choose rows dim ids s k).left ∧ (choose (rows.map (shL b)) dim ids s k).right = (choose rows dim ids s k).right ∧ (choose (rows.map (shL b)) dim ids s k).tries = (choose rows dim ids s k).tries := by
  have hF : ∀ f t, (chooseF (rows.map (shL b)) dim ids s k f t).left = (chooseF rows dim ids s k f t).left ∧ (chooseF (rows.map (shL b)) dim ids s k f t).right = (chooseF rows dim ids s k f t).right ∧ (chooseF (rows.map (shL b)) dim ids s k f t).tries = (chooseF rows dim ids s k f t).tries := fun f => by
    induction f with
    | zero => intro t; exact ⟨rfl, rfl, rfl⟩
    | succ f ih =>
      intro t
      unfold chooseF
      by_cases h1 : 1 < ids.length
      · have hA : ∀ j, itemA (rows.map (shL b)) ids s j = shL b (itemA rows ids s j) ∧ (itemA rows ids s j).length = dim := fun j => by
          obtain ⟨i, hi, hlt⟩ := pX_bd s j ids.length h1
          have hm : ids.getD i 0 ∈ ids := by simp [List.getD, hlt]
          unfold itemA
          rw [hi, Int.toNat_natCast]
          exact ⟨itemZ_sh b (hid _ hm), itemZ_dim hl (hid _ hm)⟩
        have hB : ∀ j, itemB (rows.map (shL b)) ids s j = shL b (itemB rows ids s j) ∧ (itemB rows ids s j).length = dim := fun j => by
          obtain ⟨i, hi, hlt⟩ := pY_bd s j ids.length h1
          have hm : ids.getD i 0 ∈ ids := by simp [List.getD, hlt]
          unfold itemB
          rw [hi, Int.toNat_natCast]
          exact ⟨itemZ_sh b (hid _ hm), itemZ_dim hl (hid _ hm)⟩
        have hTl : ∀ j t, (tryV (rows.map (shL b)) ids s j t).left = (tryV rows ids s j t).left := fun j t => by
          unfold tryV
          simp only [(hA j).1, (hB j).1]
          exact sideL_sh b false hl hid (hA j).2 (hB j).2
        have hTr : ∀ j t, (tryV (rows.map (shL b)) ids s j t).right = (tryV rows ids s j t).right := fun j t => by
          unfold tryV
          simp only [(hA j).1, (hB j).1]
          exact sideL_sh b true hl hid (hA j).2 (hB j).2
        rw [if_pos h1, if_pos h1, hTl, hTr]
        split
        · exact ⟨hTl _ _, hTr _ _, rfl⟩
        · exact ih (t + 1)
      · rw [if_neg h1, if_neg h1]
        exact ⟨rfl, rfl, rfl⟩
  exact hF 4 0
end Go.Proofs.YticdmglondpgaaaGreat
