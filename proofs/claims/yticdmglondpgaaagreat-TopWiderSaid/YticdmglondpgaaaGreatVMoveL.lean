/-
  Items that are moved so that sums of products stay (up to one constant) grow like trees and are searched alike: the plain law. No program in sight.
-/
import Derived.Test.YticdmglondpgaaaGreatQ14
import Derived.Test.YticdmglondpgaaaGreatQ19
import Derived.Test.YticdmglondpgaaaGreatVStayL

namespace Go.Proofs.YticdmglondpgaaaGreat
open Go.RowKit
set_option linter.unusedVariables false
set_option maxRecDepth 100000
set_option linter.unusedSimpArgs false

/-- A move of vectors of a dimension to those of another one that keeps sums of products, up to K. -/
structure Moves (mv : List Int → List Int) (dim dim' : Nat) (K : Int) : Prop where
  len : ∀ x : List Int, x.length = dim → (mv x).length = dim'
  b20 : ∀ x : List Int, x.length = dim → B20 x → B20 (mv x)
  dots : ∀ x y : List Int, x.length = dim → y.length = dim → dot (mv x) (mv y) = dot x y + K
def Vd (dim : Nat) (x : List Int) : Prop := x.length = dim ∧ B20 x
theorem Moves.marg {mv : List Int → List Int} {dim dim' : Nat} {K : Int} (h : Moves mv dim dim' K) {a c x : List Int} (ha : Vd dim a) (hc : Vd dim c) (hx : Vd dim x) :
    margin (less (mv a) (mv c)) (betweenOff (mv a) (mv c)) (mv x) = margin (less a c) (betweenOff a c) x := by
  have la := h.len a ha.1
  have lc := h.len c hc.1
  have lx := h.len x hx.1
  have ba := h.b20 a ha.1 ha.2
  have bc := h.b20 c hc.1 hc.2
  unfold margin betweenOff
  rw [dot_less ba bc (by omega) (by omega), dot_less ba bc (by omega) (by omega), dot_less ba bc (by omega) (by omega), dot_less ha.2 hc.2 (by have := ha.1; have := hc.1; omega) (by have := ha.1; have := hx.1; omega),
    dot_less ha.2 hc.2 (by have := ha.1; have := hc.1; omega) (by omega), dot_less ha.2 hc.2 (by have := ha.1; have := hc.1; omega) (by have := ha.1; have := hc.1; omega),
    h.dots _ _ ha.1 hx.1, h.dots _ _ hc.1 hx.1, h.dots _ _ ha.1 ha.1, h.dots _ _ hc.1 ha.1, h.dots _ _ ha.1 hc.1, h.dots _ _ hc.1 hc.1]
  congr 1
  rw [show dot a a + K - (dot c a + K) + (dot a c + K - (dot c c + K)) = dot a a - dot c a + (dot a c - dot c c) by omega]
  omega
theorem Moves.fars {mv : List Int → List Int} {dim dim' : Nat} {K : Int} (h : Moves mv dim dim' K) {a b : List Int} (ha : a.length = dim) (hb : b.length = dim) : far (mv a) (mv b) = far a b := by
  rw [far_sums (by rw [h.len a ha, h.len b hb]), far_sums (by rw [ha, hb]), h.dots _ _ ha ha, h.dots _ _ hb hb, h.dots _ _ ha hb]
  omega
theorem itemZ_mv (mv : List Int → List Int) {rows : List (List Int)} {id : Int} (h : 0 ≤ id ∧ id < rows.length) : itemZ (rows.map mv) id = mv (itemZ rows id) := by
  obtain ⟨i, rfl⟩ : ∃ i : Nat, id = i := ⟨id.toNat, by omega⟩
  have hi : i < rows.length := by omega
  rw [itemZ_nat (by simpa using hi), itemZ_nat hi]
  simp [List.getD, hi]
theorem itemZ_vd {rows : List (List Int)} {dim : Nat} (hr : ∀ r ∈ rows, Vd dim r) {id : Int} (h : 0 ≤ id ∧ id < rows.length) : Vd dim (itemZ rows id) := by
  obtain ⟨i, rfl⟩ : ∃ i : Nat, id = i := ⟨id.toNat, by omega⟩
  have hi : i < rows.length := by omega
  rw [itemZ_nat hi]
  exact hr _ (by simp [List.getD, hi])
theorem sideL_mv {mv : List Int → List Int} {dim dim' : Nat} {K : Int} (h : Moves mv dim dim' K) {rows : List (List Int)} {ids a c : List Int} (on : Bool) (hr : ∀ r ∈ rows, Vd dim r) (hid : ∀ id ∈ ids, 0 ≤ id ∧ id < rows.length) (ha : Vd dim a) (hc : Vd dim c) :
    sideL (rows.map mv) (less (mv a) (mv c)) (betweenOff (mv a) (mv c)) ids on = sideL rows (less a c) (betweenOff a c) ids on := by
  unfold sideL
  apply List.filter_congr
  intro id hi
  unfold onB
  rw [itemZ_mv mv (hid id hi), h.marg ha hc (itemZ_vd hr (hid id hi))]
theorem dot_zero (n : Nat) (x : List Int) : dot (List.replicate n 0) x = 0 := by
  unfold dot dotN
  rw [sumTo_congr (g := fun _ => 0) _ fun i hi => ?_, sumTo_const, Int.mul_zero]
  have : i < n := by simp at hi; omega
  simp [List.getD, this]
theorem margin_flat (n : Nat) (x : List Int) : margin (List.replicate n 0) 0 x = 0 := by
  unfold margin
  rw [dot_zero]; simp [wrap64]
theorem choose_mv {mv : List Int → List Int} {dim dim' : Nat} {K : Int} (h : Moves mv dim dim' K) {rows : List (List Int)} {ids : List Int} (s : Nat → Int) (k : Nat) (hr : ∀ r ∈ rows, Vd dim r) (hid : ∀ id ∈ ids, 0 ≤ id ∧ id < rows.length) :
    (choose (rows.map mv) dim' ids s k).left = (choose rows dim ids s k).left ∧ (choose (rows.map mv) dim' ids s k).right = (choose rows dim ids s k).right ∧ (choose (rows.map mv) dim' ids s k).tries = (choose rows dim ids s k).tries ∧
      ∀ x, Vd dim x → margin (choose (rows.map mv) dim' ids s k).ns (choose (rows.map mv) dim' ids s k).off (mv x) = margin (choose rows dim ids s k).ns (choose rows dim ids s k).off x := by
  have hF : ∀ f t, (chooseF (rows.map mv) dim' ids s k f t).left = (chooseF rows dim ids s k f t).left ∧ (chooseF (rows.map mv) dim' ids s k f t).right = (chooseF rows dim ids s k f t).right ∧ (chooseF (rows.map mv) dim' ids s k f t).tries = (chooseF rows dim ids s k f t).tries ∧
      ∀ x, Vd dim x → margin (chooseF (rows.map mv) dim' ids s k f t).ns (chooseF (rows.map mv) dim' ids s k f t).off (mv x) = margin (chooseF rows dim ids s k f t).ns (chooseF rows dim ids s k f t).off x := fun f => by
    have hfl : ∀ t, (flatV dim' ids t).left = (flatV dim ids t).left ∧ (flatV dim' ids t).right = (flatV dim ids t).right ∧ (flatV dim' ids t).tries = (flatV dim ids t).tries ∧
      ∀ x, Vd dim x → margin (flatV dim' ids t).ns (flatV dim' ids t).off (mv x) = margin (flatV dim ids t).ns (flatV dim ids t).off x := fun t => ⟨rfl, rfl, rfl, fun x _ => by simp only [flatV, margin_flat]⟩
    induction f with
    | zero => intro t; exact hfl t
    | succ f ih =>
      intro t
      unfold chooseF
      by_cases h1 : 1 < ids.length
      · have hA : ∀ j, itemA (rows.map mv) ids s j = mv (itemA rows ids s j) ∧ Vd dim (itemA rows ids s j) := fun j => by
          obtain ⟨i, hi, hlt⟩ := pX_bd s j ids.length h1
          have hm : ids.getD i 0 ∈ ids := by simp [List.getD, hlt]
          unfold itemA
          rw [hi, Int.toNat_natCast]
          exact ⟨itemZ_mv mv (hid _ hm), itemZ_vd hr (hid _ hm)⟩
        have hB : ∀ j, itemB (rows.map mv) ids s j = mv (itemB rows ids s j) ∧ Vd dim (itemB rows ids s j) := fun j => by
          obtain ⟨i, hi, hlt⟩ := pY_bd s j ids.length h1
          have hm : ids.getD i 0 ∈ ids := by simp [List.getD, hlt]
          unfold itemB
          rw [hi, Int.toNat_natCast]
          exact ⟨itemZ_mv mv (hid _ hm), itemZ_vd hr (hid _ hm)⟩
        have hTl : ∀ j t, (tryV (rows.map mv) ids s j t).left = (tryV rows ids s j t).left := fun j t => by
          unfold tryV
          simp only [(hA j).1, (hB j).1]
          exact sideL_mv h false hr hid (hA j).2 (hB j).2
        have hTr : ∀ j t, (tryV (rows.map mv) ids s j t).right = (tryV rows ids s j t).right := fun j t => by
          unfold tryV
          simp only [(hA j).1, (hB j).1]
          exact sideL_mv h true hr hid (hA j).2 (hB j).2
        have hTm : ∀ j t x, Vd dim x → margin (tryV (rows.map mv) ids s j t).ns (tryV (rows.map mv) ids s j t).off (mv x) = margin (tryV rows ids s j t).ns (tryV rows ids s j t).off x := fun j t x hx => by
          unfold tryV
          simp only [(hA j).1, (hB j).1]
          exact h.marg (hA j).2 (hB j).2 hx
        rw [if_pos h1, if_pos h1, hTl, hTr]
        split
        · exact ⟨hTl _ _, hTr _ _, rfl, fun x hx => hTm _ _ x hx⟩
        · exact ih (t + 1)
      · rw [if_neg h1, if_neg h1]
        exact hfl t
  exact hF 4 0
/-- Trees of one shape, with the same leaves, whose margins of two vectors are the same. -/
def Tr.Like (y y' : List Int) : Tr → Tr → Prop
  | .leaf i, .leaf i' => i' = i
  | .split ns off l r, .split ns' off' l' r' => margin ns' off' y' = margin ns off y ∧ l.Like y y' l' ∧ r.Like y y' r'
  | _, _ => False
theorem Tr.Like.shape {y y' : List Int} : ∀ {t t' : Tr}, t.Like y y' t' → t'.size = t.size ∧ t'.depth = t.depth ∧ t'.leaves = t.leaves
  | .leaf i, .leaf i', h => by
    have h : i' = i := h
    subst h; exact ⟨rfl, rfl, rfl⟩
  | .split ns off l r, .split ns' off' l' r', h => by
    obtain ⟨_, h1, h2⟩ := h
    obtain ⟨a1, a2, a3⟩ := h1.shape
    obtain ⟨b1, b2, b3⟩ := h2.shape
    simp only [Tr.size, Tr.depth, Tr.leaves, a1, a2, a3, b1, b2, b3, and_self]
  | .leaf _, .split _ _ _ _, h => h.elim
  | .split _ _ _ _, .leaf _, h => h.elim
theorem choose_side {rows : List (List Int)} {dim : Nat} {ids : List Int} {s : Nat → Int} {k : Nat} {x : Int} : (x ∈ (choose rows dim ids s k).left ∨ x ∈ (choose rows dim ids s k).right) → x ∈ ids := fun h =>
  (choose_perm rows dim ids s k).mem_iff.1 (List.mem_append.2 h)
theorem growT_mv {mv : List Int → List Int} {dim dim' : Nat} {K : Int} (h : Moves mv dim dim' K) {rows : List (List Int)} (hr : ∀ r ∈ rows, Vd dim r) (leaf : Nat) (s : Nat → Int) {y : List Int} (hy : Vd dim y) :
    ∀ (f : Nat) (ids : List Int) (k : Nat), (∀ id ∈ ids, 0 ≤ id ∧ id < rows.length) → (growT rows dim leaf s f ids k).1.Like y (mv y) (growT (rows.map mv) dim' leaf s f ids k).1 ∧ (growT (rows.map mv) dim' leaf s f ids k).2 = (growT rows dim leaf s f ids k).2 := fun f => by
  induction f with
  | zero => intro ids k _; exact ⟨rfl, rfl⟩
  | succ f ih =>
    intro ids k hid
    by_cases hl : ids.length ≤ leaf
    · rw [growT_leaf k (.inl hl), growT_leaf k (.inl hl)]
      exact ⟨rfl, rfl⟩
    · obtain ⟨e1, e2, e3, e4⟩ := choose_mv h (ids := ids) s k hr hid
      obtain ⟨C, hC⟩ : ∃ C, choose rows dim ids s k = C := ⟨_, rfl⟩
      obtain ⟨C', hC'⟩ : ∃ C, choose (rows.map mv) dim' ids s k = C := ⟨_, rfl⟩
      have hsl : ∀ x ∈ C.left, 0 ≤ x ∧ x < rows.length := fun x hx => hid x (choose_side (.inl (by rw [hC]; exact hx)))
      have hsr : ∀ x ∈ C.right, 0 ≤ x ∧ x < rows.length := fun x hx => hid x (choose_side (.inr (by rw [hC]; exact hx)))
      rw [hC, hC'] at e1 e2 e3 e4
      obtain ⟨l1, l2⟩ := ih C.left (k + 2 * C.tries) hsl
      obtain ⟨r1, r2⟩ := ih C.right (growT rows dim leaf s f C.left (k + 2 * C.tries)).2 hsr
      rw [growT_split k (by omega) hC rfl rfl, growT_split k (by omega) hC' rfl rfl, e1, e2, e3, l2]
      exact ⟨⟨e4 y hy, l1, r1⟩, r2⟩
/-! ### the search -/
def PLike (y y' : List Int) (p p' : PT) : Prop := p'.mg = p.mg ∧ p'.sq = p.sq ∧ p'.j = p.j ∧ p'.k = p.k ∧ p.t.Like y y' p'.t
theorem PLike.tk {y y' : List Int} {p p' : PT} (h : PLike y y' p p') : p'.tk = p.tk := by
  obtain ⟨h1, h2, h3, h4, _⟩ := h
  simp [PT.tk, h1, h2, h3, h4]
inductive LikeL (y y' : List Int) : List PT → List PT → Prop
  | nil : LikeL y y' [] []
  | cons {p p' : PT} {l l' : List PT} : PLike y y' p p' → LikeL y y' l l' → LikeL y y' (p :: l) (p' :: l')
theorem insP_like {y y' : List Int} {p p' : PT} (hp : PLike y y' p p') : ∀ {l l' : List PT}, LikeL y y' l l' → LikeL y y' (insP p l) (insP p' l')
  | _, _, .nil => .cons hp .nil
  | _, _, .cons (p := u) (p' := u') (l := l) (l' := l') hu hl => by
    unfold insP
    rw [hp.tk, hu.tk]
    split
    · exact .cons hp (.cons hu hl)
    · exact .cons hu (insP_like hp hl)
theorem srch_like {y y' : List Int} (limit : Nat) : ∀ (f : Nat) (S S' : List PT) (nx st : Nat) (met : List Int), LikeL y y' S S' → srch y' limit f S' nx st met = srch y limit f S nx st met
  | 0, _, _, _, _, _, _ => rfl
  | f + 1, _, _, nx, st, met, .nil => by simp only [srch]
  | f + 1, _, _, nx, st, met, .cons (p := ⟨mg, sq, j, k, t⟩) (p' := ⟨mg', sq', j', k', t'⟩) (l := l) (l' := l') hu hl => by
    obtain ⟨h1, h2, h3, h4, h5⟩ := hu
    simp only at h1 h2 h3 h4 h5
    subst h1 h2 h3 h4
    cases t with
    | leaf i =>
      cases t' with
      | leaf i' =>
        have h5 : i' = i := h5
        subst h5
        simp only [srch]
        split
        · rfl
        · exact srch_like limit f l l' nx (st + 1) _ hl
      | split _ _ _ _ => exact h5.elim
    | split ns off a b =>
      cases t' with
      | leaf _ => exact h5.elim
      | split ns' off' a' b' =>
        obtain ⟨hm, ha, hb⟩ := h5
        simp only [srch]
        split
        · rfl
        · rw [hm, ha.shape.1]
          have e1 : PLike y y' ⟨minB mg' (wrap64 (-margin ns off y)), nx, j', k' + 1, a⟩ ⟨minB mg' (wrap64 (-margin ns off y)), nx, j', k' + 1, a'⟩ := ⟨rfl, rfl, rfl, rfl, ha⟩
          have e2 : PLike y y' ⟨minB mg' (margin ns off y), nx + 1, j', k' + 1 + a.size, b⟩ ⟨minB mg' (margin ns off y), nx + 1, j', k' + 1 + a.size, b'⟩ := ⟨rfl, rfl, rfl, rfl, hb⟩
          exact srch_like limit f _ _ (nx + 2) (st + 1) met (insP_like e2 (insP_like e1 hl))
/-! ### three moves -/
def negL (x : List Int) : List Int := x.map fun a => -a
theorem moves_neg (dim : Nat) : Moves negL dim dim 0 where
  len := fun x h => by simpa [negL] using h
  b20 := fun x _ h y hy => by
    obtain ⟨a, ha, rfl⟩ := List.mem_map.1 hy
    have := h a ha; omega
  dots := fun x y hx hy => by
    unfold dot dotN negL
    simp only [List.length_map]
    rw [Int.add_zero]
    exact sumTo_congr _ fun i hi => by
      have h1 : i < x.length := by omega
      have h2 : i < y.length := by omega
      simp only [List.getD, List.getElem?_map, List.getElem?_eq_getElem h1, List.getElem?_eq_getElem h2, Option.map_some, Option.getD_some]
      exact Int.neg_mul_neg _ _
theorem dotApp (xs ys zs ws : List Int) (h : xs.length = ys.length) : dot (xs ++ zs) (ys ++ ws) = dot xs ys + dot zs ws := by
  unfold dot dotN
  have hs : ∀ (f : Nat → Int) (n m : Nat), sumTo f (n + m) = sumTo f n + sumTo (fun i => f (n + i)) m := fun f n m => by
    induction m with
    | zero => simp [sumTo]
    | succ m ih => rw [← Nat.add_assoc]; simp only [sumTo]; rw [ih]; omega
  simp only [List.length_append]
  rw [← h, Nat.min_self, Nat.add_min_add_left, hs]
  congr 1
  · exact sumTo_congr _ fun i hi => by
      simp [List.getD, List.getElem?_append, hi, show i < ys.length by omega]
  · exact sumTo_congr _ fun i hi => by
      simp only [List.getD]
      rw [List.getElem?_append_right (by omega), List.getElem?_append_right (by omega), h]
      simp
def turnL (at_ : Nat) (x : List Int) : List Int := x.drop at_ ++ x.take at_
theorem moves_turn (at_ dim : Nat) (h : at_ ≤ dim) : Moves (turnL at_) dim dim 0 where
  len := fun x hx => by simp [turnL]; omega
  b20 := fun x _ hb y hy => by
    unfold turnL at hy
    rcases List.mem_append.1 hy with hy | hy
    · exact hb y (List.mem_of_mem_drop hy)
    · exact hb y (List.mem_of_mem_take hy)
  dots := fun x y hx hy => by
    unfold turnL
    rw [dotApp _ _ _ _ (by simp [hx, hy]), Int.add_comm, Int.add_zero]
    conv => rhs; rw [← List.take_append_drop at_ x, ← List.take_append_drop at_ y]
    rw [dotApp _ _ _ _ (by simp [hx, hy])]
def wideL (c : Int) (x : List Int) : List Int := x ++ [c]
theorem moves_wide (c : Int) (dim : Nat) (hc : -1048576 ≤ c ∧ c ≤ 1048576) : Moves (wideL c) dim (dim + 1) (c * c) where
  len := fun x hx => by simp [wideL, hx]
  b20 := fun x _ hb y hy => by
    unfold wideL at hy
    rcases List.mem_append.1 hy with hy | hy
    · exact hb y hy
    · rw [List.mem_singleton] at hy; subst hy; exact hc
  dots := fun x y hx hy => by
    unfold wideL
    rw [dotApp _ _ _ _ (by omega)]
    congr 1
    unfold dot dotN
    simp [sumTo]
end Go.Proofs.YticdmglondpgaaaGreat
