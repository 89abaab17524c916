/-
  Two forests, of items and of the same items moved, are alike: plain. Condition: the move keeps sums of products.
-/
import Derived.Test.YticdmglondpgaaaGreatVAlike
import Derived.Test.YticdmglondpgaaaGreatVMoveL

namespace Go.Proofs.YticdmglondpgaaaGreat
open Go.RowKit
set_option linter.unusedVariables false
set_option maxRecDepth 100000
set_option linter.unusedSimpArgs false


theorem start_like {y y' : List Int} {f f' : Nat → Tr} (h : ∀ k, (f k).Like y y' (f' k)) : ∀ (L : List Nat) (m : Nat), LikeL y y' (((L.map f).zipIdx m).map fun x => (⟨9223372036854775807, x.2, x.2, 0, x.1⟩ : PT)) (((L.map f').zipIdx m).map fun x => (⟨9223372036854775807, x.2, x.2, 0, x.1⟩ : PT))
  | [], m => .nil
  | a :: L, m => .cons ⟨rfl, rfl, rfl, rfl, h a⟩ (start_like h L (m + 1))
theorem left_like {y y' : List Int} : ∀ {S S' : List PT}, LikeL y y' S S' → left S' = left S
  | _, _, .nil => rfl
  | _, _, .cons (l := l) (l' := l') hp hl => by
    have h1 := left_like hl
    have h2 := hp.2.2.2.2.shape.1
    unfold left at h1 ⊢
    simp only [List.map_cons, List.sum_cons]
    rw [h1, h2]
theorem gath_like {y y' : List Int} {f f' : Nat → Tr} (h : ∀ k, (f k).Like y y' (f' k)) (T limit : Nat) : gath ((List.range T).map f') y' limit = gath ((List.range T).map f) y limit := by
  have h1 := start_like h (List.range T) 0
  unfold gath
  have h2 := left_like h1
  have e1 : ∀ ts : List Tr, startP ts = (ts.zipIdx 0).map fun x => (⟨9223372036854775807, x.2, x.2, 0, x.1⟩ : PT) := fun ts => rfl
  rw [e1, e1, h2, srch_like limit _ _ _ _ _ _ h1, List.length_map, List.length_map]
theorem stat_like {y y' : List Int} {f f' : Nat → Tr} (h : ∀ k, (f k).Like y y' (f' k)) (L : List Nat) : statN (L.map f') = statN (L.map f) ∧ statL (L.map f') = statL (L.map f) ∧ statD (L.map f') = statD (L.map f) := by
  refine ⟨?_, ?_, ?_⟩
  · unfold statN
    rw [List.map_map, List.map_map]
    exact congrArg List.sum (List.map_congr_left fun k _ => (h k).shape.1)
  · unfold statL
    rw [List.map_map, List.map_map]
    exact congrArg List.sum (List.map_congr_left fun k _ => congrArg List.length (h k).shape.2.2)
  · unfold statD
    rw [List.foldl_map, List.foldl_map]
    congr 1
    funext a k
    rw [(h k).shape.2.1]
theorem checkV_vd {x : List Int} {D : Nat} (h : checkV x D = 0) : Vd D x := by
  obtain ⟨_, _, h3, h4⟩ := checkV_zero h
  exact ⟨by omega, h4⟩
theorem checkV_of_vd {x : List Int} {D : Nat} (h1 : 1 ≤ D) (h2 : D ≤ 1024) (h : Vd D x) : checkV x D = 0 := checkV_ok (by have := h.1; omega) (by have := h.1; omega) (by have := h.1; omega) h.2
theorem each_mv {mv : List Int → List Int} {D D' : Nat} {K : Int} (h : Moves mv D D' K) {rows : List (List Int)} {ys : List Int} (hr : ∀ r ∈ rows, Vd D r) (hy : Vd D ys) (M : List Int) (hM : ∀ x ∈ M, 0 ≤ x ∧ x < rows.length) : eachL (rows.map mv) (mv ys) M = eachL rows ys M := by
  unfold eachL
  refine List.map_congr_left fun x hx => ?_
  obtain ⟨h0, h1⟩ := hM x hx
  have hlt : x.toNat < rows.length := by omega
  have e1 : rows.getD x.toNat [] = rows[x.toNat] := by simp [List.getD, hlt]
  have e2 : (rows.map mv).getD x.toNat [] = mv rows[x.toNat] := by simp [List.getD, hlt]
  rw [e1, e2, h.fars (hr _ (List.getElem_mem hlt)).1 hy.1]
/-- The two sides of alike. -/
theorem alk_mv {mv : List Int → List Int} {D D' : Nat} {K : Int} (h : Moves mv D D' K) {rows : List (List Int)} {ys : List Int} {t l d : Int} (sc : Bool) (sd : Int) (ds : List Int) (k limit : Int) (hd1 : 1 ≤ D) (hd2 : D ≤ 1024) (hd3 : 1 ≤ D') (hd4 : D' ≤ 1024) (hr : ∀ r ∈ rows, Vd D r) (hy : Vd D ys)
    (ht : treeErr rows.length t l d = 0) (hn : rows.length ≤ 40) (ht6 : ¬ (6 < t ∧ t ≤ 256)) :
    ∃ (E : Int) (X : List (Int × Int)) (nn nl nd : Nat), AlkC D rows (forestT rows D l.toNat d.toNat sc sd ds t.toNat) l.toNat d.toNat ys k limit E X nn nl nd ∧ AlkC D' (rows.map mv) (forestT (rows.map mv) D' l.toNat d.toNat sc sd ds t.toNat) l.toNat d.toNat (mv ys) k limit E X nn nl nd := by
  obtain ⟨l1, l2, d1, d2, t1, t2, n1⟩ := treeErr_zero ht
  have hm : ∀ r ∈ rows.map mv, Vd D' r := fun r hr' => by
    obtain ⟨x, hx, rfl⟩ := List.mem_map.1 hr'
    exact ⟨h.len x (hr x hx).1, h.b20 x (hr x hx).1 (hr x hx).2⟩
  have hmy : Vd D' (mv ys) := ⟨h.len ys hy.1, h.b20 ys hy.1 hy.2⟩
  have g1 := forestG (rows := rows) (dim := D) (leaf := l.toNat) (dp := d.toNat) sc sd ds (T := t.toNat) hd1 hd2 (fun r hx => ⟨(hr r hx).2, (hr r hx).1⟩) (by omega) (by omega) (by omega) (by omega) (by omega) n1 (by omega)
  have g2 := forestG (rows := rows.map mv) (dim := D') (leaf := l.toNat) (dp := d.toNat) sc sd ds (T := t.toNat) hd3 hd4 (fun r hx => ⟨(hm r hx).2, (hm r hx).1⟩) (by omega) (by omega) (by omega) (by omega) (by omega) (by rw [List.length_map]; exact n1) (by rw [List.length_map]; omega)
  have hlk : ∀ q : Nat, ((growT rows D l.toNat (offT sc sd ds q t.toNat) d.toNat (upTo rows.length) 0).1).Like ys (mv ys) ((growT (rows.map mv) D' l.toNat (offT sc sd ds q t.toNat) d.toNat (upTo (rows.map mv).length) 0).1) := fun q => by
    rw [List.length_map]
    exact (growT_mv h hr l.toNat _ hy d.toNat (upTo rows.length) 0 fun id hid => upTo_in hid).1
  have hgl := fun limit => gath_like hlk t.toNat limit
  obtain ⟨s1, s2, s3⟩ := stat_like hlk (List.range t.toNat)
  have q1 : checkV ys D = 0 := checkV_of_vd hd1 hd2 hy
  have q2 : checkV (mv ys) D' = 0 := checkV_of_vd hd3 hd4 hmy
  have eE : queryE (mv ys) D' k t.toNat limit = queryE ys D k t.toNat limit := by
    unfold queryE exactE
    rw [q1, q2]
  have eR : queryR (rows.map mv) (forestT (rows.map mv) D' l.toNat d.toNat sc sd ds t.toNat) (mv ys) k limit = queryR rows (forestT rows D l.toNat d.toNat sc sd ds t.toNat) ys k limit := by
    unfold queryR queryM
    rw [forestT_length, forestT_length, List.length_map]
    have e3 : ∀ L, (gath (forestT (rows.map mv) D' l.toNat d.toNat sc sd ds t.toNat) (mv ys) L) = gath (forestT rows D l.toNat d.toNat sc sd ds t.toNat) ys L := fun L => hgl L
    rw [e3, each_mv h hr hy _ fun x hx => upTo_in ((List.mem_filter.1 hx).1)]
  obtain ⟨E, hE⟩ : ∃ E, queryE ys D k t.toNat limit = E := ⟨_, rfl⟩
  refine ⟨E, if E = 0 then queryR rows (forestT rows D l.toNat d.toNat sc sd ds t.toNat) ys k limit else [], _, _, _, ⟨g1, fun r hx => (hr r hx).2.r32, q1, by rw [forestT_length]; omega, by rw [forestT_length]; exact hE, fun h => by rw [if_pos h], fun h => by rw [if_neg h], rfl, rfl, rfl⟩,
    ⟨g2, fun r hx => (hm r hx).2.r32, q2, by rw [forestT_length]; omega, by rw [forestT_length, eE]; exact hE, fun h => by rw [if_pos h, eR], fun h => by rw [if_neg h], s1, s2, s3⟩⟩
end Go.Proofs.YticdmglondpgaaaGreat
