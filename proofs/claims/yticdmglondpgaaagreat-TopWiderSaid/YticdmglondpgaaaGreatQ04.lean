/-
  Texts on the program, part 4: HeapK, Heap2K, Heap3K, Heap4K, Heap5K, Search1, Search2.
-/
import Derived.BigRegion
import Derived.Deep.RegionHeld3
import Derived.Laws.ResultCell
import Derived.StillTailTactics
import Derived.Test.YticdmglondpgaaaGreatQ02
import Derived.Test.YticdmglondpgaaaGreatQ03

/-! ## HeapK: The heap of search's tasks (package heap, search.task): the order; the contract of Push, by a list that is a heap. Condition: the heap's blocks are as the word HpK says; no more than a million things. -/
namespace Go.Proofs.YticdmglondpgaaaGreat
open Go.RowKit
set_option linter.unusedVariables false
set_option maxRecDepth 100000
set_option linter.unusedSimpArgs false

def quad (p : Int × Int × Int × Int) : List Value := [.int .i64 p.1, .int .i64 p.2.1, .int .i64 p.2.2.1, .int .i64 p.2.2.2]
theorem quad_q (p : Int × Int × Int × Int) : (quad p).length = 4 := rfl
theorem quad_one (p : Int × Int × Int × Int) : ∀ u ∈ quad p, u.oneCell' = true := by
  intro u hu
  simp [quad] at hu
  rcases hu with rfl | rfl | rfl | rfl <;> rfl
theorem OwnF.store4 {w : World} {base : Nat} {e : TypeId} {g n c : Nat} {xs : List (Int × Int × Int × Int)} (h : OwnF w base e 4 quad (.slice (some ⟨g, 0, none⟩) n c) xs) (j : Nat) (hj : j < n) (y : Int × Int × Int × Int) :
    OwnF ((((w.setCell ⟨g, j * 4, none⟩ (.int .i64 y.1)).setCell ⟨g, j * 4 + 1, none⟩ (.int .i64 y.2.1)).setCell ⟨g, j * 4 + 2, none⟩ (.int .i64 y.2.2.1)).setCell ⟨g, j * 4 + 3, none⟩ (.int .i64 y.2.2.2)) base e 4 quad (.slice (some ⟨g, 0, none⟩) n c) (xs.set j y) := by
  obtain ⟨A1, c1, he, _⟩ := h.shape
  injection he with e1 e2 e3
  subst e2 e3
  have hx : xs[j]? = some xs[j] := List.getElem?_eq_getElem hj
  have h1 := OwnF.storeI quad_q h j 0 (y := (y.1, xs[j].2.1, xs[j].2.2.1, xs[j].2.2.2)) (u := .int .i64 y.1) hx (by omega) rfl
  have h2 := OwnF.storeI quad_q h1 j 1 (x := (y.1, xs[j].2.1, xs[j].2.2.1, xs[j].2.2.2)) (y := (y.1, y.2.1, xs[j].2.2.1, xs[j].2.2.2)) (u := .int .i64 y.2.1) (by simp [hj]) (by omega) rfl
  have h3 := OwnF.storeI quad_q h2 j 2 (x := (y.1, y.2.1, xs[j].2.2.1, xs[j].2.2.2)) (y := (y.1, y.2.1, y.2.2.1, xs[j].2.2.2)) (u := .int .i64 y.2.2.1) (by simp [hj]) (by omega) rfl
  have h4 := OwnF.storeI quad_q h3 j 3 (x := (y.1, y.2.1, y.2.2.1, xs[j].2.2.2)) (y := y) (u := .int .i64 y.2.2.2) (by simp [hj]) (by omega) rfl
  simp only [List.set_set, Nat.add_zero] at h4
  exact h4
theorem only_drew_selfK (S : Nat → Prop) (w : World) : Only S w w.drew := Only.of_below (Below.refl _ _).drew
def ltK (a b : Int × Int × Int × Int) : Bool := aheadB a.1 a.2.1 b.1 b.2.1
theorem ltK_iff (a b : Int × Int × Int × Int) : ltK a b = true ↔ b.1 < a.1 ∨ (a.1 = b.1 ∧ a.2.1 < b.2.1) := by
  unfold ltK aheadB orV cmpV
  rw [decide_eq_true_iff]
  repeat' split
  all_goals omega
theorem ltK_no (a b : Int × Int × Int × Int) : ltK a b = false ↔ ¬ (b.1 < a.1 ∨ (a.1 = b.1 ∧ a.2.1 < b.2.1)) := by
  rw [← ltK_iff, Bool.not_eq_true]
theorem ltK_wo : WO ltK := ⟨fun a b h => by rw [ltK_iff] at h; rw [ltK_no]; omega, fun a b c h1 h2 => by rw [ltK_no] at *; omega⟩
theorem infoK : (Tryz.prog.info? 203).map (fun i => (i.zero, i.size, i.bytes)) = some (some (.agg #[.int .i64 0, .int .i64 0, .int .i64 0, .int .i64 0]), 4, 32) := by kernel_rfl
theorem LessK_calls (a0 a1 a2 a3 b0 b1 b2 b3 : Int) (w : World) :
    Calls Tryz.prog 110 #[.agg #[.int .i64 a0, .int .i64 a1, .int .i64 a2, .int .i64 a3], .agg #[.int .i64 b0, .int .i64 b1, .int .i64 b2, .int .i64 b3]] w fun e w' => e = .returned (.bool (ltK (a0, a1, a2, a3) (b0, b1, b2, b3))) ∧ Below w.heap.size w w' := by
  go_enter Tryz.func110, Tryz.ntmps110
  go_wp2_with fail
  refine (Ahead_calls a0 a1 b0 b1 _).mono ?_
  rintro e w1 ⟨he, hb⟩
  subst he
  have HB := Lib.hid hb
  clear hb
  go_wp2_with fail
  go_ret
  exact ⟨rfl, Below.after (below_alloc1 (below_alloc1 (Below.refl _ _) _) _) HB.out⟩
/-- A heap at block b: the function, the row v of the things l. -/
def HpK (w : World) (b lo : Nat) (v : Value) (l : List (Int × Int × Int × Int)) : Prop :=
  w.heap[b]? = some (.cells #[.func (.func 110) #[] #[], v] 254 (0, 0)) ∧ OwnF w lo 203 4 quad v l ∧ lo ≤ b ∧ (∀ k, v.ownBlock = some k → k ≠ b)
def HpBK (v : Value) (b : Nat) (k : Nat) : Prop := k = b ∨ OwnB v k
def HpToK (w w' : World) (b lo : Nat) (v v' : Value) (l' : List (Int × Int × Int × Int)) : Prop :=
  HpK w' b lo v' l' ∧ HeapOk ltK l' ∧ Only (HpBK v b) w w' ∧ ∀ k, v'.ownBlock = some k → v.ownBlock = some k ∨ w.heap.size ≤ k
theorem Only.trans2K {S T : Nat → Prop} {a b c : World} (h1 : Only S a b) (h2 : Only T b c) (h : ∀ k, k < a.heap.size → T k → S k) : Only S a c :=
  ⟨h2.os.trans h1.os, h2.tape.trans h1.tape, h2.output.trans h1.output, Nat.le_trans h1.size h2.size, fun k hk hs => (h2.block k (by have := h1.size; omega) fun ht => hs (h k hk ht)).trans (h1.block k hk hs)⟩
theorem HpK.only {w w' : World} {S : Nat → Prop} {b lo : Nat} {v : Value} {l : List (Int × Int × Int × Int)} (h : HpK w b lo v l) (ho : Only S w w') (hb : ¬ S b) (hv : ∀ k, v.ownBlock = some k → ¬ S k) : HpK w' b lo v l :=
  ⟨ho.obj h.1 hb, h.2.1.only ho hv, h.2.2⟩
theorem HpK.lt {w : World} {b lo : Nat} {v : Value} {l : List (Int × Int × Int × Int)} (h : HpK w b lo v l) : b < w.heap.size := obj_lt h.1
theorem HpK.keep {w w' : World} {b lo : Nat} {v : Value} {l : List (Int × Int × Int × Int)} (h : HpK w b lo v l) (hb : Below w.heap.size w w') : HpK w' b lo v l := h.only (S := fun _ => False) (Only.of_below hb) (fun h => h) fun _ _ h => h
theorem HpK.drew1 {w : World} {b lo : Nat} {v : Value} {l : List (Int × Int × Int × Int)} (h : HpK w b lo v l) : HpK w.drew b lo v l := ⟨h.1, own_drew1 h.2.1, h.2.2⟩
set_option maxHeartbeats 1600000 in
theorem HpK.swap {w : World} {b lo g n c i j : Nat} {l : List (Int × Int × Int × Int)} {x y : Int × Int × Int × Int} (h : HpK w b lo (.slice (some ⟨g, 0, none⟩) n c) l) (hi : i < n) (hj : j < n) :
    HpK (((((((((w.setCell ⟨g, i * 4, none⟩ (.int .i64 y.1)).setCell ⟨g, i * 4 + 1, none⟩ (.int .i64 y.2.1)).setCell ⟨g, i * 4 + 2, none⟩ (.int .i64 y.2.2.1)).setCell ⟨g, i * 4 + 3, none⟩ (.int .i64 y.2.2.2)).setCell ⟨g, j * 4, none⟩ (.int .i64 x.1)).setCell ⟨g, j * 4 + 1, none⟩ (.int .i64 x.2.1)).setCell ⟨g, j * 4 + 2, none⟩ (.int .i64 x.2.2.1)).setCell ⟨g, j * 4 + 3, none⟩ (.int .i64 x.2.2.2)).drew) b lo (.slice (some ⟨g, 0, none⟩) n c) (swp l i j y x) ∧ Only (HpBK (.slice (some ⟨g, 0, none⟩) n c) b) w (((((((((w.setCell ⟨g, i * 4, none⟩ (.int .i64 y.1)).setCell ⟨g, i * 4 + 1, none⟩ (.int .i64 y.2.1)).setCell ⟨g, i * 4 + 2, none⟩ (.int .i64 y.2.2.1)).setCell ⟨g, i * 4 + 3, none⟩ (.int .i64 y.2.2.2)).setCell ⟨g, j * 4, none⟩ (.int .i64 x.1)).setCell ⟨g, j * 4 + 1, none⟩ (.int .i64 x.2.1)).setCell ⟨g, j * 4 + 2, none⟩ (.int .i64 x.2.2.1)).setCell ⟨g, j * 4 + 3, none⟩ (.int .i64 x.2.2.2)).drew) := by
  obtain ⟨h1, h2, h3, h4⟩ := h
  have hgb : b ≠ g := fun e => h4 g rfl e.symm
  have h5 := h2.store4 i hi y
  have h6 := h5.store4 j hj x
  have so := fun (W : World) (q : Nat) (u : Value) (o : Obj) (h : W.heap[b]? = some o) => set_other (g := g) h q u hgb
  have hs := fun (W : World) (q : Nat) (u : Value) => (only_set W g q u).mono (T := HpBK (.slice (some ⟨g, 0, none⟩) n c) b) fun k _ h => .inr (by rw [h]; rfl)
  have e1 := so _ (i * 4) (.int .i64 y.1) _ h1
  have e2 := so _ (i * 4 + 1) (.int .i64 y.2.1) _ e1
  have e3 := so _ (i * 4 + 2) (.int .i64 y.2.2.1) _ e2
  have e4 := so _ (i * 4 + 3) (.int .i64 y.2.2.2) _ e3
  have e5 := so _ (j * 4) (.int .i64 x.1) _ e4
  have e6 := so _ (j * 4 + 1) (.int .i64 x.2.1) _ e5
  have e7 := so _ (j * 4 + 2) (.int .i64 x.2.2.1) _ e6
  have e8 := so _ (j * 4 + 3) (.int .i64 x.2.2.2) _ e7
  have o1 := hs w (i * 4) (.int .i64 y.1)
  have o2 := o1.trans (hs _ (i * 4 + 1) (.int .i64 y.2.1))
  have o3 := o2.trans (hs _ (i * 4 + 2) (.int .i64 y.2.2.1))
  have o4 := o3.trans (hs _ (i * 4 + 3) (.int .i64 y.2.2.2))
  have o5 := o4.trans (hs _ (j * 4) (.int .i64 x.1))
  have o6 := o5.trans (hs _ (j * 4 + 1) (.int .i64 x.2.1))
  have o7 := o6.trans (hs _ (j * 4 + 2) (.int .i64 x.2.2.1))
  have o8 := o7.trans (hs _ (j * 4 + 3) (.int .i64 x.2.2.2))
  have hp6 := HpK.drew1 ⟨e8, h6, h3, h4⟩
  exact ⟨hp6, o8.trans (only_drew_selfK _ _)⟩
theorem Only.preK {S : Nat → Prop} {a W1 W w2 : World} (h1 : Below a.heap.size a W1) (hg : Only S W w2) (hb : Below W1.heap.size W1 W) : Only S a w2 := (Only.of_below (h1.trans (hb.mono h1.size))).trans hg
theorem at_preK {x v : Option Nat} {W1 W : World} (h : x = v ∨ x = some W.heap.size) (hb : Below W1.heap.size W1 W) : x = v ∨ ∃ k, x = some k ∧ W1.heap.size ≤ k := h.imp id fun h => ⟨_, h, hb.size⟩
set_option maxHeartbeats 3200000 in
set_option maxRecDepth 1000000 in
theorem PushK_calls (b lo : Nat) (v : Value) (l : List (Int × Int × Int × Int)) (x0 x1 x2 x3 : Int) (w : World) (h : HpK w b lo v l) (hok : HeapOk ltK l) (hl : l.length ≤ 1000000) :
    Calls Tryz.prog 154 #[.pointer (some ⟨b, 0, none⟩), .agg #[.int .i64 x0, .int .i64 x1, .int .i64 x2, .int .i64 x3]] w fun e w' => e = .returned (.tuple #[]) ∧ ∃ v' l', HpToK w w' b lo v v' l' ∧ l'.Perm ((x0, x1, x2, x3) :: l) := by
  obtain ⟨h1, h2, h3, h4⟩ := h
  have hb := obj_lt h1
  obtain ⟨A, c, rfl, hlc⟩ := h2.shape
  have hc1 : w.cell? ⟨b, 1, none⟩ = some (.slice A l.length c) := by simp [World.cell?, h1]
  have hf1 : w.frozen? ⟨b, 1, none⟩ = false := by simp [World.frozen?, h1]
  have H1 := Lib.hid h1
  have H2 := Lib.hid h2
  have HOK := Lib.hid hok
  clear h1 h2 hok
  have hwr : IntKind.i64.wrap ((l.length : Int) + 1 - 1) = (l.length : Int) := by rw [i64_w, show ((l.length : Int) + 1 - 1) = (l.length : Int) by omega]; exact wrap64_id _ (by omega)
  go_enter Tryz.func154, Tryz.ntmps154
  go_wp2_with fail
  obtain ⟨W1, hW1⟩ : ∃ W, w.alloc (.cells #[.int .i64 x0, .int .i64 x1, .int .i64 x2, .int .i64 x3] 203) = W := ⟨_, rfl⟩
  have hB1 : Below w.heap.size w W1 := by rw [← hW1]; exact below_alloc1 (Below.refl _ _) _
  have hz1 : W1.heap.size = w.heap.size + 1 := by rw [← hW1]; simp
  have hx1 : W1.heap[w.heap.size]? = some (.cells #[.int .i64 x0, .int .i64 x1, .int .i64 x2, .int .i64 x3] 203 (0, 0)) := by rw [← hW1]; exact heap_alloc_new _ _
  have hb1 := obj_below hB1 H1.out hb
  have hown1 : OwnF W1 lo 203 4 quad (.slice A l.length c) l := H2.out.keep hB1
  rw [hW1]
  have hx10 : W1.cell? ⟨w.heap.size, 0, none⟩ = some (.int .i64 x0) := by simp [World.cell?, hx1]
  have hx11 : W1.cell? ⟨w.heap.size, 1, none⟩ = some (.int .i64 x1) := by simp [World.cell?, hx1]
  have hx12 : W1.cell? ⟨w.heap.size, 2, none⟩ = some (.int .i64 x2) := by simp [World.cell?, hx1]
  have hx13 : W1.cell? ⟨w.heap.size, 3, none⟩ = some (.int .i64 x3) := by simp [World.cell?, hx1]
  have hc11 : W1.cell? ⟨b, 1, none⟩ = some (.slice A l.length c) := by simp [World.cell?, hb1]
  have gx0 := fun o => (World.cell?_alloc_lt (o := o) W1 _ (World.block_lt_of_cell? _ _ hx10)).trans hx10
  have gx1 := fun o => (World.cell?_alloc_lt (o := o) W1 _ (World.block_lt_of_cell? _ _ hx11)).trans hx11
  have gx2 := fun o => (World.cell?_alloc_lt (o := o) W1 _ (World.block_lt_of_cell? _ _ hx12)).trans hx12
  have gx3 := fun o => (World.cell?_alloc_lt (o := o) W1 _ (World.block_lt_of_cell? _ _ hx13)).trans hx13
  have gc1 := fun o => (World.cell?_alloc_lt (o := o) W1 _ (World.block_lt_of_cell? _ _ hc11)).trans hc11
  have hlo1 : lo ≤ W1.heap.size := by omega
  have HB1 := Lib.hid hB1
  have HH1 := Lib.hid hb1
  have HO1 := Lib.hid hown1
  have HZ1 := Lib.hid hz1
  have HX1 := Lib.hid hx1
  clear hB1 hb1 hown1 hz1 hx1 hW1
  go_cut [13] (fun s13 wx => ∃ A1 c1, l.length + 1 ≤ c1 ∧ HpK wx b lo (.slice A1 (l.length + 1) c1) (l ++ [(x0, x1, x2, x3)]) ∧ Only (HpBK (.slice A l.length c) b) w wx ∧ (∀ k, (Value.slice A1 (l.length + 1) c1).ownBlock = some k → (Value.slice A l.length c).ownBlock = some k ∨ w.heap.size ≤ k))
  case first =>
    go_region_law
      (first
        | (refine step_appF (q := 4) (f := quad) _ (by rfl) (.tmp 10) (.tmp 12) 252 203 (by rfl) (.agg #[.int .i64 0, .int .i64 0, .int .i64 0, .int .i64 0]) 32 Tryz.underlying252 infoK rfl (by omega) (by omega) quad_q quad_one lo (.slice A l.length c) l (by rfl) (some ⟨W1.heap.size, 0, none⟩) 1 [(x0, x1, x2, x3)] (by rfl) (by repeat (first | exact HO1.out | apply OwnF.alloc1 | apply OwnF.drew1)) W1 (by repeat (first | exact Below.refl _ _ | assumption | apply below_drew1 | refine Below.alloc ?_ (by first | omega | (simp; omega)) _)) (by simp; omega) (RdC.block (cs := #[.int .i64 x0, .int .i64 x1, .int .i64 x2, .int .i64 x3]) (heap_alloc_new _ _)) (by simp; omega) ?_; intro v1 w2 ho hgrow hbel hat hnil; obtain ⟨A1, c1, hv1, hlc1⟩ := ho.shape; rw [show (l ++ [(x0, x1, x2, x3)]).length = l.length + 1 by simp] at hv1 hlc1; subst hv1; have hob := hgrow.obj (obj_below (B := W1.heap.size) (w := W1) (by repeat (first | exact Below.refl _ _ | apply below_drew1 | apply below_alloc1)) HH1.out (obj_lt HH1.out)) (fun h => h4 _ h rfl); have HOB2 := Lib.hid hob; have hfz : w2.frozen? ⟨b, 1, none⟩ = false := free_blk hob 1; have hcs : w2.cell? ⟨b, 1, none⟩ = some (.slice A l.length c) := (by simp [World.cell?, hob]); have HO := Lib.hid ho; have HG := Lib.hid (Only.preK HB1.out hgrow (by repeat (first | exact Below.refl _ _ | apply below_drew1 | apply below_alloc1))); have HAT := Lib.hid (at_preK hat (W1 := W1) (by repeat (first | exact Below.refl _ _ | apply below_drew1 | apply below_alloc1))); clear ho hgrow hbel hat hnil hob))
    all_goals
      go_wp2_with fail
      go_meet
      have hfr : ∀ k, (Value.slice A1 (l.length + 1) c1).ownBlock = some k → (Value.slice A l.length c).ownBlock = some k ∨ w.heap.size ≤ k := fun k hk => by
        rcases HAT.out with h | ⟨k1, h, hk1⟩
        · exact .inl (h ▸ hk)
        · rw [hk] at h
          injection h with h
          exact .inr (by have := HZ1.out; omega)
      have hne : ∀ k, (Value.slice A1 (l.length + 1) c1).ownBlock = some k → k ≠ b := fun k hk => by
        rcases hfr k hk with h | h
        · exact h4 k h
        · omega
      exact ⟨A1, c1, hlc1, ⟨set_blk (cs := [_, _]) HOB2.out 1 _, HO.out.only (only_set _ _ _ _) fun k hk h => hne k hk h, h3, hne⟩, (HG.out.mono fun k _ h => .inr h).trans ((only_set w2 b 1 _).mono fun k _ h => .inl h), hfr⟩
  obtain ⟨A1, c1, hlc1, hHp, hoB, hfr⟩ := hcut
  have hne : ∀ k, (Value.slice A1 (l.length + 1) c1).ownBlock = some k → k ≠ b := hHp.2.2.2
  have HHP := Lib.hid hHp
  have HOB := Lib.hid hoB
  have HFR := Lib.hid hfr
  have hc13 : wc.cell? ⟨b, 1, none⟩ = some (.slice A1 (l.length + 1) c1) := by have h := hHp.1; simp [World.cell?, h]
  clear hc11 hx10 hx11 hx12 hx13 gx0 gx1 gx2 gx3 gc1 hoB hfr hHp hc1 hf1 H1 H2 HB1 HH1 HO1 HZ1 HX1
  go_wp2_with fail
  have hU0 : UpOk ltK (l ++ [(x0, x1, x2, x3)]) l.length := UpOk.push HOK.out (x0, x1, x2, x3)
  have hP0 : (l ++ [(x0, x1, x2, x3)]).Perm ((x0, x1, x2, x3) :: l) := List.perm_append_comm (l₁ := l) (l₂ := [(x0, x1, x2, x3)])
  obtain ⟨g, _, rfl, hlg, _⟩ := HHP.out.2.1.at_ quad_q 0 (by omega) (by omega)
  have hgb : g ≠ b := hne g rfl
  go_loopg [4] l.length (fun kq v4 w' => ∃ L : List (Int × Int × Int × Int), kq ≤ l.length ∧ v4 = .int .i64 ((kq : Nat) : Int) ∧ HpK w' b lo (.slice (some ⟨g, 0, none⟩) (l.length + 1) c1) L ∧ L.length = l.length + 1 ∧ UpOk ltK L kq ∧ L.Perm ((x0, x1, x2, x3) :: l) ∧ Only (HpBK (.slice (some ⟨g, 0, none⟩) (l.length + 1) c1) b) wc w')
  case atStart => exact ⟨l ++ [(x0, x1, x2, x3)], Nat.le_refl _, rfl, HHP.out, by simp, hU0, hP0, Only.refl _ _⟩
  case round =>
    obtain ⟨L, hk, rfl, hH, hLl, hup, hpm, hon⟩ := hrel
    have HH := Lib.hid hH
    have HUP := Lib.hid hup
    have HPM := Lib.hid hpm
    have HON := Lib.hid hon
    have hc1 : wr.cell? ⟨b, 1, none⟩ = some (.slice (some ⟨g, 0, none⟩) (l.length + 1) c1) := by have h := hH.1; simp [World.cell?, h]
    have hc0 : wr.cell? ⟨b, 0, none⟩ = some (.func (.func 110) #[] #[]) := by have h := hH.1; simp [World.cell?, h]
    clear hH hup hpm hon hc13 hU0 hP0 HHP
    cases gk with
    | zero =>
      go_wp2_with fail
      go_end0
      exact ⟨rfl, _, L, ⟨HH.out, HUP.out.stop (.inl rfl), HOB.out.trans2K HON.out (fun k hk h => h.imp id fun h => (HFR.out k h).resolve_right (by omega)), HFR.out⟩, HPM.out⟩
    | succ k1 =>
      obtain ⟨i, hi⟩ : ∃ i, k1 + 1 = i := ⟨_, rfl⟩
      obtain ⟨u, hu⟩ : ∃ u, k1 / 2 = u := ⟨_, rfl⟩
      have hui : (i - 1) / 2 = u := by omega
      rw [hi] at HUP hk ⊢
      have hpos : decide (0 < i) = true := decide_eq_true (by omega)
      have hwr1 : IntKind.i64.wrap ((i : Int) - 1) = (k1 : Int) := by rw [i64_w, show ((i : Int) - 1) = (k1 : Int) by omega]; exact wrap64_id _ (by omega)
      have hdiv : (k1 : Int).tdiv 2 = (u : Int) := by rw [Int.tdiv_eq_ediv_of_nonneg (by omega)]; omega
      have hwr2 : IntKind.i64.wrap (u : Int) = (u : Int) := by rw [i64_w]; exact wrap64_id _ (by omega)
      obtain ⟨g', ⟨xi0, xi1, xi2, xi3⟩, hg', _, _, hxi, hci, hfi, _⟩ := HH.out.2.1.at_ quad_q i (by omega) (by omega)
      injection hg' with hg'
      injection hg' with hg'
      subst hg'
      obtain ⟨g', ⟨xu0, xu1, xu2, xu3⟩, hg', _, _, hxu, hcu, hfu, _⟩ := HH.out.2.1.at_ quad_q u (by omega) (by omega)
      injection hg' with hg'
      injection hg' with hg'
      subst hg'
      have hci0 : wr.cell? ⟨g, i * 4, none⟩ = some (.int .i64 xi0) := hci 0 (by omega)
      have hci1 : wr.cell? ⟨g, i * 4 + 1, none⟩ = some (.int .i64 xi1) := hci 1 (by omega)
      have hci2 : wr.cell? ⟨g, i * 4 + 2, none⟩ = some (.int .i64 xi2) := hci 2 (by omega)
      have hci3 : wr.cell? ⟨g, i * 4 + 3, none⟩ = some (.int .i64 xi3) := hci 3 (by omega)
      have hcu0 : wr.cell? ⟨g, u * 4, none⟩ = some (.int .i64 xu0) := hcu 0 (by omega)
      have hcu1 : wr.cell? ⟨g, u * 4 + 1, none⟩ = some (.int .i64 xu1) := hcu 1 (by omega)
      have hcu2 : wr.cell? ⟨g, u * 4 + 2, none⟩ = some (.int .i64 xu2) := hcu 2 (by omega)
      have hcu3 : wr.cell? ⟨g, u * 4 + 3, none⟩ = some (.int .i64 xu3) := hcu 3 (by omega)
      have HXI := Lib.hid hxi
      have HXU := Lib.hid hxu
      clear hci hcu hfi hfu
      have HI := Lib.hid hi
      have HU := Lib.hid hui
      have bi : (i : Int) < (l.length : Int) + 1 := by omega
      have bu : (u : Int) < (l.length : Int) + 1 := by omega
      clear hxi hxu hi hu hui
      have hbs0 : Below wr.heap.size wr wr := Below.refl _ _
      obtain ⟨r, hr⟩ : ∃ r, ltK (xi0, xi1, xi2, xi3) (xu0, xu1, xu2, xu3) = r := ⟨_, rfl⟩
      have HR := Lib.hid hr
      clear hr
      cases r with
      | true =>
        go_wp2_with fail
        go_region_held3 (fun w' => w'.cell? ⟨b, 0, none⟩ = some (.func (.func 110) #[] #[]) ∧ w'.cell? ⟨b, 1, none⟩ = some (.slice (some ⟨g, 0, none⟩) (l.length + 1) c1) ∧ w'.cell? ⟨g, i * 4, none⟩ = some (.int .i64 xi0) ∧ w'.cell? ⟨g, i * 4 + 1, none⟩ = some (.int .i64 xi1) ∧ w'.cell? ⟨g, i * 4 + 2, none⟩ = some (.int .i64 xi2) ∧ w'.cell? ⟨g, i * 4 + 3, none⟩ = some (.int .i64 xi3) ∧ w'.cell? ⟨g, u * 4, none⟩ = some (.int .i64 xu0) ∧ w'.cell? ⟨g, u * 4 + 1, none⟩ = some (.int .i64 xu1) ∧ w'.cell? ⟨g, u * 4 + 2, none⟩ = some (.int .i64 xu2) ∧ w'.cell? ⟨g, u * 4 + 3, none⟩ = some (.int .i64 xu3) ∧ Below wr.heap.size wr w')
          (first | exact ⟨cell_below (B := wr.heap.size) (w := wr) (by first | ((repeat (first | assumption | exact Below.refl _ _ | apply below_drew1 | apply below_alloc1)); done)) hc0 (World.block_lt_of_cell? _ _ hc0), cell_below (B := wr.heap.size) (w := wr) (by first | ((repeat (first | assumption | exact Below.refl _ _ | apply below_drew1 | apply below_alloc1)); done)) hc1 (World.block_lt_of_cell? _ _ hc1), cell_below (B := wr.heap.size) (w := wr) (by first | ((repeat (first | assumption | exact Below.refl _ _ | apply below_drew1 | apply below_alloc1)); done)) hci0 (World.block_lt_of_cell? _ _ hci0), cell_below (B := wr.heap.size) (w := wr) (by first | ((repeat (first | assumption | exact Below.refl _ _ | apply below_drew1 | apply below_alloc1)); done)) hci1 (World.block_lt_of_cell? _ _ hci1), cell_below (B := wr.heap.size) (w := wr) (by first | ((repeat (first | assumption | exact Below.refl _ _ | apply below_drew1 | apply below_alloc1)); done)) hci2 (World.block_lt_of_cell? _ _ hci2), cell_below (B := wr.heap.size) (w := wr) (by first | ((repeat (first | assumption | exact Below.refl _ _ | apply below_drew1 | apply below_alloc1)); done)) hci3 (World.block_lt_of_cell? _ _ hci3), cell_below (B := wr.heap.size) (w := wr) (by first | ((repeat (first | assumption | exact Below.refl _ _ | apply below_drew1 | apply below_alloc1)); done)) hcu0 (World.block_lt_of_cell? _ _ hcu0), cell_below (B := wr.heap.size) (w := wr) (by first | ((repeat (first | assumption | exact Below.refl _ _ | apply below_drew1 | apply below_alloc1)); done)) hcu1 (World.block_lt_of_cell? _ _ hcu1), cell_below (B := wr.heap.size) (w := wr) (by first | ((repeat (first | assumption | exact Below.refl _ _ | apply below_drew1 | apply below_alloc1)); done)) hcu2 (World.block_lt_of_cell? _ _ hcu2), cell_below (B := wr.heap.size) (w := wr) (by first | ((repeat (first | assumption | exact Below.refl _ _ | apply below_drew1 | apply below_alloc1)); done)) hcu3 (World.block_lt_of_cell? _ _ hcu3), (by first | ((repeat (first | assumption | exact Below.refl _ _ | apply below_drew1 | apply below_alloc1)); done))⟩ | go_keep)
          (first
            | (go_at_call 110; go_split_ands; (with_reducible refine (LessK_calls xi0 xi1 xi2 xi3 xu0 xu1 xu2 xu3 _).mono ?_); rintro e wq ⟨he, hbq⟩; rw [HR.out] at he; subst he; have hbB : Below wr.heap.size wr wq := Below.after (by first | ((repeat (first | assumption | exact Below.refl _ _ | apply below_drew1 | apply below_alloc1)); done)) hbq))
        go_wp2_with fail
        have hiu : ¬ i = u := by have h1 := HI.out; have h2 := HU.out; omega
        have hui : ¬ u = i := by omega
        have hul : u ≤ l.length := by omega
        have hul2 : u < l.length + 1 := by omega
        have hil2 : i < l.length + 1 := by omega
        have hH2 : HpK wq b lo (.slice (some ⟨g, 0, none⟩) (l.length + 1) c1) L := HH.out.keep hbB
        have hsw := hH2.swap (x := (xi0, xi1, xi2, xi3)) (y := (xu0, xu1, xu2, xu3)) hil2 hul2
        have HSW := Lib.hid hsw
        obtain ⟨g', _, hg', _, _, _, _, hfq, _⟩ := hH2.2.1.at_ quad_q i (by omega) (by omega)
        injection hg' with hg'
        injection hg' with hg'
        subst hg'
        have hc1q : wq.cell? ⟨b, 1, none⟩ = some (.slice (some ⟨g, 0, none⟩) (l.length + 1) c1) := cell_below hbB hc1 (World.block_lt_of_cell? _ _ hc1)
        have hq1 : wq.cell? ⟨g, i * 4, none⟩ = some (.int .i64 xi0) := cell_below hbB hci0 (World.block_lt_of_cell? _ _ hci0)
        have hq2 : wq.cell? ⟨g, i * 4 + 1, none⟩ = some (.int .i64 xi1) := cell_below hbB hci1 (World.block_lt_of_cell? _ _ hci1)
        have hq5 : wq.cell? ⟨g, i * 4 + 2, none⟩ = some (.int .i64 xi2) := cell_below hbB hci2 (World.block_lt_of_cell? _ _ hci2)
        have hq6 : wq.cell? ⟨g, u * 4 + 2, none⟩ = some (.int .i64 xu2) := cell_below hbB hcu2 (World.block_lt_of_cell? _ _ hcu2)
        have hq3 : wq.cell? ⟨g, u * 4, none⟩ = some (.int .i64 xu0) := cell_below hbB hcu0 (World.block_lt_of_cell? _ _ hcu0)
        have hq4 : wq.cell? ⟨g, u * 4 + 1, none⟩ = some (.int .i64 xu1) := cell_below hbB hcu1 (World.block_lt_of_cell? _ _ hcu1)
        have hf1 := hfq (i * 4)
        have hf2 := hfq (i * 4 + 1)
        have hf3 := hfq (u * 4)
        have hf4 := hfq (u * 4 + 1)
        have hf5 := hfq (i * 4 + 2)
        have hf6 := hfq (u * 4 + 2)
        have hf7 := hfq (i * 4 + 3)
        have hf8 := hfq (u * 4 + 3)
        have n00a : ¬ i * 4 = u * 4 := by omega
        have n00b : ¬ u * 4 = i * 4 := by omega
        have n01a : ¬ i * 4 = u * 4 + 1 := by omega
        have n01b : ¬ u * 4 + 1 = i * 4 := by omega
        have n02a : ¬ i * 4 = u * 4 + 2 := by omega
        have n02b : ¬ u * 4 + 2 = i * 4 := by omega
        have n03a : ¬ i * 4 = u * 4 + 3 := by omega
        have n03b : ¬ u * 4 + 3 = i * 4 := by omega
        have n10a : ¬ i * 4 + 1 = u * 4 := by omega
        have n10b : ¬ u * 4 = i * 4 + 1 := by omega
        have n11a : ¬ i * 4 + 1 = u * 4 + 1 := by omega
        have n11b : ¬ u * 4 + 1 = i * 4 + 1 := by omega
        have n12a : ¬ i * 4 + 1 = u * 4 + 2 := by omega
        have n12b : ¬ u * 4 + 2 = i * 4 + 1 := by omega
        have n13a : ¬ i * 4 + 1 = u * 4 + 3 := by omega
        have n13b : ¬ u * 4 + 3 = i * 4 + 1 := by omega
        have n20a : ¬ i * 4 + 2 = u * 4 := by omega
        have n20b : ¬ u * 4 = i * 4 + 2 := by omega
        have n21a : ¬ i * 4 + 2 = u * 4 + 1 := by omega
        have n21b : ¬ u * 4 + 1 = i * 4 + 2 := by omega
        have n22a : ¬ i * 4 + 2 = u * 4 + 2 := by omega
        have n22b : ¬ u * 4 + 2 = i * 4 + 2 := by omega
        have n23a : ¬ i * 4 + 2 = u * 4 + 3 := by omega
        have n23b : ¬ u * 4 + 3 = i * 4 + 2 := by omega
        have n30a : ¬ i * 4 + 3 = u * 4 := by omega
        have n30b : ¬ u * 4 = i * 4 + 3 := by omega
        have n31a : ¬ i * 4 + 3 = u * 4 + 1 := by omega
        have n31b : ¬ u * 4 + 1 = i * 4 + 3 := by omega
        have n32a : ¬ i * 4 + 3 = u * 4 + 2 := by omega
        have n32b : ¬ u * 4 + 2 = i * 4 + 3 := by omega
        have n33a : ¬ i * 4 + 3 = u * 4 + 3 := by omega
        have n33b : ¬ u * 4 + 3 = i * 4 + 3 := by omega
        have HBQ := Lib.hid hbB
        clear hc0 hc1 hci0 hci1 hci2 hci3 hcu0 hcu1 hcu2 hcu3 hsw hH2 hfq hbB hbq hbs0
        go_region
        go_wp2_with fail
        go_roundg u
        case measure => have h1 := HI.out; have h2 := HU.out; omega
        case rel =>
          refine ⟨swp L i u (xu0, xu1, xu2, xu3) (xi0, xi1, xi2, xi3), hul, rfl, HSW.out.1, by rw [swp_length]; exact hLl, ?_, (swp_perm HXI.out HXU.out).trans HPM.out, HON.out.trans (Only.trans (Only.of_below HBQ.out) HSW.out.2)⟩
          have h1 := HI.out
          have h2 := HU.out
          rw [← h2]
          exact HUP.out.swap ltK_wo (by omega) HXI.out (by rw [h2]; exact HXU.out) HR.out
      | false =>
        go_wp2_with fail
        go_region_held3 (fun w' => w'.cell? ⟨b, 0, none⟩ = some (.func (.func 110) #[] #[]) ∧ w'.cell? ⟨b, 1, none⟩ = some (.slice (some ⟨g, 0, none⟩) (l.length + 1) c1) ∧ w'.cell? ⟨g, i * 4, none⟩ = some (.int .i64 xi0) ∧ w'.cell? ⟨g, i * 4 + 1, none⟩ = some (.int .i64 xi1) ∧ w'.cell? ⟨g, i * 4 + 2, none⟩ = some (.int .i64 xi2) ∧ w'.cell? ⟨g, i * 4 + 3, none⟩ = some (.int .i64 xi3) ∧ w'.cell? ⟨g, u * 4, none⟩ = some (.int .i64 xu0) ∧ w'.cell? ⟨g, u * 4 + 1, none⟩ = some (.int .i64 xu1) ∧ w'.cell? ⟨g, u * 4 + 2, none⟩ = some (.int .i64 xu2) ∧ w'.cell? ⟨g, u * 4 + 3, none⟩ = some (.int .i64 xu3) ∧ Below wr.heap.size wr w')
          (first | exact ⟨cell_below (B := wr.heap.size) (w := wr) (by first | ((repeat (first | assumption | exact Below.refl _ _ | apply below_drew1 | apply below_alloc1)); done)) hc0 (World.block_lt_of_cell? _ _ hc0), cell_below (B := wr.heap.size) (w := wr) (by first | ((repeat (first | assumption | exact Below.refl _ _ | apply below_drew1 | apply below_alloc1)); done)) hc1 (World.block_lt_of_cell? _ _ hc1), cell_below (B := wr.heap.size) (w := wr) (by first | ((repeat (first | assumption | exact Below.refl _ _ | apply below_drew1 | apply below_alloc1)); done)) hci0 (World.block_lt_of_cell? _ _ hci0), cell_below (B := wr.heap.size) (w := wr) (by first | ((repeat (first | assumption | exact Below.refl _ _ | apply below_drew1 | apply below_alloc1)); done)) hci1 (World.block_lt_of_cell? _ _ hci1), cell_below (B := wr.heap.size) (w := wr) (by first | ((repeat (first | assumption | exact Below.refl _ _ | apply below_drew1 | apply below_alloc1)); done)) hci2 (World.block_lt_of_cell? _ _ hci2), cell_below (B := wr.heap.size) (w := wr) (by first | ((repeat (first | assumption | exact Below.refl _ _ | apply below_drew1 | apply below_alloc1)); done)) hci3 (World.block_lt_of_cell? _ _ hci3), cell_below (B := wr.heap.size) (w := wr) (by first | ((repeat (first | assumption | exact Below.refl _ _ | apply below_drew1 | apply below_alloc1)); done)) hcu0 (World.block_lt_of_cell? _ _ hcu0), cell_below (B := wr.heap.size) (w := wr) (by first | ((repeat (first | assumption | exact Below.refl _ _ | apply below_drew1 | apply below_alloc1)); done)) hcu1 (World.block_lt_of_cell? _ _ hcu1), cell_below (B := wr.heap.size) (w := wr) (by first | ((repeat (first | assumption | exact Below.refl _ _ | apply below_drew1 | apply below_alloc1)); done)) hcu2 (World.block_lt_of_cell? _ _ hcu2), cell_below (B := wr.heap.size) (w := wr) (by first | ((repeat (first | assumption | exact Below.refl _ _ | apply below_drew1 | apply below_alloc1)); done)) hcu3 (World.block_lt_of_cell? _ _ hcu3), (by first | ((repeat (first | assumption | exact Below.refl _ _ | apply below_drew1 | apply below_alloc1)); done))⟩ | go_keep)
          (first
            | (go_at_call 110; go_split_ands; (with_reducible refine (LessK_calls xi0 xi1 xi2 xi3 xu0 xu1 xu2 xu3 _).mono ?_); rintro e wq ⟨he, hbq⟩; rw [HR.out] at he; subst he; have hbB : Below wr.heap.size wr wq := Below.after (by first | ((repeat (first | assumption | exact Below.refl _ _ | apply below_drew1 | apply below_alloc1)); done)) hbq))
        go_wp2_with fail
        go_end0
        refine ⟨rfl, _, L, ⟨HH.out.keep hbB, HUP.out.stop (.inr fun a b' ha hb' => ?_), HOB.out.trans2K (HON.out.trans (Only.of_below hbB)) (fun k hk h => h.imp id fun h => (HFR.out k h).resolve_right (by omega)), HFR.out⟩, HPM.out⟩
        have h2 := HU.out
        rw [h2, HXU.out] at hb'
        rw [HXI.out] at ha
        injection ha with ha
        injection hb' with hb'
        subst ha hb'
        exact HR.out
end Go.Proofs.YticdmglondpgaaaGreat

/-! ## Heap2K: The heap of things of two whole numbers (api.Result): Len, Peek. Condition: the heap's blocks are as the word HpK says; no more than a million things. -/
namespace Go.Proofs.YticdmglondpgaaaGreat
open Go.RowKit
set_option linter.unusedVariables false
set_option maxRecDepth 100000
set_option linter.unusedSimpArgs false

theorem PeekK_none (b lo : Nat) (v : Value) (w : World) (h : HpK w b lo v []) :
    Calls Tryz.prog 155 #[.pointer (some ⟨b, 0, none⟩)] w fun e w' => e = .returned (.tuple #[.agg #[.int .i64 0, .int .i64 0, .int .i64 0, .int .i64 0], .bool false]) ∧ Below w.heap.size w w' := by
  obtain ⟨h1, h2, h3, h4⟩ := h
  obtain ⟨A, c, rfl, hlc⟩ := h2.shape
  have hc1 : w.cell? ⟨b, 1, none⟩ = some (.slice A 0 c) := by simp [World.cell?, h1]
  have gc1 := fun o => (World.cell?_alloc_lt (o := o) w _ (World.block_lt_of_cell? _ _ hc1)).trans hc1
  clear h1 h2
  go_enter Tryz.func155, Tryz.ntmps155
  go_wp2_with fail
  refine bodyPost_ret ?_ rfl ⟨rfl, by repeat (first | exact Below.refl _ _ | apply below_drew1 | apply below_alloc1)⟩
  rw [results_cell_tmp rfl]
  go_simp
theorem PeekK_some (b lo : Nat) (v : Value) (x0 x1 x2 x3 : Int) (l : List (Int × Int × Int × Int)) (w : World) (h : HpK w b lo v ((x0, x1, x2, x3) :: l)) :
    Calls Tryz.prog 155 #[.pointer (some ⟨b, 0, none⟩)] w fun e w' => e = .returned (.tuple #[.agg #[.int .i64 x0, .int .i64 x1, .int .i64 x2, .int .i64 x3], .bool true]) ∧ Below w.heap.size w w' := by
  obtain ⟨h1, h2, h3, h4⟩ := h
  obtain ⟨A, c, rfl, hlc⟩ := h2.shape
  obtain ⟨g, x, rfl, _, _, hx, hc0, hf0, _⟩ := h2.at_ quad_q 0 (by simp) (by omega)
  have hx' : (x0, x1, x2, x3) = x := by simpa using hx
  subst hx'
  have hc1 : w.cell? ⟨b, 1, none⟩ = some (.slice (some ⟨g, 0, none⟩) (l.length + 1) c) := by simp [World.cell?, h1]
  have hcx0 : w.cell? ⟨g, 0, none⟩ = some (.int .i64 x0) := by simpa [quad] using hc0 0 (by omega)
  have hcx1 : w.cell? ⟨g, 1, none⟩ = some (.int .i64 x1) := by simpa [quad] using hc0 1 (by omega)
  have hcx2 : w.cell? ⟨g, 2, none⟩ = some (.int .i64 x2) := by simpa [quad] using hc0 2 (by omega)
  have hcx3 : w.cell? ⟨g, 3, none⟩ = some (.int .i64 x3) := by simpa [quad] using hc0 3 (by omega)
  have gx0 := fun o => (World.cell?_alloc_lt (o := o) w _ (World.block_lt_of_cell? _ _ hcx0)).trans hcx0
  have gx1 := fun o => (World.cell?_alloc_lt (o := o) w _ (World.block_lt_of_cell? _ _ hcx1)).trans hcx1
  have gx2 := fun o => (World.cell?_alloc_lt (o := o) w _ (World.block_lt_of_cell? _ _ hcx2)).trans hcx2
  have gx3 := fun o => (World.cell?_alloc_lt (o := o) w _ (World.block_lt_of_cell? _ _ hcx3)).trans hcx3
  have gc1 := fun o => (World.cell?_alloc_lt (o := o) w _ (World.block_lt_of_cell? _ _ hc1)).trans hc1
  have hne : (((l.length + 1 : Nat) : Int) == 0) = false := by simp; omega
  have hb0 : (0 : Int) < (l.length : Int) + 1 := by omega
  clear h1 h2 hc0 hx hf0
  go_enter Tryz.func155, Tryz.ntmps155
  go_wp2_with fail
  refine bodyPost_ret ?_ rfl ⟨rfl, by repeat (first | exact Below.refl _ _ | apply below_drew1 | apply below_alloc1)⟩
  rw [results_cell_tmp rfl]
  go_simp
end Go.Proofs.YticdmglondpgaaaGreat

/-! ## Heap3K: The heap of things of two whole numbers (api.Result): sink. Condition: the heap's blocks are as the word HpK says; no more than a million things. -/
namespace Go.Proofs.YticdmglondpgaaaGreat
open Go.RowKit
set_option linter.unusedVariables false
set_option maxRecDepth 100000
set_option linter.unusedSimpArgs false

theorem pair2K (a b : Int) (w : World) : (Instr.index 313 (.agg #[.int .i64 a, .int .i64 b]) (.int .i64 0)).run Tryz.prog w = .ok (.int .i64 a) w ∧ (Instr.index 313 (.agg #[.int .i64 a, .int .i64 b]) (.int .i64 1)).run Tryz.prog w = .ok (.int .i64 b) w := by
  constructor <;> simp [Instr.index, asIntOf, run_underlying Tryz.underlying313, part, isAgg, run_underlying Tryz.underlying3, go_sem]
set_option maxHeartbeats 6400000 in
set_option maxRecDepth 1000000 in
theorem sinkK_calls (b lo : Nat) (A : Option Addr) (n c : Nat) (l : List (Int × Int × Int × Int)) (w : World) (h : HpK w b lo (.slice A n c) l) (hln : l.length = n) (hok : DownOk ltK l 0) (hl : n ≤ 1000000) :
    Calls Tryz.prog 156 #[.pointer (some ⟨b, 0, none⟩)] w fun e w' => e = .returned (.tuple #[]) ∧ ∃ l', HpK w' b lo (.slice A n c) l' ∧ HeapOk ltK l' ∧ l'.Perm l ∧ Only (HpBK (.slice A n c) b) w w' := by
  have HH := Lib.hid h
  have HOK := Lib.hid hok
  clear h hok
  go_enter Tryz.func156, Tryz.ntmps156
  go_wp2_with fail
  go_loopg [2] n (fun kq v2 w' => ∃ (k : Nat) (L : List (Int × Int × Int × Int)), n ≤ k + kq ∧ k ≤ n ∧ v2 = .int .i64 ((k : Nat) : Int) ∧ HpK w' b lo (.slice A n c) L ∧ L.length = n ∧ DownOk ltK L k ∧ L.Perm l ∧ Only (HpBK (.slice A n c) b) w w')
  case atStart => exact ⟨0, l, by omega, by omega, rfl, HH.out, hln, HOK.out, List.Perm.refl _, Only.refl _ _⟩
  case round =>
    clear HH HOK hln
    obtain ⟨k, L, hkq, hkn, rfl, hH, hLl, hdn, hpm, hon⟩ := hrel
    obtain ⟨m, hm⟩ : ∃ m, 2 * k = m := ⟨_, rfl⟩
    obtain ⟨k1, hk1⟩ : ∃ m, 2 * k + 1 = m := ⟨_, rfl⟩
    obtain ⟨k2, hk2⟩ : ∃ m, 2 * k + 2 = m := ⟨_, rfl⟩
    have hw0 : IntKind.i64.wrap (2 * (k : Int)) = (m : Int) := by rw [i64_w, show 2 * (k : Int) = (m : Int) by omega]; exact wrap64_id _ (by omega)
    have hw1 : IntKind.i64.wrap ((m : Int) + 1) = (k1 : Int) := by rw [i64_w, show (m : Int) + 1 = (k1 : Int) by omega]; exact wrap64_id _ (by omega)
    have hw2 : IntKind.i64.wrap ((m : Int) + 2) = (k2 : Int) := by rw [i64_w, show (m : Int) + 2 = (k2 : Int) by omega]; exact wrap64_id _ (by omega)
    obtain ⟨b1, hb1⟩ : ∃ m, bstF ltK (0, 0, 0, 0) L n k k1 = m := ⟨_, rfl⟩
    obtain ⟨b2, hb2⟩ : ∃ m, bstF ltK (0, 0, 0, 0) L n b1 k2 = m := ⟨_, rfl⟩
    have HH0 := Lib.hid hH
    have HDN := Lib.hid hdn
    have HPM := Lib.hid hpm
    have HON0 := Lib.hid hon
    have HM := Lib.hid hm
    have HK1 := Lib.hid hk1
    have HK2 := Lib.hid hk2
    have HB1 := Lib.hid hb1
    have HB2 := Lib.hid hb2
    have hix := pair2K (k1 : Int) (k2 : Int)
    have hx0 := fun w => (hix w).1
    have hx1 := fun w => (hix w).2
    clear hix
    clear hH hdn hpm hon hm hk1 hk2 hb1 hb2
    go_wp2_with fail
    go_loopg [3, 14] 2 (fun gq v3 v14 w' => ((gq = 2 ∧ v14 = .int .i64 0 ∧ v3 = .int .i64 (k : Int)) ∨ (gq = 1 ∧ v14 = .int .i64 1 ∧ v3 = .int .i64 (b1 : Int)) ∨ (gq = 0 ∧ v14 = .int .i64 2 ∧ v3 = .int .i64 (b2 : Int))) ∧ Below wr.heap.size wr w')
    case atStart => exact ⟨.inl ⟨rfl, rfl, rfl⟩, Below.refl _ _⟩
    case round =>
      obtain ⟨hcase, hbk⟩ := hrel
      have HH := Lib.hid (HH0.out.keep hbk)
      have HON := Lib.hid (HON0.out.trans (Only.of_below hbk))
      have HBK := Lib.hid hbk
      have hc1 : wr.cell? ⟨b, 1, none⟩ = some (.slice A n c) := by have h := HH.out.1; simp [World.cell?, h]
      have hc0 : wr.cell? ⟨b, 0, none⟩ = some (.func (.func 110) #[] #[]) := by have h := HH.out.1; simp [World.cell?, h]
      clear HH0 HON0 hbk
      rcases hcase with ⟨rfl, rfl, rfl⟩ | ⟨rfl, rfl, rfl⟩ | ⟨rfl, rfl, rfl⟩
      · skip
        by_cases hKn : k1 < n
        · have hBn : k < n := by have := HK1.out; omega
          obtain ⟨g, ⟨xk0, xk1, xk2, xk3⟩, hgA, _, _, hxk, hck, hfk, _⟩ := HH.out.2.1.at_ quad_q k1 hKn (by omega)
          subst hgA
          obtain ⟨g', ⟨xb0, xb1, xb2, xb3⟩, hg', _, _, hxb, hcb, _, _⟩ := HH.out.2.1.at_ quad_q k hBn (by omega)
          injection hg' with hg'
          injection hg' with hg'
          subst hg'
          have hck0 : wr.cell? ⟨g, k1 * 4, none⟩ = some (.int .i64 xk0) := hck 0 (by omega)
          have hck1 : wr.cell? ⟨g, k1 * 4 + 1, none⟩ = some (.int .i64 xk1) := hck 1 (by omega)
          have hck2 : wr.cell? ⟨g, k1 * 4 + 2, none⟩ = some (.int .i64 xk2) := hck 2 (by omega)
          have hck3 : wr.cell? ⟨g, k1 * 4 + 3, none⟩ = some (.int .i64 xk3) := hck 3 (by omega)
          have hcb0 : wr.cell? ⟨g, k * 4, none⟩ = some (.int .i64 xb0) := hcb 0 (by omega)
          have hcb1 : wr.cell? ⟨g, k * 4 + 1, none⟩ = some (.int .i64 xb1) := hcb 1 (by omega)
          have hcb2 : wr.cell? ⟨g, k * 4 + 2, none⟩ = some (.int .i64 xb2) := hcb 2 (by omega)
          have hcb3 : wr.cell? ⟨g, k * 4 + 3, none⟩ = some (.int .i64 xb3) := hcb 3 (by omega)
          have gK : L.getD k1 (0, 0, 0, 0) = (xk0, xk1, xk2, xk3) := by simp [List.getD, hxk]
          have gB : L.getD k (0, 0, 0, 0) = (xb0, xb1, xb2, xb3) := by simp [List.getD, hxb]
          have bK : (k1 : Int) < (n : Int) := by omega
          have bB : (k : Int) < (n : Int) := by omega
          obtain ⟨r, hr⟩ : ∃ r, ltK (xk0, xk1, xk2, xk3) (xb0, xb1, xb2, xb3) = r := ⟨_, rfl⟩
          have HR := Lib.hid hr
          have hbs0 : Below wr.heap.size wr wr := Below.refl _ _
          clear hck hcb hfk hxk hxb
          cases r with
          | true =>
            have hR : b1 = k1 := by rw [← HB1.out]; unfold bstF; rw [if_pos ⟨hKn, by rw [gK, gB]; exact hr⟩]
            have HRR := Lib.hid hR
            clear hR gK gB hr
            go_wp2_with fail
            go_region_held3 (fun w' => w'.cell? ⟨b, 0, none⟩ = some (.func (.func 110) #[] #[]) ∧ w'.cell? ⟨b, 1, none⟩ = some (.slice (some ⟨g, 0, none⟩) n c) ∧ w'.cell? ⟨g, k1 * 4, none⟩ = some (.int .i64 xk0) ∧ w'.cell? ⟨g, k1 * 4 + 1, none⟩ = some (.int .i64 xk1) ∧ w'.cell? ⟨g, k1 * 4 + 2, none⟩ = some (.int .i64 xk2) ∧ w'.cell? ⟨g, k1 * 4 + 3, none⟩ = some (.int .i64 xk3) ∧ w'.cell? ⟨g, k * 4, none⟩ = some (.int .i64 xb0) ∧ w'.cell? ⟨g, k * 4 + 1, none⟩ = some (.int .i64 xb1) ∧ w'.cell? ⟨g, k * 4 + 2, none⟩ = some (.int .i64 xb2) ∧ w'.cell? ⟨g, k * 4 + 3, none⟩ = some (.int .i64 xb3) ∧ Below wr.heap.size wr w')
              (first | exact ⟨cell_below (B := wr.heap.size) (w := wr) (by first | ((repeat (first | assumption | exact Below.refl _ _ | apply below_drew1 | apply below_alloc1)); done)) hc0 (World.block_lt_of_cell? _ _ hc0), cell_below (B := wr.heap.size) (w := wr) (by first | ((repeat (first | assumption | exact Below.refl _ _ | apply below_drew1 | apply below_alloc1)); done)) hc1 (World.block_lt_of_cell? _ _ hc1), cell_below (B := wr.heap.size) (w := wr) (by first | ((repeat (first | assumption | exact Below.refl _ _ | apply below_drew1 | apply below_alloc1)); done)) hck0 (World.block_lt_of_cell? _ _ hck0), cell_below (B := wr.heap.size) (w := wr) (by first | ((repeat (first | assumption | exact Below.refl _ _ | apply below_drew1 | apply below_alloc1)); done)) hck1 (World.block_lt_of_cell? _ _ hck1), cell_below (B := wr.heap.size) (w := wr) (by first | ((repeat (first | assumption | exact Below.refl _ _ | apply below_drew1 | apply below_alloc1)); done)) hck2 (World.block_lt_of_cell? _ _ hck2), cell_below (B := wr.heap.size) (w := wr) (by first | ((repeat (first | assumption | exact Below.refl _ _ | apply below_drew1 | apply below_alloc1)); done)) hck3 (World.block_lt_of_cell? _ _ hck3), cell_below (B := wr.heap.size) (w := wr) (by first | ((repeat (first | assumption | exact Below.refl _ _ | apply below_drew1 | apply below_alloc1)); done)) hcb0 (World.block_lt_of_cell? _ _ hcb0), cell_below (B := wr.heap.size) (w := wr) (by first | ((repeat (first | assumption | exact Below.refl _ _ | apply below_drew1 | apply below_alloc1)); done)) hcb1 (World.block_lt_of_cell? _ _ hcb1), cell_below (B := wr.heap.size) (w := wr) (by first | ((repeat (first | assumption | exact Below.refl _ _ | apply below_drew1 | apply below_alloc1)); done)) hcb2 (World.block_lt_of_cell? _ _ hcb2), cell_below (B := wr.heap.size) (w := wr) (by first | ((repeat (first | assumption | exact Below.refl _ _ | apply below_drew1 | apply below_alloc1)); done)) hcb3 (World.block_lt_of_cell? _ _ hcb3), (by first | ((repeat (first | assumption | exact Below.refl _ _ | apply below_drew1 | apply below_alloc1)); done))⟩ | go_keep)
              (first
                | (go_at_call 110; go_split_ands; (with_reducible refine (LessK_calls xk0 xk1 xk2 xk3 xb0 xb1 xb2 xb3 _).mono ?_); rintro e wq ⟨he, hbq⟩; rw [HR.out] at he; subst he; have hbB : Below wr.heap.size wr wq := Below.after (by first | ((repeat (first | assumption | exact Below.refl _ _ | apply below_drew1 | apply below_alloc1)); done)) hbq))
            go_wp2_with fail
            go_roundg 1
            case measure => omega
            case rel => exact ⟨.inr (.inl ⟨rfl, rfl, by rw [HRR.out]⟩), HBK.out.after hbB⟩
          | false =>
            have hR : b1 = k := by rw [← HB1.out]; unfold bstF; rw [if_neg fun h => by have h2 := h.2; rw [gK, gB] at h2; exact absurd (hr.symm.trans h2) (by simp)]
            have HRR := Lib.hid hR
            clear hR gK gB hr
            go_wp2_with fail
            go_region_held3 (fun w' => w'.cell? ⟨b, 0, none⟩ = some (.func (.func 110) #[] #[]) ∧ w'.cell? ⟨b, 1, none⟩ = some (.slice (some ⟨g, 0, none⟩) n c) ∧ w'.cell? ⟨g, k1 * 4, none⟩ = some (.int .i64 xk0) ∧ w'.cell? ⟨g, k1 * 4 + 1, none⟩ = some (.int .i64 xk1) ∧ w'.cell? ⟨g, k1 * 4 + 2, none⟩ = some (.int .i64 xk2) ∧ w'.cell? ⟨g, k1 * 4 + 3, none⟩ = some (.int .i64 xk3) ∧ w'.cell? ⟨g, k * 4, none⟩ = some (.int .i64 xb0) ∧ w'.cell? ⟨g, k * 4 + 1, none⟩ = some (.int .i64 xb1) ∧ w'.cell? ⟨g, k * 4 + 2, none⟩ = some (.int .i64 xb2) ∧ w'.cell? ⟨g, k * 4 + 3, none⟩ = some (.int .i64 xb3) ∧ Below wr.heap.size wr w')
              (first | exact ⟨cell_below (B := wr.heap.size) (w := wr) (by first | ((repeat (first | assumption | exact Below.refl _ _ | apply below_drew1 | apply below_alloc1)); done)) hc0 (World.block_lt_of_cell? _ _ hc0), cell_below (B := wr.heap.size) (w := wr) (by first | ((repeat (first | assumption | exact Below.refl _ _ | apply below_drew1 | apply below_alloc1)); done)) hc1 (World.block_lt_of_cell? _ _ hc1), cell_below (B := wr.heap.size) (w := wr) (by first | ((repeat (first | assumption | exact Below.refl _ _ | apply below_drew1 | apply below_alloc1)); done)) hck0 (World.block_lt_of_cell? _ _ hck0), cell_below (B := wr.heap.size) (w := wr) (by first | ((repeat (first | assumption | exact Below.refl _ _ | apply below_drew1 | apply below_alloc1)); done)) hck1 (World.block_lt_of_cell? _ _ hck1), cell_below (B := wr.heap.size) (w := wr) (by first | ((repeat (first | assumption | exact Below.refl _ _ | apply below_drew1 | apply below_alloc1)); done)) hck2 (World.block_lt_of_cell? _ _ hck2), cell_below (B := wr.heap.size) (w := wr) (by first | ((repeat (first | assumption | exact Below.refl _ _ | apply below_drew1 | apply below_alloc1)); done)) hck3 (World.block_lt_of_cell? _ _ hck3), cell_below (B := wr.heap.size) (w := wr) (by first | ((repeat (first | assumption | exact Below.refl _ _ | apply below_drew1 | apply below_alloc1)); done)) hcb0 (World.block_lt_of_cell? _ _ hcb0), cell_below (B := wr.heap.size) (w := wr) (by first | ((repeat (first | assumption | exact Below.refl _ _ | apply below_drew1 | apply below_alloc1)); done)) hcb1 (World.block_lt_of_cell? _ _ hcb1), cell_below (B := wr.heap.size) (w := wr) (by first | ((repeat (first | assumption | exact Below.refl _ _ | apply below_drew1 | apply below_alloc1)); done)) hcb2 (World.block_lt_of_cell? _ _ hcb2), cell_below (B := wr.heap.size) (w := wr) (by first | ((repeat (first | assumption | exact Below.refl _ _ | apply below_drew1 | apply below_alloc1)); done)) hcb3 (World.block_lt_of_cell? _ _ hcb3), (by first | ((repeat (first | assumption | exact Below.refl _ _ | apply below_drew1 | apply below_alloc1)); done))⟩ | go_keep)
              (first
                | (go_at_call 110; go_split_ands; (with_reducible refine (LessK_calls xk0 xk1 xk2 xk3 xb0 xb1 xb2 xb3 _).mono ?_); rintro e wq ⟨he, hbq⟩; rw [HR.out] at he; subst he; have hbB : Below wr.heap.size wr wq := Below.after (by first | ((repeat (first | assumption | exact Below.refl _ _ | apply below_drew1 | apply below_alloc1)); done)) hbq))
            go_wp2_with fail
            go_roundg 1
            case measure => omega
            case rel => exact ⟨.inr (.inl ⟨rfl, rfl, by rw [HRR.out]⟩), HBK.out.after hbB⟩
        · have hR : b1 = k := by rw [← HB1.out]; unfold bstF; rw [if_neg fun h => hKn h.1]
          have hKn' : decide ((k1 : Int) < (n : Int)) = false := decide_eq_false (by omega)
          have HRR := Lib.hid hR
          clear hR
          go_wp2_with fail
          go_quiet (fail)
          go_wp2_with fail
          go_roundg 1
          case measure => omega
          case rel => exact ⟨.inr (.inl ⟨rfl, rfl, by rw [HRR.out]⟩), HBK.out.after (below_drewN_self _ _)⟩
      · have hb1k : b1 < n ∨ b1 = k := by rw [← HB1.out]; exact bstF_lt (by have := HK1.out; omega)
        by_cases hKn : k2 < n
        · have hBn : b1 < n := by have := HK2.out; omega
          obtain ⟨g, ⟨xk0, xk1, xk2, xk3⟩, hgA, _, _, hxk, hck, hfk, _⟩ := HH.out.2.1.at_ quad_q k2 hKn (by omega)
          subst hgA
          obtain ⟨g', ⟨xb0, xb1, xb2, xb3⟩, hg', _, _, hxb, hcb, _, _⟩ := HH.out.2.1.at_ quad_q b1 hBn (by omega)
          injection hg' with hg'
          injection hg' with hg'
          subst hg'
          have hck0 : wr.cell? ⟨g, k2 * 4, none⟩ = some (.int .i64 xk0) := hck 0 (by omega)
          have hck1 : wr.cell? ⟨g, k2 * 4 + 1, none⟩ = some (.int .i64 xk1) := hck 1 (by omega)
          have hck2 : wr.cell? ⟨g, k2 * 4 + 2, none⟩ = some (.int .i64 xk2) := hck 2 (by omega)
          have hck3 : wr.cell? ⟨g, k2 * 4 + 3, none⟩ = some (.int .i64 xk3) := hck 3 (by omega)
          have hcb0 : wr.cell? ⟨g, b1 * 4, none⟩ = some (.int .i64 xb0) := hcb 0 (by omega)
          have hcb1 : wr.cell? ⟨g, b1 * 4 + 1, none⟩ = some (.int .i64 xb1) := hcb 1 (by omega)
          have hcb2 : wr.cell? ⟨g, b1 * 4 + 2, none⟩ = some (.int .i64 xb2) := hcb 2 (by omega)
          have hcb3 : wr.cell? ⟨g, b1 * 4 + 3, none⟩ = some (.int .i64 xb3) := hcb 3 (by omega)
          have gK : L.getD k2 (0, 0, 0, 0) = (xk0, xk1, xk2, xk3) := by simp [List.getD, hxk]
          have gB : L.getD b1 (0, 0, 0, 0) = (xb0, xb1, xb2, xb3) := by simp [List.getD, hxb]
          have bK : (k2 : Int) < (n : Int) := by omega
          have bB : (b1 : Int) < (n : Int) := by omega
          obtain ⟨r, hr⟩ : ∃ r, ltK (xk0, xk1, xk2, xk3) (xb0, xb1, xb2, xb3) = r := ⟨_, rfl⟩
          have HR := Lib.hid hr
          have hbs0 : Below wr.heap.size wr wr := Below.refl _ _
          clear hck hcb hfk hxk hxb
          cases r with
          | true =>
            have hR : b2 = k2 := by rw [← HB2.out]; unfold bstF; rw [if_pos ⟨hKn, by rw [gK, gB]; exact hr⟩]
            have HRR := Lib.hid hR
            clear hR gK gB hr
            go_wp2_with fail
            go_region_held3 (fun w' => w'.cell? ⟨b, 0, none⟩ = some (.func (.func 110) #[] #[]) ∧ w'.cell? ⟨b, 1, none⟩ = some (.slice (some ⟨g, 0, none⟩) n c) ∧ w'.cell? ⟨g, k2 * 4, none⟩ = some (.int .i64 xk0) ∧ w'.cell? ⟨g, k2 * 4 + 1, none⟩ = some (.int .i64 xk1) ∧ w'.cell? ⟨g, k2 * 4 + 2, none⟩ = some (.int .i64 xk2) ∧ w'.cell? ⟨g, k2 * 4 + 3, none⟩ = some (.int .i64 xk3) ∧ w'.cell? ⟨g, b1 * 4, none⟩ = some (.int .i64 xb0) ∧ w'.cell? ⟨g, b1 * 4 + 1, none⟩ = some (.int .i64 xb1) ∧ w'.cell? ⟨g, b1 * 4 + 2, none⟩ = some (.int .i64 xb2) ∧ w'.cell? ⟨g, b1 * 4 + 3, none⟩ = some (.int .i64 xb3) ∧ Below wr.heap.size wr w')
              (first | exact ⟨cell_below (B := wr.heap.size) (w := wr) (by first | ((repeat (first | assumption | exact Below.refl _ _ | apply below_drew1 | apply below_alloc1)); done)) hc0 (World.block_lt_of_cell? _ _ hc0), cell_below (B := wr.heap.size) (w := wr) (by first | ((repeat (first | assumption | exact Below.refl _ _ | apply below_drew1 | apply below_alloc1)); done)) hc1 (World.block_lt_of_cell? _ _ hc1), cell_below (B := wr.heap.size) (w := wr) (by first | ((repeat (first | assumption | exact Below.refl _ _ | apply below_drew1 | apply below_alloc1)); done)) hck0 (World.block_lt_of_cell? _ _ hck0), cell_below (B := wr.heap.size) (w := wr) (by first | ((repeat (first | assumption | exact Below.refl _ _ | apply below_drew1 | apply below_alloc1)); done)) hck1 (World.block_lt_of_cell? _ _ hck1), cell_below (B := wr.heap.size) (w := wr) (by first | ((repeat (first | assumption | exact Below.refl _ _ | apply below_drew1 | apply below_alloc1)); done)) hck2 (World.block_lt_of_cell? _ _ hck2), cell_below (B := wr.heap.size) (w := wr) (by first | ((repeat (first | assumption | exact Below.refl _ _ | apply below_drew1 | apply below_alloc1)); done)) hck3 (World.block_lt_of_cell? _ _ hck3), cell_below (B := wr.heap.size) (w := wr) (by first | ((repeat (first | assumption | exact Below.refl _ _ | apply below_drew1 | apply below_alloc1)); done)) hcb0 (World.block_lt_of_cell? _ _ hcb0), cell_below (B := wr.heap.size) (w := wr) (by first | ((repeat (first | assumption | exact Below.refl _ _ | apply below_drew1 | apply below_alloc1)); done)) hcb1 (World.block_lt_of_cell? _ _ hcb1), cell_below (B := wr.heap.size) (w := wr) (by first | ((repeat (first | assumption | exact Below.refl _ _ | apply below_drew1 | apply below_alloc1)); done)) hcb2 (World.block_lt_of_cell? _ _ hcb2), cell_below (B := wr.heap.size) (w := wr) (by first | ((repeat (first | assumption | exact Below.refl _ _ | apply below_drew1 | apply below_alloc1)); done)) hcb3 (World.block_lt_of_cell? _ _ hcb3), (by first | ((repeat (first | assumption | exact Below.refl _ _ | apply below_drew1 | apply below_alloc1)); done))⟩ | go_keep)
              (first
                | (go_at_call 110; go_split_ands; (with_reducible refine (LessK_calls xk0 xk1 xk2 xk3 xb0 xb1 xb2 xb3 _).mono ?_); rintro e wq ⟨he, hbq⟩; rw [HR.out] at he; subst he; have hbB : Below wr.heap.size wr wq := Below.after (by first | ((repeat (first | assumption | exact Below.refl _ _ | apply below_drew1 | apply below_alloc1)); done)) hbq))
            go_wp2_with fail
            go_roundg 0
            case measure => omega
            case rel => exact ⟨.inr (.inr ⟨rfl, rfl, by rw [HRR.out]⟩), HBK.out.after hbB⟩
          | false =>
            have hR : b2 = b1 := by rw [← HB2.out]; unfold bstF; rw [if_neg fun h => by have h2 := h.2; rw [gK, gB] at h2; exact absurd (hr.symm.trans h2) (by simp)]
            have HRR := Lib.hid hR
            clear hR gK gB hr
            go_wp2_with fail
            go_region_held3 (fun w' => w'.cell? ⟨b, 0, none⟩ = some (.func (.func 110) #[] #[]) ∧ w'.cell? ⟨b, 1, none⟩ = some (.slice (some ⟨g, 0, none⟩) n c) ∧ w'.cell? ⟨g, k2 * 4, none⟩ = some (.int .i64 xk0) ∧ w'.cell? ⟨g, k2 * 4 + 1, none⟩ = some (.int .i64 xk1) ∧ w'.cell? ⟨g, k2 * 4 + 2, none⟩ = some (.int .i64 xk2) ∧ w'.cell? ⟨g, k2 * 4 + 3, none⟩ = some (.int .i64 xk3) ∧ w'.cell? ⟨g, b1 * 4, none⟩ = some (.int .i64 xb0) ∧ w'.cell? ⟨g, b1 * 4 + 1, none⟩ = some (.int .i64 xb1) ∧ w'.cell? ⟨g, b1 * 4 + 2, none⟩ = some (.int .i64 xb2) ∧ w'.cell? ⟨g, b1 * 4 + 3, none⟩ = some (.int .i64 xb3) ∧ Below wr.heap.size wr w')
              (first | exact ⟨cell_below (B := wr.heap.size) (w := wr) (by first | ((repeat (first | assumption | exact Below.refl _ _ | apply below_drew1 | apply below_alloc1)); done)) hc0 (World.block_lt_of_cell? _ _ hc0), cell_below (B := wr.heap.size) (w := wr) (by first | ((repeat (first | assumption | exact Below.refl _ _ | apply below_drew1 | apply below_alloc1)); done)) hc1 (World.block_lt_of_cell? _ _ hc1), cell_below (B := wr.heap.size) (w := wr) (by first | ((repeat (first | assumption | exact Below.refl _ _ | apply below_drew1 | apply below_alloc1)); done)) hck0 (World.block_lt_of_cell? _ _ hck0), cell_below (B := wr.heap.size) (w := wr) (by first | ((repeat (first | assumption | exact Below.refl _ _ | apply below_drew1 | apply below_alloc1)); done)) hck1 (World.block_lt_of_cell? _ _ hck1), cell_below (B := wr.heap.size) (w := wr) (by first | ((repeat (first | assumption | exact Below.refl _ _ | apply below_drew1 | apply below_alloc1)); done)) hck2 (World.block_lt_of_cell? _ _ hck2), cell_below (B := wr.heap.size) (w := wr) (by first | ((repeat (first | assumption | exact Below.refl _ _ | apply below_drew1 | apply below_alloc1)); done)) hck3 (World.block_lt_of_cell? _ _ hck3), cell_below (B := wr.heap.size) (w := wr) (by first | ((repeat (first | assumption | exact Below.refl _ _ | apply below_drew1 | apply below_alloc1)); done)) hcb0 (World.block_lt_of_cell? _ _ hcb0), cell_below (B := wr.heap.size) (w := wr) (by first | ((repeat (first | assumption | exact Below.refl _ _ | apply below_drew1 | apply below_alloc1)); done)) hcb1 (World.block_lt_of_cell? _ _ hcb1), cell_below (B := wr.heap.size) (w := wr) (by first | ((repeat (first | assumption | exact Below.refl _ _ | apply below_drew1 | apply below_alloc1)); done)) hcb2 (World.block_lt_of_cell? _ _ hcb2), cell_below (B := wr.heap.size) (w := wr) (by first | ((repeat (first | assumption | exact Below.refl _ _ | apply below_drew1 | apply below_alloc1)); done)) hcb3 (World.block_lt_of_cell? _ _ hcb3), (by first | ((repeat (first | assumption | exact Below.refl _ _ | apply below_drew1 | apply below_alloc1)); done))⟩ | go_keep)
              (first
                | (go_at_call 110; go_split_ands; (with_reducible refine (LessK_calls xk0 xk1 xk2 xk3 xb0 xb1 xb2 xb3 _).mono ?_); rintro e wq ⟨he, hbq⟩; rw [HR.out] at he; subst he; have hbB : Below wr.heap.size wr wq := Below.after (by first | ((repeat (first | assumption | exact Below.refl _ _ | apply below_drew1 | apply below_alloc1)); done)) hbq))
            go_wp2_with fail
            go_roundg 0
            case measure => omega
            case rel => exact ⟨.inr (.inr ⟨rfl, rfl, by rw [HRR.out]⟩), HBK.out.after hbB⟩
        · have hR : b2 = b1 := by rw [← HB2.out]; unfold bstF; rw [if_neg fun h => hKn h.1]
          have hKn' : decide ((k2 : Int) < (n : Int)) = false := decide_eq_false (by omega)
          have HRR := Lib.hid hR
          clear hR
          go_wp2_with fail
          go_quiet (fail)
          go_wp2_with fail
          go_roundg 0
          case measure => omega
          case rel => exact ⟨.inr (.inr ⟨rfl, rfl, by rw [HRR.out]⟩), HBK.out.after (below_drewN_self _ _)⟩
      · skip
        by_cases hbk : b2 = k
        · have hbk' : ((b2 : Int) == (k : Int)) = true := by simp; omega
          have hb := bstF_done (L := L) (k := k) HDN.out (by rw [hLl, HK1.out, HK2.out, HB1.out, HB2.out]; exact hbk)
          go_wp2_with fail
          refine bodyPost_ret (results_none rfl _ _ _) rfl ?_
          exact ⟨rfl, L, HH.out, hb, HPM.out, HON.out⟩
        · have hbk' : ((b2 : Int) == (k : Int)) = false := by simp; omega
          have hkn2 : k < n := by
            refine Nat.lt_of_le_of_ne hkn fun e => hbk ?_
            have h1 := HK1.out
            have h2 := HK2.out
            rw [← HB2.out, ← HB1.out]
            unfold bstF
            rw [if_neg (fun h : k1 < n ∧ _ => by have := h.1; omega), if_neg (fun h : k2 < n ∧ _ => by have := h.1; omega)]
          have hbn0 := bstF_swap (L := L) (k := k) (j := b2) (d := (0, 0, 0, 0)) ltK_wo HDN.out (by omega) (by rw [hLl, HK1.out, HK2.out, HB1.out, HB2.out]) hbk rfl rfl
          obtain ⟨hbn, hkb, hdn2⟩ := hbn0
          rw [hLl] at hbn
          obtain ⟨g, ⟨xk0, xk1, xk2, xk3⟩, hgA, _, _, hxk, hck, hfk, _⟩ := HH.out.2.1.at_ quad_q k hkn2 (by omega)
          subst hgA
          obtain ⟨g', ⟨xb0, xb1, xb2, xb3⟩, hg', _, _, hxb, hcb, _, _⟩ := HH.out.2.1.at_ quad_q b2 hbn (by omega)
          injection hg' with hg'
          injection hg' with hg'
          subst hg'
          rw [show L.getD k (0, 0, 0, 0) = (xk0, xk1, xk2, xk3) by simp [List.getD, hxk], show L.getD b2 (0, 0, 0, 0) = (xb0, xb1, xb2, xb3) by simp [List.getD, hxb]] at hdn2
          have hck0 : wr.cell? ⟨g, k * 4, none⟩ = some (.int .i64 xk0) := hck 0 (by omega)
          have hck1 : wr.cell? ⟨g, k * 4 + 1, none⟩ = some (.int .i64 xk1) := hck 1 (by omega)
          have hck2 : wr.cell? ⟨g, k * 4 + 2, none⟩ = some (.int .i64 xk2) := hck 2 (by omega)
          have hck3 : wr.cell? ⟨g, k * 4 + 3, none⟩ = some (.int .i64 xk3) := hck 3 (by omega)
          have hcb0 : wr.cell? ⟨g, b2 * 4, none⟩ = some (.int .i64 xb0) := hcb 0 (by omega)
          have hcb1 : wr.cell? ⟨g, b2 * 4 + 1, none⟩ = some (.int .i64 xb1) := hcb 1 (by omega)
          have hcb2 : wr.cell? ⟨g, b2 * 4 + 2, none⟩ = some (.int .i64 xb2) := hcb 2 (by omega)
          have hcb3 : wr.cell? ⟨g, b2 * 4 + 3, none⟩ = some (.int .i64 xb3) := hcb 3 (by omega)
          have hf0 := hfk (k * 4)
          have hf1 := hfk (k * 4 + 1)
          have hf2 := hfk (k * 4 + 2)
          have hf3 := hfk (k * 4 + 3)
          have hf4 := hfk (b2 * 4)
          have hf5 := hfk (b2 * 4 + 1)
          have hf6 := hfk (b2 * 4 + 2)
          have hf7 := hfk (b2 * 4 + 3)
          have HPK := Lib.hid hxk
          have HPB := Lib.hid hxb
          have HD2 := Lib.hid hdn2
          have bK : (k : Int) < (n : Int) := by omega
          have bB : (b2 : Int) < (n : Int) := by omega
          have n0 : ¬ k = b2 := by omega
          have n00a : ¬ k * 4 = b2 * 4 := by omega
          have n00b : ¬ b2 * 4 = k * 4 := by omega
          have n01a : ¬ k * 4 = b2 * 4 + 1 := by omega
          have n01b : ¬ b2 * 4 + 1 = k * 4 := by omega
          have n02a : ¬ k * 4 = b2 * 4 + 2 := by omega
          have n02b : ¬ b2 * 4 + 2 = k * 4 := by omega
          have n03a : ¬ k * 4 = b2 * 4 + 3 := by omega
          have n03b : ¬ b2 * 4 + 3 = k * 4 := by omega
          have n10a : ¬ k * 4 + 1 = b2 * 4 := by omega
          have n10b : ¬ b2 * 4 = k * 4 + 1 := by omega
          have n11a : ¬ k * 4 + 1 = b2 * 4 + 1 := by omega
          have n11b : ¬ b2 * 4 + 1 = k * 4 + 1 := by omega
          have n12a : ¬ k * 4 + 1 = b2 * 4 + 2 := by omega
          have n12b : ¬ b2 * 4 + 2 = k * 4 + 1 := by omega
          have n13a : ¬ k * 4 + 1 = b2 * 4 + 3 := by omega
          have n13b : ¬ b2 * 4 + 3 = k * 4 + 1 := by omega
          have n20a : ¬ k * 4 + 2 = b2 * 4 := by omega
          have n20b : ¬ b2 * 4 = k * 4 + 2 := by omega
          have n21a : ¬ k * 4 + 2 = b2 * 4 + 1 := by omega
          have n21b : ¬ b2 * 4 + 1 = k * 4 + 2 := by omega
          have n22a : ¬ k * 4 + 2 = b2 * 4 + 2 := by omega
          have n22b : ¬ b2 * 4 + 2 = k * 4 + 2 := by omega
          have n23a : ¬ k * 4 + 2 = b2 * 4 + 3 := by omega
          have n23b : ¬ b2 * 4 + 3 = k * 4 + 2 := by omega
          have n30a : ¬ k * 4 + 3 = b2 * 4 := by omega
          have n30b : ¬ b2 * 4 = k * 4 + 3 := by omega
          have n31a : ¬ k * 4 + 3 = b2 * 4 + 1 := by omega
          have n31b : ¬ b2 * 4 + 1 = k * 4 + 3 := by omega
          have n32a : ¬ k * 4 + 3 = b2 * 4 + 2 := by omega
          have n32b : ¬ b2 * 4 + 2 = k * 4 + 3 := by omega
          have n33a : ¬ k * 4 + 3 = b2 * 4 + 3 := by omega
          have n33b : ¬ b2 * 4 + 3 = k * 4 + 3 := by omega
          have hsw := HH.out.swap (x := (xk0, xk1, xk2, xk3)) (y := (xb0, xb1, xb2, xb3)) hkn2 hbn
          have HSW := Lib.hid hsw
          clear hxk hxb hck hcb hfk hdn2 hsw
          go_wp2_with fail
          go_region
          go_wp2_with fail
          go_roundg (n - b2)
          case measure => omega
          case rel =>
            exact ⟨b2, swp L k b2 (xb0, xb1, xb2, xb3) (xk0, xk1, xk2, xk3), by omega, by omega, rfl, HSW.out.1, by rw [swp_length]; exact hLl, HD2.out, (swp_perm HPK.out HPB.out).trans HPM.out, HON.out.trans HSW.out.2⟩
end Go.Proofs.YticdmglondpgaaaGreat

/-! ## Heap4K: The heap of things of two whole numbers (api.Result): Pop. Condition: the heap's blocks are as the word HpK says; no more than a million things. -/
namespace Go.Proofs.YticdmglondpgaaaGreat
open Go.RowKit
set_option linter.unusedVariables false
set_option maxRecDepth 100000
set_option linter.unusedSimpArgs false

theorem OwnF.takeK {α : Type} {f : α → List Value} {q : Nat} (hq : ∀ x, (f x).length = q) {w : World} {base : Nat} {e : TypeId} {A : Option Addr} {n c m : Nat} {xs : List α} (h : OwnF w base e q f (.slice A n c) xs) (hm : m ≤ n) (hn : xs.length = n) (hn0 : 0 < n) : OwnF w base e q f (.slice A m c) (xs.take m) := by
  subst hn
  obtain ⟨h0, h⟩ := h
  rcases h with ⟨h1, h2⟩ | ⟨g, cap, cur, h1, hb, hg, hc, hcm, hs, ht⟩
  · injection h1 with _ h1
    omega
  · injection h1 with e1 e2 e3
    subst e1 e3
    have hl : (xs.take m).length = m := by simp; omega
    unfold OwnF
    rw [hl]
    refine ⟨by rw [cellsF_length hq, hl], .inr ⟨g, c, cur, rfl, hb, hg, by omega, hcm, hs, ?_⟩⟩
    have e : (xs.take m).flatMap f = (xs.flatMap f).take (m * q) := by
      rw [show xs.flatMap f = (xs.take m).flatMap f ++ (xs.drop m).flatMap f by rw [← List.flatMap_append, List.take_append_drop]]
      exact (List.take_left' (by rw [cellsF_length hq, hl])).symm
    rw [e, ← ht, List.take_take]
    congr 1
    have := Nat.mul_le_mul_right q hm
    omega
theorem PopK_none (b lo : Nat) (v : Value) (w : World) (h : HpK w b lo v []) :
    Calls Tryz.prog 113 #[.pointer (some ⟨b, 0, none⟩)] w fun e w' => e = .returned (.tuple #[.agg #[.int .i64 0, .int .i64 0, .int .i64 0, .int .i64 0], .bool false]) ∧ Below w.heap.size w w' := by
  obtain ⟨W, hW⟩ : ∃ W, w.alloc (.cells #[.int .i64 0, .int .i64 0, .int .i64 0, .int .i64 0] 203) = W := ⟨_, rfl⟩
  have hB : Below w.heap.size w W := by rw [← hW]; exact below_alloc1 (Below.refl _ _) _
  have HH := Lib.hid (h.keep hB)
  have hz : W.heap.size = w.heap.size + 1 := by rw [← hW]; simp
  have hx := (show W.heap[w.heap.size]? = some (.cells #[.int .i64 0, .int .i64 0, .int .i64 0, .int .i64 0] 203 (0, 0)) by rw [← hW]; exact heap_alloc_new _ _)
  have HB := Lib.hid hB
  have HX := Lib.hid hx
  have HZ := Lib.hid hz
  clear h hB hx hz
  go_enter Tryz.func113, Tryz.ntmps113
  go_wp2_with fail
  refine (PeekK_none b lo v _ HH.out).mono ?_
  rintro e W2 ⟨he, hb2⟩
  subst he
  have hx2 := obj_below hb2 HX.out (obj_lt HX.out)
  have hc0 : W2.cell? ⟨w.heap.size, 0, none⟩ = some (.int .i64 0) := by simp [World.cell?, hx2]
  have hc1 : W2.cell? ⟨w.heap.size, 1, none⟩ = some (.int .i64 0) := by simp [World.cell?, hx2]
  have hc2 : W2.cell? ⟨w.heap.size, 2, none⟩ = some (.int .i64 0) := by simp [World.cell?, hx2]
  have hc3 : W2.cell? ⟨w.heap.size, 3, none⟩ = some (.int .i64 0) := by simp [World.cell?, hx2]
  have hf0 : W2.frozen? ⟨w.heap.size, 0, none⟩ = false := by simp [World.frozen?, hx2]
  have hf1 : W2.frozen? ⟨w.heap.size, 1, none⟩ = false := by simp [World.frozen?, hx2]
  have hf2 : W2.frozen? ⟨w.heap.size, 2, none⟩ = false := by simp [World.frozen?, hx2]
  have hf3 : W2.frozen? ⟨w.heap.size, 3, none⟩ = false := by simp [World.frozen?, hx2]
  have g0 := fun o => (World.cell?_alloc_lt (o := o) W2 _ (World.block_lt_of_cell? _ _ hc0)).trans hc0
  have g1 := fun o => (World.cell?_alloc_lt (o := o) W2 _ (World.block_lt_of_cell? _ _ hc1)).trans hc1
  have g2 := fun o => (World.cell?_alloc_lt (o := o) W2 _ (World.block_lt_of_cell? _ _ hc2)).trans hc2
  have g3 := fun o => (World.cell?_alloc_lt (o := o) W2 _ (World.block_lt_of_cell? _ _ hc3)).trans hc3
  have gf : ∀ (o : Obj) (j : Nat), (W2.alloc o).frozen? ⟨w.heap.size, j, none⟩ = false := fun o j => by
    have h := obj_below (below_alloc1 (Below.refl W2.heap.size W2) o) hx2 (obj_lt hx2)
    simp [World.frozen?, h]
  have gf0 := fun o => gf o 0
  have gf1 := fun o => gf o 1
  have gf2 := fun o => gf o 2
  have gf3 := fun o => gf o 3
  have hlt := (Below.after HB.out hb2).size
  have HB2 := Lib.hid (Below.after HB.out hb2)
  clear hx2 hb2 gf
  go_wp2_with fail
  refine bodyPost_ret ?_ rfl ⟨rfl, ?_⟩
  · rw [results_cell_tmp rfl]
    go_simp
  · exact below_set (below_set (below_set (below_set (below_alloc1 HB2.out _) (Nat.le_refl _) _ _) (Nat.le_refl _) _ _) (Nat.le_refl _) _ _) (Nat.le_refl _) _ _
set_option maxHeartbeats 3200000 in
set_option maxRecDepth 1000000 in
theorem PopK_some (b lo : Nat) (v : Value) (x0 x1 x2 x3 : Int) (l : List (Int × Int × Int × Int)) (w : World) (h : HpK w b lo v ((x0, x1, x2, x3) :: l)) (hok : HeapOk ltK ((x0, x1, x2, x3) :: l)) (hl : l.length ≤ 1000000) :
    Calls Tryz.prog 113 #[.pointer (some ⟨b, 0, none⟩)] w fun e w' => e = .returned (.tuple #[.agg #[.int .i64 x0, .int .i64 x1, .int .i64 x2, .int .i64 x3], .bool true]) ∧ ∃ v' l', HpToK w w' b lo v v' l' ∧ l'.Perm l ∧ v'.ownBlock = v.ownBlock := by
  obtain ⟨A, c, rfl, hlc⟩ := h.2.1.shape
  obtain ⟨g, _, rfl, hlg, hgw, _, _, _, _⟩ := h.2.1.at_ quad_q 0 (by simp) (by omega)
  obtain ⟨m, hm⟩ : ∃ m, l.length = m := ⟨_, rfl⟩
  have hxl : ((x0, x1, x2, x3) :: l).length = m + 1 := by simp [hm]
  rw [hxl] at h hlc
  have hgb : g ≠ b := h.2.2.2 g rfl
  have hbw := h.lt
  have b0 : (0 : Int) < (m : Int) + 1 := by omega
  have bm : (m : Int) < (m : Int) + 1 := by omega
  obtain ⟨W, hW⟩ : ∃ W, w.alloc (.cells #[.int .i64 0, .int .i64 0, .int .i64 0, .int .i64 0] 203) = W := ⟨_, rfl⟩
  have hB : Below w.heap.size w W := by rw [← hW]; exact below_alloc1 (Below.refl _ _) _
  have HH := Lib.hid (h.keep hB)
  have hz : W.heap.size = w.heap.size + 1 := by rw [← hW]; simp
  have hx := (show W.heap[w.heap.size]? = some (.cells #[.int .i64 0, .int .i64 0, .int .i64 0, .int .i64 0] 203 (0, 0)) by rw [← hW]; exact heap_alloc_new _ _)
  have HB := Lib.hid hB
  have HX := Lib.hid hx
  have HZ := Lib.hid hz
  have HOK := Lib.hid hok
  have HM := Lib.hid hm
  have HXL := Lib.hid hxl
  clear h hB hx hz hok hm hxl
  have hm64 : (m : Int) ≤ 9223372036854775807 := by have := HM.out; omega
  have hwr2 : wrap64 (m : Int) = (m : Int) := wrap64_id _ ⟨by omega, hm64⟩
  clear hm64
  go_enter Tryz.func113, Tryz.ntmps113
  go_wp2_with fail
  refine (PeekK_some b lo _ x0 x1 x2 x3 l _ HH.out).mono ?_
  rintro e W2 ⟨he, hb2⟩
  subst he
  have H2 := Lib.hid (HH.out.keep hb2)
  have hx2 := obj_below hb2 HX.out (obj_lt HX.out)
  have HX2 := Lib.hid hx2
  have hs2 := hb2.size
  have HB2 := Lib.hid (Below.after HB.out hb2)
  have hc1 : W2.cell? ⟨b, 1, none⟩ = some (.slice (some ⟨g, 0, none⟩) (m + 1) c) := by have h1 := H2.out.1; simp [World.cell?, h1]
  have gc1 := fun o => (World.cell?_alloc_lt (o := o) W2 _ (World.block_lt_of_cell? _ _ hc1)).trans hc1
  clear hx2 hb2
  go_wp2_with fail
  obtain ⟨W3, hW3⟩ : ∃ W3, W2.alloc (.cells #[.int .i64 x0, .int .i64 x1, .int .i64 x2, .int .i64 x3] 203) = W3 := ⟨_, rfl⟩
  have hB3 : Below W2.heap.size W2 W3 := by rw [← hW3]; exact below_alloc1 (Below.refl _ _) _
  have h3 := H2.out.keep hB3
  have hr3 := obj_below hB3 HX2.out (obj_lt HX2.out)
  have hx3 := (show W3.heap[W2.heap.size]? = some (.cells #[.int .i64 x0, .int .i64 x1, .int .i64 x2, .int .i64 x3] 203 (0, 0)) by rw [← hW3]; exact heap_alloc_new _ _)
  try rw [hW3]
  obtain ⟨g', ⟨z0, z1, z2, z3⟩, hg', _, _, hzl, hcz, hfz, _⟩ := h3.2.1.at_ quad_q m (by omega) (by omega)
  injection hg' with hg'
  injection hg' with hg'
  subst hg'
  obtain ⟨g', ⟨u0, u1, u2, u3⟩, hg', _, _, hul, hcu, _, _⟩ := h3.2.1.at_ quad_q 0 (by omega) (by omega)
  injection hg' with hg'
  injection hg' with hg'
  subst hg'
  have hcz0 : W3.cell? ⟨g, m * 4, none⟩ = some (.int .i64 z0) := hcz 0 (by omega)
  have hcz1 : W3.cell? ⟨g, m * 4 + 1, none⟩ = some (.int .i64 z1) := hcz 1 (by omega)
  have hcz2 : W3.cell? ⟨g, m * 4 + 2, none⟩ = some (.int .i64 z2) := hcz 2 (by omega)
  have hcz3 : W3.cell? ⟨g, m * 4 + 3, none⟩ = some (.int .i64 z3) := hcz 3 (by omega)
  have hcu0 : W3.cell? ⟨g, 0, none⟩ = some (.int .i64 u0) := hcu 0 (by omega)
  have hcu1 : W3.cell? ⟨g, 1, none⟩ = some (.int .i64 u1) := hcu 1 (by omega)
  have hcu2 : W3.cell? ⟨g, 2, none⟩ = some (.int .i64 u2) := hcu 2 (by omega)
  have hcu3 : W3.cell? ⟨g, 3, none⟩ = some (.int .i64 u3) := hcu 3 (by omega)
  have hf0 := hfz 0
  have hf1 := hfz 1
  have hf2 := hfz 2
  have hf3 := hfz 3
  have hc13 : W3.cell? ⟨b, 1, none⟩ = some (.slice (some ⟨g, 0, none⟩) (m + 1) c) := by have h1 := h3.1; simp [World.cell?, h1]
  have hfb : W3.frozen? ⟨b, 1, none⟩ = false := by have h1 := h3.1; simp [World.frozen?, h1]
  have H3 := Lib.hid h3
  have HR3 := Lib.hid hr3
  have HX3 := Lib.hid hx3
  have HB3 := Lib.hid (Below.after HB2.out hB3)
  have HZL := Lib.hid hzl
  have hbg : ¬ b = g := fun e => hgb e.symm
  have hgb' : ¬ g = b := hgb
  have hs3 := hB3.size
  clear hW hW3 hB3 h3 hr3 hx3 hcz hfz hcu hul hzl hc1 gc1
  go_region
  go_wp2_with fail
  clear hwr2 hcz0 hcz1 hcz2 hcz3 hcu0 hcu1 hcu2 hcu3 hf0 hf1 hf2 hf3 hc13 hfb
  have hH4 : HpK ((((((W3.setCell ⟨g, 0, none⟩ (.int .i64 z0)).setCell ⟨g, 1, none⟩ (.int .i64 z1)).setCell ⟨g, 2, none⟩ (.int .i64 z2)).setCell ⟨g, 3, none⟩ (.int .i64 z3)).setCell ⟨b, 1, none⟩ (.slice (some ⟨g, 0, none⟩) m c)).drew) b lo (.slice (some ⟨g, 0, none⟩) m c) (popped ((x0, x1, x2, x3) :: l) (z0, z1, z2, z3)) := by
    have h5 := H3.out.2.1.store4 0 (by omega) (z0, z1, z2, z3)
    have h6 := OwnF.takeK quad_q h5 (Nat.le_succ m) (by rw [List.length_set]; exact HXL.out) (by omega)
    refine ⟨set_blk (cs := [_, _]) (set_other (set_other (set_other (set_other H3.out.1 _ _ (Ne.symm hgb)) _ _ (Ne.symm hgb)) _ _ (Ne.symm hgb)) _ _ (Ne.symm hgb)) 1 _, ?_, H3.out.2.2.1, fun k hk => H3.out.2.2.2 k hk⟩
    unfold popped
    rw [HXL.out, Nat.add_sub_cancel]
    exact own_drew1 (OwnF.only h6 (only_set _ _ _ _) fun k hk e => by
      rw [show k = g by simpa [Value.ownBlock] using hk.symm] at e
      exact hgb e)
  have hon : Only (HpBK (.slice (some ⟨g, 0, none⟩) (m + 1) c) b) w ((((((W3.setCell ⟨g, 0, none⟩ (.int .i64 z0)).setCell ⟨g, 1, none⟩ (.int .i64 z1)).setCell ⟨g, 2, none⟩ (.int .i64 z2)).setCell ⟨g, 3, none⟩ (.int .i64 z3)).setCell ⟨b, 1, none⟩ (.slice (some ⟨g, 0, none⟩) m c)).drew) :=
    ((((((Only.of_below HB3.out).trans ((only_set _ g 0 _).mono fun k _ h => .inr (by rw [h]; rfl))).trans ((only_set _ g 1 _).mono fun k _ h => .inr (by rw [h]; rfl))).trans ((only_set _ g 2 _).mono fun k _ h => .inr (by rw [h]; rfl))).trans ((only_set _ g 3 _).mono fun k _ h => .inr (by rw [h]; rfl))).trans ((only_set _ b 1 _).mono fun k _ h => .inl h)).trans (Only.of_below (Below.refl _ _).drew)
  have hs4 : w.heap.size ≤ W2.heap.size := HB2.out.size
  have hx4 : ((((((W3.setCell ⟨g, 0, none⟩ (.int .i64 z0)).setCell ⟨g, 1, none⟩ (.int .i64 z1)).setCell ⟨g, 2, none⟩ (.int .i64 z2)).setCell ⟨g, 3, none⟩ (.int .i64 z3)).setCell ⟨b, 1, none⟩ (.slice (some ⟨g, 0, none⟩) m c)).drew).heap[W2.heap.size]? = some (.cells #[.int .i64 x0, .int .i64 x1, .int .i64 x2, .int .i64 x3] 203 (0, 0)) := set_other (set_other (set_other (set_other (set_other HX3.out _ _ (by omega)) _ _ (by omega)) _ _ (by omega)) _ _ (by omega)) _ _ (by omega)
  have hr4 : ((((((W3.setCell ⟨g, 0, none⟩ (.int .i64 z0)).setCell ⟨g, 1, none⟩ (.int .i64 z1)).setCell ⟨g, 2, none⟩ (.int .i64 z2)).setCell ⟨g, 3, none⟩ (.int .i64 z3)).setCell ⟨b, 1, none⟩ (.slice (some ⟨g, 0, none⟩) m c)).drew).heap[w.heap.size]? = some (.cells #[.int .i64 0, .int .i64 0, .int .i64 0, .int .i64 0] 203 (0, 0)) := set_other (set_other (set_other (set_other (set_other HR3.out _ _ (by omega)) _ _ (by omega)) _ _ (by omega)) _ _ (by omega)) _ _ (by omega)
  have hml : (popped ((x0, x1, x2, x3) :: l) (z0, z1, z2, z3)).length = m := by rw [popped_length]; simp [HM.out]
  have hm6 : m ≤ 1000000 := by have := HM.out; omega
  have hdn := DownOk.pop HOK.out (z0, z1, z2, z3)
  refine (sinkK_calls b lo (some ⟨g, 0, none⟩) m c _ _ hH4 hml hdn hm6).mono ?_
  rintro e W6 ⟨he, L, hH6, hok6, hpm, hon6⟩
  subst he
  have hnb : ∀ k, w.heap.size ≤ k → ¬ HpBK (.slice (some ⟨g, 0, none⟩) m c) b k := fun k hk h => by
    rcases h with h | h
    · omega
    · have : g = k := by simpa [OwnB, Value.ownBlock] using h
      omega
  have hx6 := hon6.obj hx4 (hnb _ hs4)
  have hr6 := hon6.obj hr4 (hnb _ (Nat.le_refl _))
  have hcx0 : W6.cell? ⟨W2.heap.size, 0, none⟩ = some (.int .i64 x0) := by simp [World.cell?, hx6]
  have hcx1 : W6.cell? ⟨W2.heap.size, 1, none⟩ = some (.int .i64 x1) := by simp [World.cell?, hx6]
  have hcx2 : W6.cell? ⟨W2.heap.size, 2, none⟩ = some (.int .i64 x2) := by simp [World.cell?, hx6]
  have hcx3 : W6.cell? ⟨W2.heap.size, 3, none⟩ = some (.int .i64 x3) := by simp [World.cell?, hx6]
  have hcr0 : W6.cell? ⟨w.heap.size, 0, none⟩ = some (.int .i64 0) := by simp [World.cell?, hr6]
  have hcr1 : W6.cell? ⟨w.heap.size, 1, none⟩ = some (.int .i64 0) := by simp [World.cell?, hr6]
  have hcr2 : W6.cell? ⟨w.heap.size, 2, none⟩ = some (.int .i64 0) := by simp [World.cell?, hr6]
  have hcr3 : W6.cell? ⟨w.heap.size, 3, none⟩ = some (.int .i64 0) := by simp [World.cell?, hr6]
  have hfr0 : W6.frozen? ⟨w.heap.size, 0, none⟩ = false := by simp [World.frozen?, hr6]
  have hfr1 : W6.frozen? ⟨w.heap.size, 1, none⟩ = false := by simp [World.frozen?, hr6]
  have hfr2 : W6.frozen? ⟨w.heap.size, 2, none⟩ = false := by simp [World.frozen?, hr6]
  have hfr3 : W6.frozen? ⟨w.heap.size, 3, none⟩ = false := by simp [World.frozen?, hr6]
  have H6 := Lib.hid hH6
  have O6 := Lib.hid hok6
  have P6 := Lib.hid hpm
  have N6 := Lib.hid (hon.trans2K hon6 fun k _ h => h)
  clear hH4 hon hx4 hr4 hml hdn hH6 hok6 hpm hon6 hnb hx6 hr6
  go_wp2_with fail
  refine bodyPost_ret ?_ rfl ⟨rfl, .slice (some ⟨g, 0, none⟩) m c, L, ⟨?_, O6.out, ?_, fun k hk => .inl hk⟩, ?_, rfl⟩
  · rw [results_cell_tmp rfl]
    go_simp
  · refine HpK.only H6.out ((((only_set _ _ 0 _).trans (only_set _ _ 1 _)).trans (only_set _ _ 2 _)).trans (only_set _ _ 3 _)) (by omega) fun k hk h => ?_
    have : g = k := by simpa [Value.ownBlock] using hk
    omega
  · exact N6.out.trans2K ((((only_set _ _ 0 _).trans (only_set _ _ 1 _)).trans (only_set _ _ 2 _)).trans (only_set _ _ 3 _)) fun k hk h => by omega
  · refine P6.out.trans (List.Perm.cons_inv (a := (x0, x1, x2, x3)) ?_)
    exact popped_perm (by simp) (by rw [HXL.out, Nat.add_sub_cancel]; exact HZL.out)
end Go.Proofs.YticdmglondpgaaaGreat

/-! ## Heap5K: The heap of a selector's entries: New, of none. -/
namespace Go.Proofs.YticdmglondpgaaaGreat
open Go.RowKit
set_option linter.unusedVariables false
set_option maxRecDepth 100000
set_option linter.unusedSimpArgs false

set_option maxHeartbeats 3200000 in
theorem NewK_calls (w : World) :
    Calls Tryz.prog 109 #[.func (.func 110) #[] #[], .slice none 0 0] w fun e w' => ∃ b, e = .returned (.pointer (some ⟨b, 0, none⟩)) ∧ w.heap.size ≤ b ∧ HpK w' b b (.slice none 0 0) [] ∧ Below w.heap.size w w' := by
  go_enter Tryz.func109, Tryz.ntmps109
  go_wp2_with fail
  obtain ⟨w1, hw⟩ : ∃ W, w.alloc (.cells #[.func (.func 110) #[] #[], .slice none 0 0] 254) = W := ⟨_, rfl⟩
  rw [hw]
  have hH : HpK w1 w.heap.size w.heap.size (.slice none 0 0) [] := by
    refine ⟨by rw [← hw]; exact heap_alloc_new w _, OwnF.nil _ _ _, Nat.le_refl _, fun k hk => by simp [Value.ownBlock] at hk⟩
  have hb1 : Below w.heap.size w w1 := by rw [← hw]; exact below_alloc1 (Below.refl _ _) _
  have HH := Lib.hid hH
  clear hw hH
  go_loopg [13] 0 (fun kq v13 w' => kq = 0 ∧ v13 = .int .i64 0 ∧ w' = w1)
  case atStart => exact ⟨rfl, rfl, rfl⟩
  case round =>
    obtain ⟨rfl, rfl, rfl⟩ := hrel
    go_wp2_with fail
    go_ret
    exact ⟨_, rfl, Nat.le_refl _, HH.out, hb1⟩
end Go.Proofs.YticdmglondpgaaaGreat

/-! ## Search1: Package search: a walk under way; push, begin. Conditions: the blocks are as the word Wk says. -/
namespace Go.Proofs.YticdmglondpgaaaGreat
open Go.RowKit
set_option linter.unusedVariables false
set_option maxRecDepth 100000
set_option linter.unusedSimpArgs false

attribute [local go_sem] Oper.semAt_some

abbrev Tk := Int × Int × Int × Int
/-- The walk at block bw, its heap at bh, the row hv of the tasks L; a: the first five cells (the forest, the vector). -/
structure Wk (w : World) (bw bh lo : Nat) (a : Value × Value × Value × Value × Value) (hv : Value) (L : List Tk) (steps next : Int) : Prop where
  b : w.heap[bw]? = some (.cells #[a.1, a.2.1, a.2.2.1, a.2.2.2.1, a.2.2.2.2, .pointer (some ⟨bh, 0, none⟩), .int .i64 steps, .int .i64 next] 142 (0, 0))
  h : HpK w bh lo hv L
  ok : HeapOk ltK L
  ne : bw ≠ bh
  nv : ∀ k, hv.ownBlock = some k → k ≠ bw
/-- What the walk's calls may change. -/
def WkB (bw bh : Nat) (hv : Value) (k : Nat) : Prop := k = bw ∨ k = bh ∨ OwnB hv k
theorem Wk.only {w w' : World} {S : Nat → Prop} {bw bh lo : Nat} {a : Value × Value × Value × Value × Value} {hv : Value} {L : List Tk} {steps next : Int} (h : Wk w bw bh lo a hv L steps next) (ho : Only S w w') (hs : ∀ k, WkB bw bh hv k → ¬ S k) : Wk w' bw bh lo a hv L steps next :=
  ⟨ho.obj h.b (hs _ (.inl rfl)), h.h.only ho (hs _ (.inr (.inl rfl))) (fun k hk => hs _ (.inr (.inr hk))), h.ok, h.ne, h.nv⟩
theorem Wk.lt {w : World} {bw bh lo : Nat} {a : Value × Value × Value × Value × Value} {hv : Value} {L : List Tk} {steps next : Int} (h : Wk w bw bh lo a hv L steps next) : ∀ k, WkB bw bh hv k → k < w.heap.size := fun k hk => by
  rcases hk with rfl | rfl | hk
  · exact obj_lt h.b
  · exact h.h.lt
  · exact (h.h.2.1.lt k hk).2
theorem Wk.keep {w w' : World} {bw bh lo : Nat} {a : Value × Value × Value × Value × Value} {hv : Value} {L : List Tk} {steps next : Int} (h : Wk w bw bh lo a hv L steps next) (hb : Below w.heap.size w w') : Wk w' bw bh lo a hv L steps next := h.only (S := fun _ => False) (Only.of_below hb) fun _ _ h => h
/-- The walk behind a call: the same blocks, the row perhaps a new one. -/
def WkTo (w w' : World) (bw bh lo : Nat) (a : Value × Value × Value × Value × Value) (hv : Value) (L' : List Tk) (steps next : Int) (hv' : Value) : Prop :=
  Wk w' bw bh lo a hv' L' steps next ∧ Only (WkB bw bh hv) w w' ∧ ∀ k, hv'.ownBlock = some k → hv.ownBlock = some k ∨ w.heap.size ≤ k
set_option maxHeartbeats 3200000 in
theorem WPush_calls (bw bh lo : Nat) (a : Value × Value × Value × Value × Value) (hv : Value) (L : List Tk) (steps : Int) (next : Nat) (mg tr at_ : Int) (w : World) (h : Wk w bw bh lo a hv L steps next) (hl : L.length ≤ 1000000) (hn : next ≤ 1000000) :
    Calls Tryz.prog 112 #[.pointer (some ⟨bw, 0, none⟩), .int .i64 mg, .int .i64 tr, .int .i64 at_] w fun e w' => e = .returned (.tuple #[]) ∧ ∃ hv' L', WkTo w w' bw bh lo a hv L' steps ((next + 1 : Nat) : Int) hv' ∧ L'.Perm ((mg, (next : Int), tr, at_) :: L) := by
  have H := Lib.hid h
  have hb := h.b
  have c5 : w.cell? ⟨bw, 5, none⟩ = some (.pointer (some ⟨bh, 0, none⟩)) := by simp [World.cell?, hb]
  have c7 : w.cell? ⟨bw, 7, none⟩ = some (.int .i64 (next : Int)) := by simp [World.cell?, hb]
  have hwn : IntKind.i64.wrap ((next : Int) + 1) = ((next + 1 : Nat) : Int) := by rw [i64_w]; exact wrap64_id _ (by omega)
  have d5 : w.drew.cell? ⟨bw, 5, none⟩ = some (.pointer (some ⟨bh, 0, none⟩)) := c5
  have d7 : w.drew.cell? ⟨bw, 7, none⟩ = some (.int .i64 (next : Int)) := c7
  clear h hb
  go_enter Tryz.func112, Tryz.ntmps112
  go_wp2_with fail
  go_still_tail 13, (by kernel_rfl)
  go_wp2_with fail
  refine (PushK_calls bh lo hv L mg (next : Int) tr at_ w.drew (H.out.h.keep (below_drew1 (Below.refl _ _))) H.out.ok hl).mono ?_
  rintro e w2 ⟨he, hv', L', ⟨hH, hok, hon, hfr⟩, hpm⟩
  subst he
  have hbl := obj_lt H.out.b
  have hnb : ¬ HpBK hv bh bw := fun h => h.elim (fun e => H.out.ne e) fun e => H.out.nv bw e rfl
  have hb2 : w2.heap[bw]? = _ := hon.obj (w := w.drew) H.out.b hnb
  have hon' : Only (WkB bw bh hv) w w2 := (Only.of_below (below_drew1 (Below.refl _ _))).trans (hon.mono fun k _ h => h.elim (fun h => .inr (.inl h)) fun h => .inr (.inr h))
  have hfr' : ∀ k, hv'.ownBlock = some k → hv.ownBlock = some k ∨ w.heap.size ≤ k := hfr
  have hnv' : ∀ k, hv'.ownBlock = some k → k ≠ bw := fun k hk => by
    rcases hfr' k hk with h | h
    · exact H.out.nv k h
    · omega
  have e7 : w2.cell? ⟨bw, 7, none⟩ = some (.int .i64 (next : Int)) := by simp [World.cell?, hb2]
  have f7 : w2.frozen? ⟨bw, 7, none⟩ = false := by simp [World.frozen?, hb2]
  have HH := Lib.hid hH
  have HB2 := Lib.hid hb2
  have HPM := Lib.hid hpm
  have HOK := Lib.hid hok
  clear hH hok hon hfr hpm hb2 c5 c7 d5 d7
  go_wp2_with fail
  go_end0
  refine ⟨rfl, hv', L', ⟨⟨?_, HH.out.only (only_set _ _ _ _) (fun e => H.out.ne e.symm) (fun k hk e => hnv' k hk e), HOK.out, H.out.ne, hnv'⟩, hon'.trans ((only_set _ _ _ _).mono fun k _ h => .inl h), hfr'⟩, HPM.out⟩
  exact set_blk (cs := [_, _, _, _, _, _, _, _]) HB2.out 7 _
end Go.Proofs.YticdmglondpgaaaGreat

/-! ## Search2: Package search: begin: a task for each tree. Condition: no more than 256 trees. -/
namespace Go.Proofs.YticdmglondpgaaaGreat
open Go.RowKit
set_option linter.unusedVariables false
set_option maxRecDepth 100000
set_option linter.unusedSimpArgs false

attribute [local go_sem] Oper.semAt_some

def startL (T : Nat) : List Tk := (List.range T).map fun (k : Nat) => ((9223372036854775807 : Int), (k : Int), (k : Int), (0 : Int))
theorem startL_succ (T : Nat) : startL (T + 1) = startL T ++ [(9223372036854775807, (T : Int), (T : Int), 0)] := by simp [startL, List.range_succ]
theorem startL_length (T : Nat) : (startL T).length = T := by simp [startL]
/-- What begin hands back. -/
def BgPost (w : World) (a : Value × Value × Value × Value × Value) (T : Nat) (e : Ending) (w' : World) : Prop :=
  ∃ bw bh hv L, e = .returned (.pointer (some ⟨bw, 0, none⟩)) ∧ Wk w' bw bh bh a hv L 0 (T : Int) ∧ L.Perm (startL T) ∧ (∀ k, WkB bw bh hv k → w.heap.size ≤ k) ∧ Below w.heap.size w w'
set_option maxHeartbeats 3200000 in
theorem Begin_calls (f0 : Option Addr) (lf dp : Int) (TA : Option Addr) (T Tc : Nat) (VA : Option Addr) (vn vc : Nat) (w : World) (hT : T ≤ 256) :
    Calls Tryz.prog 64 #[.agg #[.pointer f0, .int .i64 lf, .int .i64 dp, .slice TA T Tc], .slice VA vn vc] w (BgPost w (.pointer f0, .int .i64 lf, .int .i64 dp, .slice TA T Tc, .slice VA vn vc) T) := by
  go_enter Tryz.func64, Tryz.ntmps64
  go_wp2_with fail
  obtain ⟨w1, hw1⟩ : ∃ W, (w.alloc (.cells #[.pointer f0, .int .i64 lf, .int .i64 dp, .slice TA T Tc] 61)).alloc (.cells #[.pointer f0, .int .i64 lf, .int .i64 dp, .slice TA T Tc, .slice VA vn vc, .pointer none, .int .i64 0, .int .i64 0] 142) = W := ⟨_, rfl⟩
  have ab : Below w.heap.size w w1 := by rw [← hw1]; exact below_alloc1 (below_alloc1 (Below.refl _ _) _) _
  have ax : w1.heap[w.heap.size]? = some (.cells #[.pointer f0, .int .i64 lf, .int .i64 dp, .slice TA T Tc] 61 (0, 0)) := by rw [← hw1]; exact obj_below (below_alloc1 (Below.refl _ _) _) (heap_alloc_new _ _) (by simp)
  have aw : w1.heap[w.heap.size + 1]? = some (.cells #[.pointer f0, .int .i64 lf, .int .i64 dp, .slice TA T Tc, .slice VA vn vc, .pointer none, .int .i64 0, .int .i64 0] 142 (0, 0)) := by
    have h := heap_alloc_new (w.alloc (.cells #[.pointer f0, .int .i64 lf, .int .i64 dp, .slice TA T Tc] 61)) (.cells #[.pointer f0, .int .i64 lf, .int .i64 dp, .slice TA T Tc, .slice VA vn vc, .pointer none, .int .i64 0, .int .i64 0] 142)
    rw [World.size_alloc, hw1] at h
    exact h
  rw [hw1]
  clear hw1
  obtain ⟨bw, hbw⟩ : ∃ x, w.heap.size + 1 = x := ⟨_, rfl⟩
  rw [hbw] at aw ⊢
  have hwl := obj_lt aw
  refine (NewK_calls w1).mono ?_
  rintro e w2 ⟨bh, he, hbh, hH, hb2⟩
  subst he
  have aw2 := obj_below hb2 aw hwl
  have ax2 := obj_below hb2 ax (obj_lt ax)
  have c5 : w2.cell? ⟨bw, 5, none⟩ = some (.pointer none) := by simp [World.cell?, aw2]
  have f5 : w2.frozen? ⟨bw, 5, none⟩ = false := by simp [World.frozen?, aw2]
  have hxw : ¬ w.heap.size = bw := by omega
  have x3 : w2.cell? ⟨w.heap.size, 3, none⟩ = some (.slice TA T Tc) := by simp [World.cell?, ax2]
  have HW0 := Lib.hid (show Wk (w2.setCell ⟨bw, 5, none⟩ (.pointer (some ⟨bh, 0, none⟩))) bw bh bh (.pointer f0, .int .i64 lf, .int .i64 dp, .slice TA T Tc, .slice VA vn vc) (.slice none 0 0) [] 0 0 from
    ⟨set_blk (cs := [_, _, _, _, _, _, _, _]) aw2 5 _, hH.only (only_set _ _ _ _) (by omega) (fun k hk => by simp [Value.ownBlock] at hk), fun i a b h0 ha => by simp at ha, by omega, fun k hk => by simp [Value.ownBlock] at hk⟩)
  have HB0 := Lib.hid (below_set (ab.trans (hb2.mono ab.size)) (show w.heap.size ≤ bw by omega) 5 (.pointer (some ⟨bh, 0, none⟩)))
  clear ab ax aw hb2 aw2 ax2 hH
  go_wp2_with fail
  obtain ⟨w3, hw3⟩ : ∃ W, w2.setCell ⟨bw, 5, none⟩ (.pointer (some ⟨bh, 0, none⟩)) = W := ⟨_, rfl⟩
  rw [hw3] at HW0 HB0 ⊢
  clear hw3 c5 f5 x3
  go_loopg [18] T (fun kq v18 w' => ∃ hv L, kq ≤ T ∧ v18 = .int .i64 ((T - kq : Nat) : Int) ∧ Wk w' bw bh bh (.pointer f0, .int .i64 lf, .int .i64 dp, .slice TA T Tc, .slice VA vn vc) hv L 0 ((T - kq : Nat) : Int) ∧ L.Perm (startL (T - kq)) ∧ (∀ k, hv.ownBlock = some k → w.heap.size ≤ k) ∧ Below w.heap.size w w')
  case atStart => exact ⟨_, _, Nat.le_refl _, by simp, by simp only [Nat.sub_self]; exact HW0.out, by simp [startL], fun k hk => by simp [Value.ownBlock] at hk, HB0.out⟩
  case round =>
    clear HW0 HB0
    obtain ⟨hv, L, hk, rfl, hW, hpm, hfr, hB⟩ := hrel
    have HW := Lib.hid hW
    have HPM := Lib.hid hpm
    have HFR := Lib.hid hfr
    have HB := Lib.hid hB
    clear hW hpm hfr hB
    cases gk with
    | zero =>
      simp only [Nat.sub_zero] at HW HPM ⊢
      have hlt : ¬ (T : Int) < (T : Int) := by omega
      go_wp2_with fail
      go_ret
      exact ⟨bw, bh, hv, L, rfl, HW.out, HPM.out, fun k hk => by
        rcases hk with rfl | rfl | hk
        · omega
        · have := hbh; omega
        · exact HFR.out k hk, HB.out⟩
    | succ k1 =>
      obtain ⟨i, hi⟩ : ∃ i, T - (k1 + 1) = i := ⟨_, rfl⟩
      have hi2 : T - k1 = i + 1 := by omega
      have HI := Lib.hid hi2
      have hlt : i < T := by omega
      have hltI : (i : Int) < (T : Int) := by omega
      rw [hi] at HW HPM ⊢
      have hLl : L.length ≤ 1000000 := by rw [HPM.out.length_eq, startL_length]; omega
      have HPU := Lib.hid (WPush_calls bw bh bh _ hv L 0 i 9223372036854775807 (i : Int) 0 wr HW.out hLl (by omega))
      clear hi hi2
      go_wp2_with fail
      refine HPU.out.mono ?_
      rintro e w4 ⟨he, hv', L', ⟨hW', hon, hfr'⟩, hpm'⟩
      subst he
      have HW4 := Lib.hid hW'
      have HPM4 := Lib.hid (show L'.Perm (startL (i + 1)) from by rw [startL_succ]; exact hpm'.trans (((HPM.out.cons _).trans (List.perm_append_singleton _ _).symm)))
      have HFR4 := Lib.hid (show ∀ k, hv'.ownBlock = some k → w.heap.size ≤ k from fun k hk => by
        rcases hfr' k hk with h | h
        · exact HFR.out k h
        · have := HB.out.size; omega)
      have HB4 := Lib.hid (HB.out.trans (hon.below HB.out.size fun k hk h => by
        rcases h with rfl | rfl | h
        · omega
        · have := hbh; omega
        · have := HFR.out k h; omega))
      clear hW' hon hfr' hpm'
      go_wp2_with fail
      go_roundg k1
      case measure => omega
      case rel => exact ⟨hv', L', by omega, by rw [HI.out]; rfl, by rw [HI.out]; exact HW4.out, by rw [HI.out]; exact HPM4.out, HFR4.out, HB4.out⟩
end Go.Proofs.YticdmglondpgaaaGreat
