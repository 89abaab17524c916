
/-
  The heap of a selector's entries (package heap, topk.entry[shelterbelt/api.Result]): the contract of Push, by a list that is a heap. Condition: the heap's blocks are as the word HpE says; the selector's cells as SlxE; no more than a million things.
-/
import Derived.Test.YtacgkoclammggaaTri
import Derived.Test.YtacgkoclammggaaEntE
namespace Go.Proofs.Ytacgkoclammggaa
open Go.RowKit
set_option linter.unusedVariables false
set_option maxRecDepth 100000
set_option linter.unusedSimpArgs false

theorem infoE : (Try.prog.info? 124).map (fun i => (i.zero, i.size, i.bytes)) = some (some (.agg #[.int .i64 0, .int .i64 0, .int .i64 0]), 3, 24) := by kernel_rfl
/-- What the heap's closure reads: the variable that holds the selector, and the selector's function. -/
def SlxE (w : World) (bx bs : Nat) : Prop := w.cell? ⟨bx, 0, none⟩ = some (.pointer (some ⟨bs, 0, none⟩)) ∧ w.cell? ⟨bs, 0, none⟩ = some (.func (.func 29) #[] #[])
theorem SlxE.only {w w' : World} {S : Nat → Prop} {bx bs : Nat} (h : SlxE w bx bs) (ho : Only S w w') (h1 : ¬ S bx) (h2 : ¬ S bs) : SlxE w' bx bs := ⟨ho.cell h.1 h1, ho.cell h.2 h2⟩
theorem SlxE.keep {w w' : World} {bx bs : Nat} (h : SlxE w bx bs) (hb : Below w.heap.size w w') : SlxE w' bx bs := h.only (S := fun _ => False) (Only.of_below hb) (fun h => h) fun h => h
theorem SlxE.lt {w : World} {bx bs : Nat} (h : SlxE w bx bs) : bx < w.heap.size ∧ bs < w.heap.size := ⟨World.block_lt_of_cell? _ _ h.1, World.block_lt_of_cell? _ _ h.2⟩
theorem SlxE.less {w : World} {bx bs : Nat} (h : SlxE w bx bs) (a0 a1 a2 b0 b1 b2 : Int) (W : World) (hb : Below w.heap.size w W) : Calls Try.prog 83 #[.agg #[.int .i64 a0, .int .i64 a1, .int .i64 a2], .agg #[.int .i64 b0, .int .i64 b1, .int .i64 b2], .pointer (some ⟨bx, 0, none⟩)] W fun e w' => e = .returned (.bool (ltE (a0, a1, a2) (b0, b1, b2))) ∧ Below W.heap.size W w' :=
  LessE_calls bx bs a0 a1 a2 b0 b1 b2 W (h.keep hb).1 (h.keep hb).2
/-- A heap at block b: the function, the row v of the things l. -/
def HpE (bx : Nat) (w : World) (b lo : Nat) (v : Value) (l : List (Int × Int × Int)) : Prop :=
  w.heap[b]? = some (.cells #[.func (.func 83) #[] #[.pointer (some ⟨bx, 0, none⟩)], v] 161 (0, 0)) ∧ OwnF w lo 124 3 tri v l ∧ lo ≤ b ∧ (∀ k, v.ownBlock = some k → k ≠ b)
def HpBE (v : Value) (b : Nat) (k : Nat) : Prop := k = b ∨ OwnB v k
def HpToE (bx : Nat) (w w' : World) (b lo : Nat) (v v' : Value) (l' : List (Int × Int × Int)) : Prop :=
  HpE bx w' b lo v' l' ∧ HeapOk ltE l' ∧ Only (HpBE v b) w w' ∧ ∀ k, v'.ownBlock = some k → v.ownBlock = some k ∨ w.heap.size ≤ k
theorem Only.trans2E {S T : Nat → Prop} {a b c : World} (h1 : Only S a b) (h2 : Only T b c) (h : ∀ k, k < a.heap.size → T k → S k) : Only S a c :=
  ⟨h2.os.trans h1.os, h2.tape.trans h1.tape, h2.output.trans h1.output, Nat.le_trans h1.size h2.size, fun k hk hs => (h2.block k (by have := h1.size; omega) fun ht => hs (h k hk ht)).trans (h1.block k hk hs)⟩
theorem HpE.only {w w' : World} {S : Nat → Prop} {bx b lo : Nat} {v : Value} {l : List (Int × Int × Int)} (h : HpE bx w b lo v l) (ho : Only S w w') (hb : ¬ S b) (hv : ∀ k, v.ownBlock = some k → ¬ S k) : HpE bx w' b lo v l :=
  ⟨ho.obj h.1 hb, h.2.1.only ho hv, h.2.2⟩
theorem HpE.lt {w : World} {bx b lo : Nat} {v : Value} {l : List (Int × Int × Int)} (h : HpE bx w b lo v l) : b < w.heap.size := obj_lt h.1
theorem HpE.keep {w w' : World} {bx b lo : Nat} {v : Value} {l : List (Int × Int × Int)} (h : HpE bx w b lo v l) (hb : Below w.heap.size w w') : HpE bx w' b lo v l := h.only (S := fun _ => False) (Only.of_below hb) (fun h => h) fun _ _ h => h
theorem HpE.drew1 {w : World} {K0 b lo : Nat} {v : Value} {l : List (Int × Int × Int)} (h : HpE K0 w b lo v l) : HpE K0 w.drew b lo v l := ⟨h.1, own_drew1 h.2.1, h.2.2⟩
set_option maxHeartbeats 1600000 in
theorem HpE.swap {w : World} {bx b lo g n c i j : Nat} {l : List (Int × Int × Int)} {x y : Int × Int × Int} (h : HpE bx w b lo (.slice (some ⟨g, 0, none⟩) n c) l) (hi : i < n) (hj : j < n) :
    HpE bx (((((((w.setCell ⟨g, i * 3, none⟩ (.int .i64 y.1)).setCell ⟨g, i * 3 + 1, none⟩ (.int .i64 y.2.1)).setCell ⟨g, i * 3 + 2, none⟩ (.int .i64 y.2.2)).setCell ⟨g, j * 3, none⟩ (.int .i64 x.1)).setCell ⟨g, j * 3 + 1, none⟩ (.int .i64 x.2.1)).setCell ⟨g, j * 3 + 2, none⟩ (.int .i64 x.2.2)).drew) b lo (.slice (some ⟨g, 0, none⟩) n c) (swp l i j y x) ∧ Only (HpBE (.slice (some ⟨g, 0, none⟩) n c) b) w (((((((w.setCell ⟨g, i * 3, none⟩ (.int .i64 y.1)).setCell ⟨g, i * 3 + 1, none⟩ (.int .i64 y.2.1)).setCell ⟨g, i * 3 + 2, none⟩ (.int .i64 y.2.2)).setCell ⟨g, j * 3, none⟩ (.int .i64 x.1)).setCell ⟨g, j * 3 + 1, none⟩ (.int .i64 x.2.1)).setCell ⟨g, j * 3 + 2, none⟩ (.int .i64 x.2.2)).drew) := by
  obtain ⟨h1, h2, h3, h4⟩ := h
  have hgb : b ≠ g := fun e => h4 g rfl e.symm
  have h5 := h2.store3 i hi y
  have h6 := h5.store3 j hj x
  have so := fun (W : World) (q : Nat) (u : Value) (o : Obj) (h : W.heap[b]? = some o) => set_other (g := g) h q u hgb
  have hs := fun (W : World) (q : Nat) (u : Value) => (only_set W g q u).mono (T := HpBE (.slice (some ⟨g, 0, none⟩) n c) b) fun k _ h => .inr (by rw [h]; rfl)
  have e1 := so _ (i * 3) (.int .i64 y.1) _ h1
  have e2 := so _ (i * 3 + 1) (.int .i64 y.2.1) _ e1
  have e3 := so _ (i * 3 + 2) (.int .i64 y.2.2) _ e2
  have e4 := so _ (j * 3) (.int .i64 x.1) _ e3
  have e5 := so _ (j * 3 + 1) (.int .i64 x.2.1) _ e4
  have e6 := so _ (j * 3 + 2) (.int .i64 x.2.2) _ e5
  have o1 := hs w (i * 3) (.int .i64 y.1)
  have o2 := o1.trans (hs _ (i * 3 + 1) (.int .i64 y.2.1))
  have o3 := o2.trans (hs _ (i * 3 + 2) (.int .i64 y.2.2))
  have o4 := o3.trans (hs _ (j * 3) (.int .i64 x.1))
  have o5 := o4.trans (hs _ (j * 3 + 1) (.int .i64 x.2.1))
  have o6 := o5.trans (hs _ (j * 3 + 2) (.int .i64 x.2.2))
  have hp6 := HpE.drew1 (K0 := bx) ⟨e6, h6, h3, h4⟩
  exact ⟨hp6, o6.trans (only_drew_self _ _)⟩
theorem Only.preE {S : Nat → Prop} {a W1 W w2 : World} (h1 : Below a.heap.size a W1) (hg : Only S W w2) (hb : Below W1.heap.size W1 W) : Only S a w2 := (Only.of_below (h1.trans (hb.mono h1.size))).trans hg
theorem at_preE {x v : Option Nat} {W1 W : World} (h : x = v ∨ x = some W.heap.size) (hb : Below W1.heap.size W1 W) : x = v ∨ ∃ k, x = some k ∧ W1.heap.size ≤ k := h.imp id fun h => ⟨_, h, hb.size⟩
set_option maxHeartbeats 3200000 in
set_option maxRecDepth 1000000 in
theorem PushE_calls (bx bs b lo : Nat) (v : Value) (l : List (Int × Int × Int)) (x0 x1 x2 : Int) (w : World) (h : HpE bx w b lo v l) (hok : HeapOk ltE l) (hl : l.length ≤ 1000000) (hsl : SlxE w bx bs) (hnx : Ns v b bx) (hns : Ns v b bs) :
    Calls Try.prog 85 #[.pointer (some ⟨b, 0, none⟩), .agg #[.int .i64 x0, .int .i64 x1, .int .i64 x2]] w fun e w' => e = .returned (.tuple #[]) ∧ ∃ v' l', HpToE bx w w' b lo v v' l' ∧ l'.Perm ((x0, x1, x2) :: l) := by
  obtain ⟨h1, h2, h3, h4⟩ := h
  have hb := obj_lt h1
  obtain ⟨A, c, rfl, hlc⟩ := h2.shape
  have hc1 : w.cell? ⟨b, 1, none⟩ = some (.slice A l.length c) := by simp [World.cell?, h1]
  have hf1 : w.frozen? ⟨b, 1, none⟩ = false := by simp [World.frozen?, h1]
  have H1 := Lib.hid h1
  have H2 := Lib.hid h2
  have HOK := Lib.hid hok
  clear h1 h2 hok
  have hwr : IntKind.i64.wrap ((l.length : Int) + 1 - 1) = (l.length : Int) := by rw [i64_w, show ((l.length : Int) + 1 - 1) = (l.length : Int) by omega]; exact wrap64_id _ (by omega)
  go_enter Try.func85, Try.ntmps85
  go_wp2_with fail
  obtain ⟨W1, hW1⟩ : ∃ W, w.alloc (.cells #[.int .i64 x0, .int .i64 x1, .int .i64 x2] 124) = W := ⟨_, rfl⟩
  have hB1 : Below w.heap.size w W1 := by rw [← hW1]; exact below_alloc1 (Below.refl _ _) _
  have hz1 : W1.heap.size = w.heap.size + 1 := by rw [← hW1]; simp
  have hx1 : W1.heap[w.heap.size]? = some (.cells #[.int .i64 x0, .int .i64 x1, .int .i64 x2] 124 (0, 0)) := by rw [← hW1]; exact heap_alloc_new _ _
  have hb1 := obj_below hB1 H1.out hb
  have hown1 : OwnF W1 lo 124 3 tri (.slice A l.length c) l := H2.out.keep hB1
  rw [hW1]
  have hx10 : W1.cell? ⟨w.heap.size, 0, none⟩ = some (.int .i64 x0) := by simp [World.cell?, hx1]
  have hx11 : W1.cell? ⟨w.heap.size, 1, none⟩ = some (.int .i64 x1) := by simp [World.cell?, hx1]
  have hx12 : W1.cell? ⟨w.heap.size, 2, none⟩ = some (.int .i64 x2) := by simp [World.cell?, hx1]
  have hc11 : W1.cell? ⟨b, 1, none⟩ = some (.slice A l.length c) := by simp [World.cell?, hb1]
  have gx0 := fun o => (World.cell?_alloc_lt (o := o) W1 _ (World.block_lt_of_cell? _ _ hx10)).trans hx10
  have gx1 := fun o => (World.cell?_alloc_lt (o := o) W1 _ (World.block_lt_of_cell? _ _ hx11)).trans hx11
  have gx2 := fun o => (World.cell?_alloc_lt (o := o) W1 _ (World.block_lt_of_cell? _ _ hx12)).trans hx12
  have gc1 := fun o => (World.cell?_alloc_lt (o := o) W1 _ (World.block_lt_of_cell? _ _ hc11)).trans hc11
  have hlo1 : lo ≤ W1.heap.size := by omega
  have HB1 := Lib.hid hB1
  have HH1 := Lib.hid hb1
  have HO1 := Lib.hid hown1
  have HZ1 := Lib.hid hz1
  have HX1 := Lib.hid hx1
  clear hB1 hb1 hown1 hz1 hx1 hW1
  go_cut [13] (fun s13 wx => ∃ A1 c1, l.length + 1 ≤ c1 ∧ HpE bx wx b lo (.slice A1 (l.length + 1) c1) (l ++ [(x0, x1, x2)]) ∧ Only (HpBE (.slice A l.length c) b) w wx ∧ (∀ k, (Value.slice A1 (l.length + 1) c1).ownBlock = some k → (Value.slice A l.length c).ownBlock = some k ∨ w.heap.size ≤ k))
  case first =>
    go_region_law
      (first
        | (refine step_appF (q := 3) (f := tri) _ (by rfl) (.tmp 10) (.tmp 12) 129 124 (by rfl) (.agg #[.int .i64 0, .int .i64 0, .int .i64 0]) 24 Try.underlying129 infoE rfl (by omega) (by omega) tri_q tri_one lo (.slice A l.length c) l (by rfl) (some ⟨W1.heap.size, 0, none⟩) 1 [(x0, x1, x2)] (by rfl) (by repeat (first | exact HO1.out | apply OwnF.alloc1 | apply OwnF.drew1)) W1 (by repeat (first | exact Below.refl _ _ | assumption | apply below_drew1 | refine Below.alloc ?_ (by first | omega | (simp; omega)) _)) (by simp; omega) (RdC.block (cs := #[.int .i64 x0, .int .i64 x1, .int .i64 x2]) (heap_alloc_new _ _)) (by simp; omega) ?_; intro v1 w2 ho hgrow hbel hat hnil; obtain ⟨A1, c1, hv1, hlc1⟩ := ho.shape; rw [show (l ++ [(x0, x1, x2)]).length = l.length + 1 by simp] at hv1 hlc1; subst hv1; have hob := hgrow.obj (obj_below (B := W1.heap.size) (w := W1) (by repeat (first | exact Below.refl _ _ | apply below_drew1 | apply below_alloc1)) HH1.out (obj_lt HH1.out)) (fun h => h4 _ h rfl); have HOB2 := Lib.hid hob; have hfz : w2.frozen? ⟨b, 1, none⟩ = false := free_blk hob 1; have hcs : w2.cell? ⟨b, 1, none⟩ = some (.slice A l.length c) := (by simp [World.cell?, hob]); have HO := Lib.hid ho; have HG := Lib.hid (Only.preE HB1.out hgrow (by repeat (first | exact Below.refl _ _ | apply below_drew1 | apply below_alloc1))); have HAT := Lib.hid (at_preE hat (W1 := W1) (by repeat (first | exact Below.refl _ _ | apply below_drew1 | apply below_alloc1))); clear ho hgrow hbel hat hnil hob))
    all_goals
      go_wp2_with fail
      go_meet
      have hfr : ∀ k, (Value.slice A1 (l.length + 1) c1).ownBlock = some k → (Value.slice A l.length c).ownBlock = some k ∨ w.heap.size ≤ k := fun k hk => by
        rcases HAT.out with h | ⟨k1, h, hk1⟩
        · exact .inl (h ▸ hk)
        · rw [hk] at h
          injection h with h
          exact .inr (by have := HZ1.out; omega)
      have hne : ∀ k, (Value.slice A1 (l.length + 1) c1).ownBlock = some k → k ≠ b := fun k hk => by
        rcases hfr k hk with h | h
        · exact h4 k h
        · omega
      exact ⟨A1, c1, hlc1, ⟨set_blk (cs := [_, _]) HOB2.out 1 _, HO.out.only (only_set _ _ _ _) fun k hk h => hne k hk h, h3, hne⟩, (HG.out.mono fun k _ h => .inr h).trans ((only_set w2 b 1 _).mono fun k _ h => .inl h), hfr⟩
  obtain ⟨A1, c1, hlc1, hHp, hoB, hfr⟩ := hcut
  have hne : ∀ k, (Value.slice A1 (l.length + 1) c1).ownBlock = some k → k ≠ b := hHp.2.2.2
  have hsl1 : SlxE wc bx bs := hsl.only hoB hnx hns
  have HSL1 := Lib.hid hsl1
  have hslt := hsl.lt
  have hfg : ∀ k, (Value.slice A1 (l.length + 1) c1).ownBlock = some k → k ≠ bx ∧ k ≠ bs := fun k hk => by
    rcases hfr k hk with h | h
    · exact ⟨fun e => hnx (.inr (by rw [← e]; exact h)), fun e => hns (.inr (by rw [← e]; exact h))⟩
    · omega
  clear hsl hsl1
  have HHP := Lib.hid hHp
  have HOB := Lib.hid hoB
  have HFR := Lib.hid hfr
  have hc13 : wc.cell? ⟨b, 1, none⟩ = some (.slice A1 (l.length + 1) c1) := by have h := hHp.1; simp [World.cell?, h]
  clear hc11 hx10 hx11 hx12 gx0 gx1 gx2 gc1 hoB hfr hHp hc1 hf1 H1 H2 HB1 HH1 HO1 HZ1 HX1
  go_wp2_with fail
  have hU0 : UpOk ltE (l ++ [(x0, x1, x2)]) l.length := UpOk.push HOK.out (x0, x1, x2)
  have hP0 : (l ++ [(x0, x1, x2)]).Perm ((x0, x1, x2) :: l) := List.perm_append_comm (l₁ := l) (l₂ := [(x0, x1, x2)])
  obtain ⟨g, _, rfl, hlg, _⟩ := HHP.out.2.1.at_ tri_q 0 (by omega) (by omega)
  have hgb : g ≠ b := hne g rfl
  obtain ⟨hgx, hgs⟩ := hfg g rfl
  clear hfg
  go_loopg [4] l.length (fun kq v4 w' => ∃ L : List (Int × Int × Int), kq ≤ l.length ∧ v4 = .int .i64 ((kq : Nat) : Int) ∧ HpE bx w' b lo (.slice (some ⟨g, 0, none⟩) (l.length + 1) c1) L ∧ L.length = l.length + 1 ∧ UpOk ltE L kq ∧ L.Perm ((x0, x1, x2) :: l) ∧ Only (HpBE (.slice (some ⟨g, 0, none⟩) (l.length + 1) c1) b) wc w')
  case atStart => exact ⟨l ++ [(x0, x1, x2)], Nat.le_refl _, rfl, HHP.out, by simp, hU0, hP0, Only.refl _ _⟩
  case round =>
    obtain ⟨L, hk, rfl, hH, hLl, hup, hpm, hon⟩ := hrel
    have HH := Lib.hid hH
    have HUP := Lib.hid hup
    have HPM := Lib.hid hpm
    have HON := Lib.hid hon
    have HSLr := Lib.hid (HSL1.out.only hon (fun h => h.elim (fun h => hnx (.inl h)) fun h => hgx (Option.some.inj h)) (fun h => h.elim (fun h => hns (.inl h)) fun h => hgs (Option.some.inj h)))
    have hc1 : wr.cell? ⟨b, 1, none⟩ = some (.slice (some ⟨g, 0, none⟩) (l.length + 1) c1) := by have h := hH.1; simp [World.cell?, h]
    have hc0 : wr.cell? ⟨b, 0, none⟩ = some (.func (.func 83) #[] #[.pointer (some ⟨bx, 0, none⟩)]) := by have h := hH.1; simp [World.cell?, h]
    clear hH hup hpm hon hc13 hU0 hP0 HHP
    cases gk with
    | zero =>
      go_wp2_with fail
      go_end0
      exact ⟨rfl, _, L, ⟨HH.out, HUP.out.stop (.inl rfl), HOB.out.trans2E HON.out (fun k hk h => h.imp id fun h => (HFR.out k h).resolve_right (by omega)), HFR.out⟩, HPM.out⟩
    | succ k1 =>
      obtain ⟨i, hi⟩ : ∃ i, k1 + 1 = i := ⟨_, rfl⟩
      obtain ⟨u, hu⟩ : ∃ u, k1 / 2 = u := ⟨_, rfl⟩
      have hui : (i - 1) / 2 = u := by omega
      rw [hi] at HUP hk ⊢
      have hpos : decide (0 < i) = true := decide_eq_true (by omega)
      have hwr1 : IntKind.i64.wrap ((i : Int) - 1) = (k1 : Int) := by rw [i64_w, show ((i : Int) - 1) = (k1 : Int) by omega]; exact wrap64_id _ (by omega)
      have hdiv : (k1 : Int).tdiv 2 = (u : Int) := by rw [Int.tdiv_eq_ediv_of_nonneg (by omega)]; omega
      have hwr2 : IntKind.i64.wrap (u : Int) = (u : Int) := by rw [i64_w]; exact wrap64_id _ (by omega)
      obtain ⟨g', ⟨xi0, xi1, xi2⟩, hg', _, _, hxi, hci, hfi, _⟩ := HH.out.2.1.at_ tri_q i (by omega) (by omega)
      injection hg' with hg'
      injection hg' with hg'
      subst hg'
      obtain ⟨g', ⟨xu0, xu1, xu2⟩, hg', _, _, hxu, hcu, hfu, _⟩ := HH.out.2.1.at_ tri_q u (by omega) (by omega)
      injection hg' with hg'
      injection hg' with hg'
      subst hg'
      have hci0 : wr.cell? ⟨g, i * 3, none⟩ = some (.int .i64 xi0) := hci 0 (by omega)
      have hci1 : wr.cell? ⟨g, i * 3 + 1, none⟩ = some (.int .i64 xi1) := hci 1 (by omega)
      have hci2 : wr.cell? ⟨g, i * 3 + 2, none⟩ = some (.int .i64 xi2) := hci 2 (by omega)
      have hcu0 : wr.cell? ⟨g, u * 3, none⟩ = some (.int .i64 xu0) := hcu 0 (by omega)
      have hcu1 : wr.cell? ⟨g, u * 3 + 1, none⟩ = some (.int .i64 xu1) := hcu 1 (by omega)
      have hcu2 : wr.cell? ⟨g, u * 3 + 2, none⟩ = some (.int .i64 xu2) := hcu 2 (by omega)
      have HXI := Lib.hid hxi
      have HXU := Lib.hid hxu
      clear hci hcu hfi hfu
      have HI := Lib.hid hi
      have HU := Lib.hid hui
      have bi : (i : Int) < (l.length : Int) + 1 := by omega
      have bu : (u : Int) < (l.length : Int) + 1 := by omega
      clear hxi hxu hi hu hui
      have hbs0 : Below wr.heap.size wr wr := Below.refl _ _
      obtain ⟨r, hr⟩ : ∃ r, ltE (xi0, xi1, xi2) (xu0, xu1, xu2) = r := ⟨_, rfl⟩
      have HR := Lib.hid hr
      clear hr
      cases r with
      | true =>
        go_wp2_with fail
        go_region_held3 (fun w' => w'.cell? ⟨b, 0, none⟩ = some (.func (.func 83) #[] #[.pointer (some ⟨bx, 0, none⟩)]) ∧ w'.cell? ⟨b, 1, none⟩ = some (.slice (some ⟨g, 0, none⟩) (l.length + 1) c1) ∧ w'.cell? ⟨g, i * 3, none⟩ = some (.int .i64 xi0) ∧ w'.cell? ⟨g, i * 3 + 1, none⟩ = some (.int .i64 xi1) ∧ w'.cell? ⟨g, i * 3 + 2, none⟩ = some (.int .i64 xi2) ∧ w'.cell? ⟨g, u * 3, none⟩ = some (.int .i64 xu0) ∧ w'.cell? ⟨g, u * 3 + 1, none⟩ = some (.int .i64 xu1) ∧ w'.cell? ⟨g, u * 3 + 2, none⟩ = some (.int .i64 xu2) ∧ Below wr.heap.size wr w')
          (first | exact ⟨cell_below (B := wr.heap.size) (w := wr) (by first | ((repeat (first | assumption | exact Below.refl _ _ | apply below_drew1 | apply below_alloc1)); done)) hc0 (World.block_lt_of_cell? _ _ hc0), cell_below (B := wr.heap.size) (w := wr) (by first | ((repeat (first | assumption | exact Below.refl _ _ | apply below_drew1 | apply below_alloc1)); done)) hc1 (World.block_lt_of_cell? _ _ hc1), cell_below (B := wr.heap.size) (w := wr) (by first | ((repeat (first | assumption | exact Below.refl _ _ | apply below_drew1 | apply below_alloc1)); done)) hci0 (World.block_lt_of_cell? _ _ hci0), cell_below (B := wr.heap.size) (w := wr) (by first | ((repeat (first | assumption | exact Below.refl _ _ | apply below_drew1 | apply below_alloc1)); done)) hci1 (World.block_lt_of_cell? _ _ hci1), cell_below (B := wr.heap.size) (w := wr) (by first | ((repeat (first | assumption | exact Below.refl _ _ | apply below_drew1 | apply below_alloc1)); done)) hci2 (World.block_lt_of_cell? _ _ hci2), cell_below (B := wr.heap.size) (w := wr) (by first | ((repeat (first | assumption | exact Below.refl _ _ | apply below_drew1 | apply below_alloc1)); done)) hcu0 (World.block_lt_of_cell? _ _ hcu0), cell_below (B := wr.heap.size) (w := wr) (by first | ((repeat (first | assumption | exact Below.refl _ _ | apply below_drew1 | apply below_alloc1)); done)) hcu1 (World.block_lt_of_cell? _ _ hcu1), cell_below (B := wr.heap.size) (w := wr) (by first | ((repeat (first | assumption | exact Below.refl _ _ | apply below_drew1 | apply below_alloc1)); done)) hcu2 (World.block_lt_of_cell? _ _ hcu2), (by first | ((repeat (first | assumption | exact Below.refl _ _ | apply below_drew1 | apply below_alloc1)); done))⟩ | go_keep)
          (first
            | (go_at_call 83; go_split_ands; (with_reducible refine Calls.mono (HSLr.out.less xi0 xi1 xi2 xu0 xu1 xu2 _ ?_) ?_); (exact (by first | ((repeat (first | assumption | exact Below.refl _ _ | apply below_drew1 | apply below_alloc1)); done))); rintro e wq ⟨he, hbq⟩; rw [HR.out] at he; subst he; have hbB : Below wr.heap.size wr wq := Below.after (by first | ((repeat (first | assumption | exact Below.refl _ _ | apply below_drew1 | apply below_alloc1)); done)) hbq))
        go_wp2_with fail
        have hiu : ¬ i = u := by have h1 := HI.out; have h2 := HU.out; omega
        have hui : ¬ u = i := by omega
        have hul : u ≤ l.length := by omega
        have hul2 : u < l.length + 1 := by omega
        have hil2 : i < l.length + 1 := by omega
        have hH2 : HpE bx wq b lo (.slice (some ⟨g, 0, none⟩) (l.length + 1) c1) L := HH.out.keep hbB
        have hsw := hH2.swap (x := (xi0, xi1, xi2)) (y := (xu0, xu1, xu2)) hil2 hul2
        have HSW := Lib.hid hsw
        obtain ⟨g', _, hg', _, _, _, _, hfq, _⟩ := hH2.2.1.at_ tri_q i (by omega) (by omega)
        injection hg' with hg'
        injection hg' with hg'
        subst hg'
        have hc1q : wq.cell? ⟨b, 1, none⟩ = some (.slice (some ⟨g, 0, none⟩) (l.length + 1) c1) := cell_below hbB hc1 (World.block_lt_of_cell? _ _ hc1)
        have hq1 : wq.cell? ⟨g, i * 3, none⟩ = some (.int .i64 xi0) := cell_below hbB hci0 (World.block_lt_of_cell? _ _ hci0)
        have hq2 : wq.cell? ⟨g, i * 3 + 1, none⟩ = some (.int .i64 xi1) := cell_below hbB hci1 (World.block_lt_of_cell? _ _ hci1)
        have hq5 : wq.cell? ⟨g, i * 3 + 2, none⟩ = some (.int .i64 xi2) := cell_below hbB hci2 (World.block_lt_of_cell? _ _ hci2)
        have hq6 : wq.cell? ⟨g, u * 3 + 2, none⟩ = some (.int .i64 xu2) := cell_below hbB hcu2 (World.block_lt_of_cell? _ _ hcu2)
        have hq3 : wq.cell? ⟨g, u * 3, none⟩ = some (.int .i64 xu0) := cell_below hbB hcu0 (World.block_lt_of_cell? _ _ hcu0)
        have hq4 : wq.cell? ⟨g, u * 3 + 1, none⟩ = some (.int .i64 xu1) := cell_below hbB hcu1 (World.block_lt_of_cell? _ _ hcu1)
        have hf1 := hfq (i * 3)
        have hf2 := hfq (i * 3 + 1)
        have hf3 := hfq (u * 3)
        have hf4 := hfq (u * 3 + 1)
        have hf5 := hfq (i * 3 + 2)
        have hf6 := hfq (u * 3 + 2)
        have n00a : ¬ i * 3 = u * 3 := by omega
        have n00b : ¬ u * 3 = i * 3 := by omega
        have n01a : ¬ i * 3 = u * 3 + 1 := by omega
        have n01b : ¬ u * 3 + 1 = i * 3 := by omega
        have n02a : ¬ i * 3 = u * 3 + 2 := by omega
        have n02b : ¬ u * 3 + 2 = i * 3 := by omega
        have n10a : ¬ i * 3 + 1 = u * 3 := by omega
        have n10b : ¬ u * 3 = i * 3 + 1 := by omega
        have n11a : ¬ i * 3 + 1 = u * 3 + 1 := by omega
        have n11b : ¬ u * 3 + 1 = i * 3 + 1 := by omega
        have n12a : ¬ i * 3 + 1 = u * 3 + 2 := by omega
        have n12b : ¬ u * 3 + 2 = i * 3 + 1 := by omega
        have n20a : ¬ i * 3 + 2 = u * 3 := by omega
        have n20b : ¬ u * 3 = i * 3 + 2 := by omega
        have n21a : ¬ i * 3 + 2 = u * 3 + 1 := by omega
        have n21b : ¬ u * 3 + 1 = i * 3 + 2 := by omega
        have n22a : ¬ i * 3 + 2 = u * 3 + 2 := by omega
        have n22b : ¬ u * 3 + 2 = i * 3 + 2 := by omega
        have HBQ := Lib.hid hbB
        clear hc0 hc1 hci0 hci1 hci2 hcu0 hcu1 hcu2 hsw hH2 hfq hbB hbq hbs0
        go_region
        go_wp2_with fail
        go_roundg u
        case measure => have h1 := HI.out; have h2 := HU.out; omega
        case rel =>
          refine ⟨swp L i u (xu0, xu1, xu2) (xi0, xi1, xi2), hul, rfl, HSW.out.1, by rw [swp_length]; exact hLl, ?_, (swp_perm HXI.out HXU.out).trans HPM.out, HON.out.trans (Only.trans (Only.of_below HBQ.out) HSW.out.2)⟩
          have h1 := HI.out
          have h2 := HU.out
          rw [← h2]
          exact HUP.out.swap ltE_wo (by omega) HXI.out (by rw [h2]; exact HXU.out) HR.out
      | false =>
        go_wp2_with fail
        go_region_held3 (fun w' => w'.cell? ⟨b, 0, none⟩ = some (.func (.func 83) #[] #[.pointer (some ⟨bx, 0, none⟩)]) ∧ w'.cell? ⟨b, 1, none⟩ = some (.slice (some ⟨g, 0, none⟩) (l.length + 1) c1) ∧ w'.cell? ⟨g, i * 3, none⟩ = some (.int .i64 xi0) ∧ w'.cell? ⟨g, i * 3 + 1, none⟩ = some (.int .i64 xi1) ∧ w'.cell? ⟨g, i * 3 + 2, none⟩ = some (.int .i64 xi2) ∧ w'.cell? ⟨g, u * 3, none⟩ = some (.int .i64 xu0) ∧ w'.cell? ⟨g, u * 3 + 1, none⟩ = some (.int .i64 xu1) ∧ w'.cell? ⟨g, u * 3 + 2, none⟩ = some (.int .i64 xu2) ∧ Below wr.heap.size wr w')
          (first | exact ⟨cell_below (B := wr.heap.size) (w := wr) (by first | ((repeat (first | assumption | exact Below.refl _ _ | apply below_drew1 | apply below_alloc1)); done)) hc0 (World.block_lt_of_cell? _ _ hc0), cell_below (B := wr.heap.size) (w := wr) (by first | ((repeat (first | assumption | exact Below.refl _ _ | apply below_drew1 | apply below_alloc1)); done)) hc1 (World.block_lt_of_cell? _ _ hc1), cell_below (B := wr.heap.size) (w := wr) (by first | ((repeat (first | assumption | exact Below.refl _ _ | apply below_drew1 | apply below_alloc1)); done)) hci0 (World.block_lt_of_cell? _ _ hci0), cell_below (B := wr.heap.size) (w := wr) (by first | ((repeat (first | assumption | exact Below.refl _ _ | apply below_drew1 | apply below_alloc1)); done)) hci1 (World.block_lt_of_cell? _ _ hci1), cell_below (B := wr.heap.size) (w := wr) (by first | ((repeat (first | assumption | exact Below.refl _ _ | apply below_drew1 | apply below_alloc1)); done)) hci2 (World.block_lt_of_cell? _ _ hci2), cell_below (B := wr.heap.size) (w := wr) (by first | ((repeat (first | assumption | exact Below.refl _ _ | apply below_drew1 | apply below_alloc1)); done)) hcu0 (World.block_lt_of_cell? _ _ hcu0), cell_below (B := wr.heap.size) (w := wr) (by first | ((repeat (first | assumption | exact Below.refl _ _ | apply below_drew1 | apply below_alloc1)); done)) hcu1 (World.block_lt_of_cell? _ _ hcu1), cell_below (B := wr.heap.size) (w := wr) (by first | ((repeat (first | assumption | exact Below.refl _ _ | apply below_drew1 | apply below_alloc1)); done)) hcu2 (World.block_lt_of_cell? _ _ hcu2), (by first | ((repeat (first | assumption | exact Below.refl _ _ | apply below_drew1 | apply below_alloc1)); done))⟩ | go_keep)
          (first
            | (go_at_call 83; go_split_ands; (with_reducible refine Calls.mono (HSLr.out.less xi0 xi1 xi2 xu0 xu1 xu2 _ ?_) ?_); (exact (by first | ((repeat (first | assumption | exact Below.refl _ _ | apply below_drew1 | apply below_alloc1)); done))); rintro e wq ⟨he, hbq⟩; rw [HR.out] at he; subst he; have hbB : Below wr.heap.size wr wq := Below.after (by first | ((repeat (first | assumption | exact Below.refl _ _ | apply below_drew1 | apply below_alloc1)); done)) hbq))
        go_wp2_with fail
        go_end0
        refine ⟨rfl, _, L, ⟨HH.out.keep hbB, HUP.out.stop (.inr fun a b' ha hb' => ?_), HOB.out.trans2E (HON.out.trans (Only.of_below hbB)) (fun k hk h => h.imp id fun h => (HFR.out k h).resolve_right (by omega)), HFR.out⟩, HPM.out⟩
        have h2 := HU.out
        rw [h2, HXU.out] at hb'
        rw [HXI.out] at ha
        injection ha with ha
        injection hb' with hb'
        subst ha hb'
        exact HR.out
end Go.Proofs.Ytacgkoclammggaa
