
/-
  The heap of things of two whole numbers (package heap, api.Result): the contract of Push, by a list that is a heap. Condition: the heap's blocks are as the word HpR says; no more than a million things.
-/
import Derived.Test.YtacgkoclammggaaHeapMath
import Derived.Test.YtacgkoclammggaaTwo
import Derived.Test.YtacgkoclammggaaOrder1
import Derived.BigRegion
import Derived.Deep.RegionHeld3
namespace Go.Proofs.Ytacgkoclammggaa
open Go.RowKit
set_option linter.unusedVariables false
set_option maxRecDepth 100000
set_option linter.unusedSimpArgs false

def twoR (p : Int × Int) : List Value := [.int .i64 p.1, .int .i64 p.2]
theorem twoR_q (p : Int × Int) : (twoR p).length = 2 := rfl
theorem twoR_one (p : Int × Int) : ∀ u ∈ twoR p, u.oneCell' = true := by
  intro u hu
  simp [twoR] at hu
  rcases hu with rfl | rfl <;> rfl
def ltR (a b : Int × Int) : Bool := nearB a.1 a.2 b.1 b.2
theorem ltR_iff (a b : Int × Int) : ltR a b = true ↔ a.2 < b.2 ∨ (a.2 = b.2 ∧ a.1 < b.1) := by
  unfold ltR nearB orV cmpV
  rw [decide_eq_true_iff]
  repeat' split
  all_goals omega
theorem ltR_no (a b : Int × Int) : ltR a b = false ↔ ¬ (a.2 < b.2 ∨ (a.2 = b.2 ∧ a.1 < b.1)) := by
  rw [← ltR_iff, Bool.not_eq_true]
theorem ltR_wo : WO ltR := ⟨fun a b h => by rw [ltR_iff] at h; rw [ltR_no]; omega, fun a b c h1 h2 => by rw [ltR_no] at *; omega⟩
theorem infoR : (Try.prog.info? 41).map (fun i => (i.zero, i.size, i.bytes)) = some (some (.agg #[.int .i64 0, .int .i64 0]), 2, 16) := by kernel_rfl
/-- A heap at block b: the function, the row v of the things l. -/
def HpR (w : World) (b lo : Nat) (v : Value) (l : List (Int × Int)) : Prop :=
  w.heap[b]? = some (.cells #[.func (.func 29) #[] #[], v] 111 (0, 0)) ∧ OwnF w lo 41 2 twoR v l ∧ lo ≤ b ∧ (∀ k, v.ownBlock = some k → k ≠ b)
def HpBR (v : Value) (b : Nat) (k : Nat) : Prop := k = b ∨ OwnB v k
def HpToR (w w' : World) (b lo : Nat) (v v' : Value) (l' : List (Int × Int)) : Prop :=
  HpR w' b lo v' l' ∧ HeapOk ltR l' ∧ Only (HpBR v b) w w' ∧ ∀ k, v'.ownBlock = some k → v.ownBlock = some k ∨ w.heap.size ≤ k
theorem Only.trans2R {S T : Nat → Prop} {a b c : World} (h1 : Only S a b) (h2 : Only T b c) (h : ∀ k, k < a.heap.size → T k → S k) : Only S a c :=
  ⟨h2.os.trans h1.os, h2.tape.trans h1.tape, h2.output.trans h1.output, Nat.le_trans h1.size h2.size, fun k hk hs => (h2.block k (by have := h1.size; omega) fun ht => hs (h k hk ht)).trans (h1.block k hk hs)⟩
theorem HpR.only {w w' : World} {S : Nat → Prop} {b lo : Nat} {v : Value} {l : List (Int × Int)} (h : HpR w b lo v l) (ho : Only S w w') (hb : ¬ S b) (hv : ∀ k, v.ownBlock = some k → ¬ S k) : HpR w' b lo v l :=
  ⟨ho.obj h.1 hb, h.2.1.only ho hv, h.2.2⟩
theorem HpR.lt {w : World} {b lo : Nat} {v : Value} {l : List (Int × Int)} (h : HpR w b lo v l) : b < w.heap.size := obj_lt h.1
theorem HpR.keep {w w' : World} {b lo : Nat} {v : Value} {l : List (Int × Int)} (h : HpR w b lo v l) (hb : Below w.heap.size w w') : HpR w' b lo v l := h.only (S := fun _ => False) (Only.of_below hb) (fun h => h) fun _ _ h => h
theorem HpR.swap {w : World} {b lo g n c i j : Nat} {l : List (Int × Int)} {x y : Int × Int} (h : HpR w b lo (.slice (some ⟨g, 0, none⟩) n c) l) (hi : i < n) (hj : j < n) :
    HpR (((((w.setCell ⟨g, i * 2, none⟩ (.int .i64 y.1)).setCell ⟨g, i * 2 + 1, none⟩ (.int .i64 y.2)).setCell ⟨g, j * 2, none⟩ (.int .i64 x.1)).setCell ⟨g, j * 2 + 1, none⟩ (.int .i64 x.2)).drew) b lo (.slice (some ⟨g, 0, none⟩) n c) (swp l i j y x) ∧ Only (HpBR (.slice (some ⟨g, 0, none⟩) n c) b) w (((((w.setCell ⟨g, i * 2, none⟩ (.int .i64 y.1)).setCell ⟨g, i * 2 + 1, none⟩ (.int .i64 y.2)).setCell ⟨g, j * 2, none⟩ (.int .i64 x.1)).setCell ⟨g, j * 2 + 1, none⟩ (.int .i64 x.2)).drew) := by
  obtain ⟨h1, h2, h3, h4⟩ := h
  have hgb : b ≠ g := fun e => h4 g rfl e.symm
  have h5 := h2.store2 twoR_q i hi (y := y) rfl
  have h6 := h5.store2 twoR_q j hj (y := x) rfl
  refine ⟨⟨set_other (set_other (set_other (set_other h1 _ _ hgb) _ _ hgb) _ _ hgb) _ _ hgb, own_drew1 h6, h3, h4⟩, ?_⟩
  have hs : ∀ (W : World) (q : Nat) (u : Value), Only (HpBR (.slice (some ⟨g, 0, none⟩) n c) b) W (W.setCell ⟨g, q, none⟩ u) := fun W q u => (only_set W g q u).mono fun k _ h => .inr (by rw [h]; rfl)
  exact ((((hs _ _ _).trans (hs _ _ _)).trans (hs _ _ _)).trans (hs _ _ _)).trans (Only.of_below (Below.refl _ _).drew)
theorem Only.preR {S : Nat → Prop} {a W1 W w2 : World} (h1 : Below a.heap.size a W1) (hg : Only S W w2) (hb : Below W1.heap.size W1 W) : Only S a w2 := (Only.of_below (h1.trans (hb.mono h1.size))).trans hg
theorem at_preR {x v : Option Nat} {W1 W : World} (h : x = v ∨ x = some W.heap.size) (hb : Below W1.heap.size W1 W) : x = v ∨ ∃ k, x = some k ∧ W1.heap.size ≤ k := h.imp id fun h => ⟨_, h, hb.size⟩
set_option maxHeartbeats 3200000 in
set_option maxRecDepth 1000000 in
theorem PushR_calls (b lo : Nat) (v : Value) (l : List (Int × Int)) (x0 x1 : Int) (w : World) (h : HpR w b lo v l) (hok : HeapOk ltR l) (hl : l.length ≤ 1000000) :
    Calls Try.prog 74 #[.pointer (some ⟨b, 0, none⟩), .agg #[.int .i64 x0, .int .i64 x1]] w fun e w' => e = .returned (.tuple #[]) ∧ ∃ v' l', HpToR w w' b lo v v' l' ∧ l'.Perm ((x0, x1) :: l) := by
  obtain ⟨h1, h2, h3, h4⟩ := h
  have hb := obj_lt h1
  obtain ⟨A, c, rfl, hlc⟩ := h2.shape
  have hc1 : w.cell? ⟨b, 1, none⟩ = some (.slice A l.length c) := by simp [World.cell?, h1]
  have hf1 : w.frozen? ⟨b, 1, none⟩ = false := by simp [World.frozen?, h1]
  have H1 := Lib.hid h1
  have H2 := Lib.hid h2
  have HOK := Lib.hid hok
  clear h1 h2 hok
  have hwr : IntKind.i64.wrap ((l.length : Int) + 1 - 1) = (l.length : Int) := by rw [i64_w, show ((l.length : Int) + 1 - 1) = (l.length : Int) by omega]; exact wrap64_id _ (by omega)
  go_enter Try.func74, Try.ntmps74
  go_wp2_with fail
  obtain ⟨W1, hW1⟩ : ∃ W, w.alloc (.cells #[.int .i64 x0, .int .i64 x1] 41) = W := ⟨_, rfl⟩
  have hB1 : Below w.heap.size w W1 := by rw [← hW1]; exact below_alloc1 (Below.refl _ _) _
  have hz1 : W1.heap.size = w.heap.size + 1 := by rw [← hW1]; simp
  have hx1 : W1.heap[w.heap.size]? = some (.cells #[.int .i64 x0, .int .i64 x1] 41 (0, 0)) := by rw [← hW1]; exact heap_alloc_new _ _
  have hb1 := obj_below hB1 H1.out hb
  have hown1 : OwnF W1 lo 41 2 twoR (.slice A l.length c) l := H2.out.keep hB1
  rw [hW1]
  have hx10 : W1.cell? ⟨w.heap.size, 0, none⟩ = some (.int .i64 x0) := by simp [World.cell?, hx1]
  have hx11 : W1.cell? ⟨w.heap.size, 1, none⟩ = some (.int .i64 x1) := by simp [World.cell?, hx1]
  have hc11 : W1.cell? ⟨b, 1, none⟩ = some (.slice A l.length c) := by simp [World.cell?, hb1]
  have gx0 := fun o => (World.cell?_alloc_lt (o := o) W1 _ (World.block_lt_of_cell? _ _ hx10)).trans hx10
  have gx1 := fun o => (World.cell?_alloc_lt (o := o) W1 _ (World.block_lt_of_cell? _ _ hx11)).trans hx11
  have gc1 := fun o => (World.cell?_alloc_lt (o := o) W1 _ (World.block_lt_of_cell? _ _ hc11)).trans hc11
  have hlo1 : lo ≤ W1.heap.size := by omega
  have HB1 := Lib.hid hB1
  have HH1 := Lib.hid hb1
  have HO1 := Lib.hid hown1
  have HZ1 := Lib.hid hz1
  have HX1 := Lib.hid hx1
  clear hB1 hb1 hown1 hz1 hx1 hW1
  go_cut [13] (fun s13 wx => ∃ A1 c1, l.length + 1 ≤ c1 ∧ HpR wx b lo (.slice A1 (l.length + 1) c1) (l ++ [(x0, x1)]) ∧ Only (HpBR (.slice A l.length c) b) w wx ∧ (∀ k, (Value.slice A1 (l.length + 1) c1).ownBlock = some k → (Value.slice A l.length c).ownBlock = some k ∨ w.heap.size ≤ k))
  case first =>
    go_region_law
      (first
        | (refine step_appF (q := 2) (f := twoR) _ (by rfl) (.tmp 10) (.tmp 12) 49 41 (by rfl) (.agg #[.int .i64 0, .int .i64 0]) 16 Try.underlying49 infoR rfl (by omega) (by omega) twoR_q twoR_one lo (.slice A l.length c) l (by rfl) (some ⟨W1.heap.size, 0, none⟩) 1 [(x0, x1)] (by rfl) (by repeat (first | exact HO1.out | apply OwnF.alloc1 | apply OwnF.drew1)) W1 (by repeat (first | exact Below.refl _ _ | assumption | apply below_drew1 | refine Below.alloc ?_ (by first | omega | (simp; omega)) _)) (by simp; omega) (RdC.block (cs := #[.int .i64 x0, .int .i64 x1]) (heap_alloc_new _ _)) (by simp; omega) ?_; intro v1 w2 ho hgrow hbel hat hnil; obtain ⟨A1, c1, hv1, hlc1⟩ := ho.shape; rw [show (l ++ [(x0, x1)]).length = l.length + 1 by simp] at hv1 hlc1; subst hv1; have hob := hgrow.obj (obj_below (B := W1.heap.size) (w := W1) (by repeat (first | exact Below.refl _ _ | apply below_drew1 | apply below_alloc1)) HH1.out (obj_lt HH1.out)) (fun h => h4 _ h rfl); have HOB2 := Lib.hid hob; have hfz : w2.frozen? ⟨b, 1, none⟩ = false := free_blk hob 1; have hcs : w2.cell? ⟨b, 1, none⟩ = some (.slice A l.length c) := (by simp [World.cell?, hob]); have HO := Lib.hid ho; have HG := Lib.hid (Only.preR HB1.out hgrow (by repeat (first | exact Below.refl _ _ | apply below_drew1 | apply below_alloc1))); have HAT := Lib.hid (at_preR hat (W1 := W1) (by repeat (first | exact Below.refl _ _ | apply below_drew1 | apply below_alloc1))); clear ho hgrow hbel hat hnil hob))
    all_goals
      go_wp2_with fail
      go_meet
      have hfr : ∀ k, (Value.slice A1 (l.length + 1) c1).ownBlock = some k → (Value.slice A l.length c).ownBlock = some k ∨ w.heap.size ≤ k := fun k hk => by
        rcases HAT.out with h | ⟨k1, h, hk1⟩
        · exact .inl (h ▸ hk)
        · rw [hk] at h
          injection h with h
          exact .inr (by have := HZ1.out; omega)
      have hne : ∀ k, (Value.slice A1 (l.length + 1) c1).ownBlock = some k → k ≠ b := fun k hk => by
        rcases hfr k hk with h | h
        · exact h4 k h
        · omega
      exact ⟨A1, c1, hlc1, ⟨set_blk (cs := [_, _]) HOB2.out 1 _, HO.out.only (only_set _ _ _ _) fun k hk h => hne k hk h, h3, hne⟩, (HG.out.mono fun k _ h => .inr h).trans ((only_set w2 b 1 _).mono fun k _ h => .inl h), hfr⟩
  obtain ⟨A1, c1, hlc1, hHp, hoB, hfr⟩ := hcut
  have hne : ∀ k, (Value.slice A1 (l.length + 1) c1).ownBlock = some k → k ≠ b := hHp.2.2.2
  have HHP := Lib.hid hHp
  have HOB := Lib.hid hoB
  have HFR := Lib.hid hfr
  have hc13 : wc.cell? ⟨b, 1, none⟩ = some (.slice A1 (l.length + 1) c1) := by have h := hHp.1; simp [World.cell?, h]
  clear hc11 hx10 hx11 gx0 gx1 gc1 hoB hfr hHp hc1 hf1 H1 H2 HB1 HH1 HO1 HZ1 HX1
  go_wp2_with fail
  have hU0 : UpOk ltR (l ++ [(x0, x1)]) l.length := UpOk.push HOK.out (x0, x1)
  have hP0 : (l ++ [(x0, x1)]).Perm ((x0, x1) :: l) := List.perm_append_comm (l₁ := l) (l₂ := [(x0, x1)])
  obtain ⟨g, _, rfl, hlg, _⟩ := HHP.out.2.1.at_ twoR_q 0 (by omega) (by omega)
  have hgb : g ≠ b := hne g rfl
  go_loopg [4] l.length (fun kq v4 w' => ∃ L : List (Int × Int), kq ≤ l.length ∧ v4 = .int .i64 ((kq : Nat) : Int) ∧ HpR w' b lo (.slice (some ⟨g, 0, none⟩) (l.length + 1) c1) L ∧ L.length = l.length + 1 ∧ UpOk ltR L kq ∧ L.Perm ((x0, x1) :: l) ∧ Only (HpBR (.slice (some ⟨g, 0, none⟩) (l.length + 1) c1) b) wc w')
  case atStart => exact ⟨l ++ [(x0, x1)], Nat.le_refl _, rfl, HHP.out, by simp, hU0, hP0, Only.refl _ _⟩
  case round =>
    obtain ⟨L, hk, rfl, hH, hLl, hup, hpm, hon⟩ := hrel
    have HH := Lib.hid hH
    have HUP := Lib.hid hup
    have HPM := Lib.hid hpm
    have HON := Lib.hid hon
    have hc1 : wr.cell? ⟨b, 1, none⟩ = some (.slice (some ⟨g, 0, none⟩) (l.length + 1) c1) := by have h := hH.1; simp [World.cell?, h]
    have hc0 : wr.cell? ⟨b, 0, none⟩ = some (.func (.func 29) #[] #[]) := by have h := hH.1; simp [World.cell?, h]
    clear hH hup hpm hon hc13 hU0 hP0 HHP
    cases gk with
    | zero =>
      go_wp2_with fail
      go_end0
      exact ⟨rfl, _, L, ⟨HH.out, HUP.out.stop (.inl rfl), HOB.out.trans2R HON.out (fun k hk h => h.imp id fun h => (HFR.out k h).resolve_right (by omega)), HFR.out⟩, HPM.out⟩
    | succ k1 =>
      obtain ⟨i, hi⟩ : ∃ i, k1 + 1 = i := ⟨_, rfl⟩
      obtain ⟨u, hu⟩ : ∃ u, k1 / 2 = u := ⟨_, rfl⟩
      have hui : (i - 1) / 2 = u := by omega
      rw [hi] at HUP hk ⊢
      have hpos : decide (0 < i) = true := decide_eq_true (by omega)
      have hwr1 : IntKind.i64.wrap ((i : Int) - 1) = (k1 : Int) := by rw [i64_w, show ((i : Int) - 1) = (k1 : Int) by omega]; exact wrap64_id _ (by omega)
      have hdiv : (k1 : Int).tdiv 2 = (u : Int) := by rw [Int.tdiv_eq_ediv_of_nonneg (by omega)]; omega
      have hwr2 : IntKind.i64.wrap (u : Int) = (u : Int) := by rw [i64_w]; exact wrap64_id _ (by omega)
      obtain ⟨g', ⟨xi0, xi1⟩, hg', _, _, hxi, hci, hfi, _⟩ := HH.out.2.1.at_ twoR_q i (by omega) (by omega)
      injection hg' with hg'
      injection hg' with hg'
      subst hg'
      obtain ⟨g', ⟨xu0, xu1⟩, hg', _, _, hxu, hcu, hfu, _⟩ := HH.out.2.1.at_ twoR_q u (by omega) (by omega)
      injection hg' with hg'
      injection hg' with hg'
      subst hg'
      have hci0 : wr.cell? ⟨g, i * 2, none⟩ = some (.int .i64 xi0) := hci 0 (by omega)
      have hci1 : wr.cell? ⟨g, i * 2 + 1, none⟩ = some (.int .i64 xi1) := hci 1 (by omega)
      have hcu0 : wr.cell? ⟨g, u * 2, none⟩ = some (.int .i64 xu0) := hcu 0 (by omega)
      have hcu1 : wr.cell? ⟨g, u * 2 + 1, none⟩ = some (.int .i64 xu1) := hcu 1 (by omega)
      have HXI := Lib.hid hxi
      have HXU := Lib.hid hxu
      clear hci hcu hfi hfu
      have HI := Lib.hid hi
      have HU := Lib.hid hui
      have bi : (i : Int) < (l.length : Int) + 1 := by omega
      have bu : (u : Int) < (l.length : Int) + 1 := by omega
      clear hxi hxu hi hu hui
      have hbs0 : Below wr.heap.size wr wr := Below.refl _ _
      obtain ⟨r, hr⟩ : ∃ r, nearB xi0 xi1 xu0 xu1 = r := ⟨_, rfl⟩
      have HR := Lib.hid hr
      clear hr
      cases r with
      | true =>
        go_wp2_with fail
        go_region_held3 (fun w' => w'.cell? ⟨b, 0, none⟩ = some (.func (.func 29) #[] #[]) ∧ w'.cell? ⟨b, 1, none⟩ = some (.slice (some ⟨g, 0, none⟩) (l.length + 1) c1) ∧ w'.cell? ⟨g, i * 2, none⟩ = some (.int .i64 xi0) ∧ w'.cell? ⟨g, i * 2 + 1, none⟩ = some (.int .i64 xi1) ∧ w'.cell? ⟨g, u * 2, none⟩ = some (.int .i64 xu0) ∧ w'.cell? ⟨g, u * 2 + 1, none⟩ = some (.int .i64 xu1) ∧ Below wr.heap.size wr w')
          (first | exact ⟨cell_below (B := wr.heap.size) (w := wr) (by first | ((repeat (first | assumption | exact Below.refl _ _ | apply below_drew1 | apply below_alloc1)); done)) hc0 (World.block_lt_of_cell? _ _ hc0), cell_below (B := wr.heap.size) (w := wr) (by first | ((repeat (first | assumption | exact Below.refl _ _ | apply below_drew1 | apply below_alloc1)); done)) hc1 (World.block_lt_of_cell? _ _ hc1), cell_below (B := wr.heap.size) (w := wr) (by first | ((repeat (first | assumption | exact Below.refl _ _ | apply below_drew1 | apply below_alloc1)); done)) hci0 (World.block_lt_of_cell? _ _ hci0), cell_below (B := wr.heap.size) (w := wr) (by first | ((repeat (first | assumption | exact Below.refl _ _ | apply below_drew1 | apply below_alloc1)); done)) hci1 (World.block_lt_of_cell? _ _ hci1), cell_below (B := wr.heap.size) (w := wr) (by first | ((repeat (first | assumption | exact Below.refl _ _ | apply below_drew1 | apply below_alloc1)); done)) hcu0 (World.block_lt_of_cell? _ _ hcu0), cell_below (B := wr.heap.size) (w := wr) (by first | ((repeat (first | assumption | exact Below.refl _ _ | apply below_drew1 | apply below_alloc1)); done)) hcu1 (World.block_lt_of_cell? _ _ hcu1), (by first | ((repeat (first | assumption | exact Below.refl _ _ | apply below_drew1 | apply below_alloc1)); done))⟩ | go_keep)
          (first
            | (go_at_call 29; go_split_ands; (with_reducible refine (Nearer_calls xi0 xi1 xu0 xu1 _).mono ?_); rintro e wq ⟨he, hbq⟩; rw [HR.out] at he; subst he; have hbB : Below wr.heap.size wr wq := Below.after (by first | ((repeat (first | assumption | exact Below.refl _ _ | apply below_drew1 | apply below_alloc1)); done)) hbq))
        go_wp2_with fail
        have hiu : ¬ i = u := by have h1 := HI.out; have h2 := HU.out; omega
        have hui : ¬ u = i := by omega
        have hul : u ≤ l.length := by omega
        have hul2 : u < l.length + 1 := by omega
        have hil2 : i < l.length + 1 := by omega
        have hH2 : HpR wq b lo (.slice (some ⟨g, 0, none⟩) (l.length + 1) c1) L := HH.out.keep hbB
        have hsw := hH2.swap (x := (xi0, xi1)) (y := (xu0, xu1)) hil2 hul2
        have HSW := Lib.hid hsw
        obtain ⟨g', _, hg', _, _, _, _, hfq, _⟩ := hH2.2.1.at_ twoR_q i (by omega) (by omega)
        injection hg' with hg'
        injection hg' with hg'
        subst hg'
        have hc1q : wq.cell? ⟨b, 1, none⟩ = some (.slice (some ⟨g, 0, none⟩) (l.length + 1) c1) := cell_below hbB hc1 (World.block_lt_of_cell? _ _ hc1)
        have hq1 : wq.cell? ⟨g, i * 2, none⟩ = some (.int .i64 xi0) := cell_below hbB hci0 (World.block_lt_of_cell? _ _ hci0)
        have hq2 : wq.cell? ⟨g, i * 2 + 1, none⟩ = some (.int .i64 xi1) := cell_below hbB hci1 (World.block_lt_of_cell? _ _ hci1)
        have hq3 : wq.cell? ⟨g, u * 2, none⟩ = some (.int .i64 xu0) := cell_below hbB hcu0 (World.block_lt_of_cell? _ _ hcu0)
        have hq4 : wq.cell? ⟨g, u * 2 + 1, none⟩ = some (.int .i64 xu1) := cell_below hbB hcu1 (World.block_lt_of_cell? _ _ hcu1)
        have hf1 := hfq (i * 2)
        have hf2 := hfq (i * 2 + 1)
        have hf3 := hfq (u * 2)
        have hf4 := hfq (u * 2 + 1)
        have n1 : ¬ i * 2 = u * 2 := by omega
        have n2 : ¬ u * 2 = i * 2 := by omega
        have n3 : ¬ i * 2 + 1 = u * 2 := by omega
        have n4 : ¬ u * 2 + 1 = i * 2 := by omega
        have n5 : ¬ i * 2 = u * 2 + 1 := by omega
        have n6 : ¬ u * 2 = i * 2 + 1 := by omega
        have HBQ := Lib.hid hbB
        clear hc0 hc1 hci0 hci1 hcu0 hcu1 hsw hH2 hfq hbB hbq hbs0
        go_region
        go_wp2_with fail
        go_roundg u
        case measure => have h1 := HI.out; have h2 := HU.out; omega
        case rel =>
          refine ⟨swp L i u (xu0, xu1) (xi0, xi1), hul, rfl, HSW.out.1, by rw [swp_length]; exact hLl, ?_, (swp_perm HXI.out HXU.out).trans HPM.out, HON.out.trans (Only.trans (Only.of_below HBQ.out) HSW.out.2)⟩
          have h1 := HI.out
          have h2 := HU.out
          rw [← h2]
          exact HUP.out.swap ltR_wo (by omega) HXI.out (by rw [h2]; exact HXU.out) HR.out
      | false =>
        go_wp2_with fail
        go_region_held3 (fun w' => w'.cell? ⟨b, 0, none⟩ = some (.func (.func 29) #[] #[]) ∧ w'.cell? ⟨b, 1, none⟩ = some (.slice (some ⟨g, 0, none⟩) (l.length + 1) c1) ∧ w'.cell? ⟨g, i * 2, none⟩ = some (.int .i64 xi0) ∧ w'.cell? ⟨g, i * 2 + 1, none⟩ = some (.int .i64 xi1) ∧ w'.cell? ⟨g, u * 2, none⟩ = some (.int .i64 xu0) ∧ w'.cell? ⟨g, u * 2 + 1, none⟩ = some (.int .i64 xu1) ∧ Below wr.heap.size wr w')
          (first | exact ⟨cell_below (B := wr.heap.size) (w := wr) (by first | ((repeat (first | assumption | exact Below.refl _ _ | apply below_drew1 | apply below_alloc1)); done)) hc0 (World.block_lt_of_cell? _ _ hc0), cell_below (B := wr.heap.size) (w := wr) (by first | ((repeat (first | assumption | exact Below.refl _ _ | apply below_drew1 | apply below_alloc1)); done)) hc1 (World.block_lt_of_cell? _ _ hc1), cell_below (B := wr.heap.size) (w := wr) (by first | ((repeat (first | assumption | exact Below.refl _ _ | apply below_drew1 | apply below_alloc1)); done)) hci0 (World.block_lt_of_cell? _ _ hci0), cell_below (B := wr.heap.size) (w := wr) (by first | ((repeat (first | assumption | exact Below.refl _ _ | apply below_drew1 | apply below_alloc1)); done)) hci1 (World.block_lt_of_cell? _ _ hci1), cell_below (B := wr.heap.size) (w := wr) (by first | ((repeat (first | assumption | exact Below.refl _ _ | apply below_drew1 | apply below_alloc1)); done)) hcu0 (World.block_lt_of_cell? _ _ hcu0), cell_below (B := wr.heap.size) (w := wr) (by first | ((repeat (first | assumption | exact Below.refl _ _ | apply below_drew1 | apply below_alloc1)); done)) hcu1 (World.block_lt_of_cell? _ _ hcu1), (by first | ((repeat (first | assumption | exact Below.refl _ _ | apply below_drew1 | apply below_alloc1)); done))⟩ | go_keep)
          (first
            | (go_at_call 29; go_split_ands; (with_reducible refine (Nearer_calls xi0 xi1 xu0 xu1 _).mono ?_); rintro e wq ⟨he, hbq⟩; rw [HR.out] at he; subst he; have hbB : Below wr.heap.size wr wq := Below.after (by first | ((repeat (first | assumption | exact Below.refl _ _ | apply below_drew1 | apply below_alloc1)); done)) hbq))
        go_wp2_with fail
        go_end0
        refine ⟨rfl, _, L, ⟨HH.out.keep hbB, HUP.out.stop (.inr fun a b' ha hb' => ?_), HOB.out.trans2R (HON.out.trans (Only.of_below hbB)) (fun k hk h => h.imp id fun h => (HFR.out k h).resolve_right (by omega)), HFR.out⟩, HPM.out⟩
        have h2 := HU.out
        rw [h2, HXU.out] at hb'
        rw [HXI.out] at ha
        injection ha with ha
        injection hb' with hb'
        subst ha hb'
        exact HR.out
end Go.Proofs.Ytacgkoclammggaa
