/-
  Texts on the program, part 19: Each, Search3, Search4, Srch, Srch2, Gather, Collect, SrchL.
-/
import Derived.Shelf.Abstract
import Derived.Stop.RegionWithIn
import Derived.Deep.RegionHeld3
import Derived.BigRegion
import Derived.OwnWalk
import Derived.OwnWalkIn
import Derived.Test.YticdmglondpgaaaGreatQ02
import Derived.Test.YticdmglondpgaaaGreatQ03
import Derived.Test.YticdmglondpgaaaGreatQ04
import Derived.Test.YticdmglondpgaaaGreatQ06
import Derived.Test.YticdmglondpgaaaGreatQ08
import Derived.Test.YticdmglondpgaaaGreatQ10
import Derived.Test.YticdmglondpgaaaGreatQ12
import Derived.Test.YticdmglondpgaaaGreatQ15
import Derived.Test.YticdmglondpgaaaGreatQ17
import Derived.Test.YticdmglondpgaaaGreatQ18

/-! ## Each: Package exact: Each, as an iterator. Conditions: the ids are those of items; the sequence is slices.Values of a row. -/
namespace Go.Proofs.YticdmglondpgaaaGreat
open Go.RowKit
set_option linter.unusedVariables false
set_option maxRecDepth 100000
set_option linter.unusedSimpArgs false

attribute [local go_sem] Oper.semAt_some

/-- Blocks below m0, and boxes of a yield, stay. -/
def KpT (m0 : Nat) (A B : World) : Prop := Only (fun k => ¬ (k < m0 ∨ ∃ cs f, A.heap[k]? = some (.cells cs 231 f))) A B
theorem KpT.trans {m0 : Nat} {a b c : World} (h : KpT m0 a b) (k : KpT m0 b c) : KpT m0 a c :=
  ⟨k.os.trans h.os, k.tape.trans h.tape, k.output.trans h.output, Nat.le_trans h.size k.size, fun j hj hs => by
    have h1 := h.block j hj hs
    refine (k.block j (by have := h.size; omega) fun hk => hk ?_).trans h1
    rcases Classical.not_not.1 hs with h2 | ⟨cs, f, h2⟩
    · exact .inl h2
    · exact .inr ⟨cs, f, h1.trans h2⟩⟩
theorem KpT.putObj {m0 l : Nat} {W : World} {o o' : Obj} (hl : m0 ≤ l) (ho : W.heap[l]? = some o) (hc : o.isCells = false) : KpT m0 W (W.putObj l o') :=
  ⟨rfl, rfl, rfl, by simp, fun j _ hj => World.putObj_heap_other fun e => hj fun h => by
    subst e
    rcases h with h | ⟨cs, f, h⟩
    · omega
    · rw [ho] at h; injection h with h; subst h; simp [Obj.isCells] at hc⟩
theorem KpT.low {m0 b : Nat} {A B : World} {o : Obj} (h : KpT m0 A B) (hb : b < m0) (ho : A.heap[b]? = some o) : B.heap[b]? = some o := Only.obj h ho fun hs => hs (.inl hb)
theorem KpT.box {m0 b : Nat} {A B : World} {cs : Array Value} {f : Nat × Nat} (h : KpT m0 A B) (ho : A.heap[b]? = some (.cells cs 231 f)) : B.heap[b]? = some (.cells cs 231 f) :=
  Only.obj h ho fun hs => hs (.inr ⟨cs, f, ho⟩)
/-- Nothing below m0 has turned. -/
theorem KpT.below {m0 : Nat} {A B : World} (h : KpT m0 A B) (hz : m0 ≤ A.heap.size) : Below m0 A B := Only.below h hz fun k hk hs => hs (.inl hk)
/-- The same, and what is no cells stays, but for the loop's record lB. -/
def KpU (m0 lB : Nat) (A B : World) : Prop := KpT m0 A B ∧ ∀ k o, k ≠ lB → A.heap[k]? = some o → o.isCells = false → B.heap[k]? = some o
theorem KpU.trans {m0 lB : Nat} {a b c : World} (h : KpU m0 lB a b) (k : KpU m0 lB b c) : KpU m0 lB a c := ⟨h.1.trans k.1, fun i o hi ho hc => k.2 i o hi (h.2 i o hi ho hc) hc⟩
theorem KpU.putObj {m0 lB : Nat} {W : World} {o o' : Obj} (hl : m0 ≤ lB) (ho : W.heap[lB]? = some o) (hc : o.isCells = false) : KpU m0 lB W (W.putObj lB o') :=
  ⟨KpT.putObj hl ho hc, fun k o hk ho hc => (World.putObj_heap_other (by omega)).trans ho⟩
theorem Each_calls (bI : Nat) (VA : Option Addr) (n c q : Nat) (w : World) :
    Calls Tryz.prog 92 #[.pointer (some ⟨bI, 0, none⟩), .slice VA n c, .func (.func 139) #[] #[.pointer (some ⟨q, 0, none⟩)]] w fun e w' => ∃ b1 b2 b3, e = .returned (.func (.func 137) #[] #[.pointer (some ⟨b1, 0, none⟩), .pointer (some ⟨b2, 0, none⟩), .pointer (some ⟨b3, 0, none⟩)]) ∧ Below w.heap.size w w' ∧
      w'.heap[b1]? = some (.cells #[.func (.func 139) #[] #[.pointer (some ⟨q, 0, none⟩)]] 138 (0, 0)) ∧ w'.heap[b2]? = some (.cells #[.pointer (some ⟨bI, 0, none⟩)] 34 (0, 0)) ∧ w'.heap[b3]? = some (.cells #[.slice VA n c] 29 (0, 0)) := by
  go_enter Tryz.func92, Tryz.ntmps92
  go_wp2_with fail
  go_ret
  obtain ⟨w1, h1⟩ : ∃ W, w.alloc (.cells #[.pointer (some ⟨bI, 0, none⟩)] 34) = W := ⟨_, rfl⟩
  obtain ⟨w2, h2⟩ : ∃ W, w1.alloc (.cells #[.slice VA n c] 29) = W := ⟨_, rfl⟩
  have s1 : w1.heap.size = w.heap.size + 1 := by rw [← h1]; simp
  have s2 : w2.heap.size = w.heap.size + 1 + 1 := by rw [← h2]; simp [s1]
  have x1 : w1.heap[w.heap.size]? = some (.cells #[.pointer (some ⟨bI, 0, none⟩)] 34 (0, 0)) := by rw [← h1]; exact heap_alloc_new _ _
  have x2 : w2.heap[w.heap.size + 1]? = some (.cells #[.slice VA n c] 29 (0, 0)) := by rw [← h2, ← s1]; exact heap_alloc_new _ _
  have b12 : Below w1.heap.size w1 w2 := by rw [← h2]; exact below_alloc1 (Below.refl _ _) _
  have b01 : Below w.heap.size w w1 := by rw [← h1]; exact below_alloc1 (Below.refl _ _) _
  have b23 : Below w2.heap.size w2 (w2.alloc (.cells #[.func (.func 139) #[] #[.pointer (some ⟨q, 0, none⟩)]] 138)) := below_alloc1 (Below.refl _ _) _
  rw [h1, h2]
  exact ⟨_, _, _, rfl, (b01.trans (b12.mono (by omega))).trans (b23.mono (by omega)), by rw [← s2]; exact heap_alloc_new _ _, obj_below b23 (obj_below b12 x1 (by omega)) (by omega), obj_below b23 x2 (by omega)⟩
theorem IterD.toN {α : Type} {F: Fence} {n : Nat} {P : Program} {g : Nat} {lb : Array Value} {encs : α → Array Value} {D : Nat → Prop} {Kp : World → World → Prop} {X : List α → α → World → World → Prop} {S Sp : List α → World → Prop} {N : Nat} {w : World} (h : IterD F n P g lb encs D Kp X S Sp N w) : IterN F n P g lb encs D Kp X S Sp N w :=
  fun l J Jx W hW _ hJ hJx hY h0 => h l J Jx W hW (fun pre A B hj ho => hJ pre A B hj (Only.mono ho fun _ _ h => .inl h)) (fun pre A B hj ho => hJx pre A B hj (Only.mono ho fun _ _ h => .inl h)) (fun pre x A0 A hj ho => hY pre x A0 A hj (Only.mono ho fun _ _ h => .inl h)) h0
theorem NcO.putObj {D : Nat → Prop} {n l : Nat} {W : World} {o o' : Obj} (hl : n ≤ l) (ho : W.heap[l]? = some o) (hc : o.isCells = false) : NcO D n W (W.putObj l o') :=
  ⟨rfl, rfl, rfl, by simp, fun k _ hk => World.putObj_heap_other fun e => hk (.inr ⟨by omega, o, by rw [e]; exact ho, hc⟩)⟩
theorem RoundIn.anyN {n m l : Nat} {P : Program} {f : FuncId} {tmps : Array Value} {assign body : Code} {w : World} {R : Ending → World → Prop} (h : RoundIn Fence.wide n P l f tmps assign body w R) : RoundIn Fence.wide m P l f tmps assign body w R :=
  ⟨h.1, fun c cs _ => h.2 c cs (room_wide _)⟩
theorem RoundIn.deep {n m l l2 : Nat} {P : Program} {f : FuncId} {tmps : Array Value} {assign body : Code} {w : World} {R : Ending → World → Prop} (h : RoundIn Fence.wide n P l f tmps assign body w R) : RoundIn (Fence.wide.inRound l2) m P l f tmps assign body w R :=
  ⟨h.1, fun c cs _ => h.2 c cs (room_wide _)⟩
/-- What Each yields. -/
def eachL (rows : List (List Int)) (ys M : List Int) : List (Int × Int) := M.map fun x => (x, wrap64 (far (rows.getD x.toNat []) ys))
/-- Between two rounds of Each. -/
def EachI (m0 e4 : Nat) (lp : Nat) (J : List (Int × Int) → World → Prop) (w0 : World) (k : Nat) (W : World) : Prop :=
  W.heap[e4]? = some (.cells #[.func (.yield lp) #[] #[]] 231 (0, 0)) ∧ Below m0 w0 W ∧ ∃ pre, pre.length = k ∧ J pre W
theorem KpU.of_below {m0 lB : Nat} {A B : World} (h : Below A.heap.size A B) : KpU m0 lB A B := ⟨Only.of_below h, fun k o _ ho _ => obj_below h ho (obj_lt ho)⟩
theorem eachKp {m0 lB : Nat} {X X1 X2 X3 : World} (hb1 : Below X.heap.size X X1) (hb2 : Below X1.drew.heap.size X1.drew X2) (hk : KpU m0 lB X2 X3) : KpU m0 lB X X3 :=
  (((KpU.of_below hb1).trans (KpU.of_below (below_drew1 (Below.refl _ _)))).trans (KpU.of_below hb2)).trans hk
theorem eachFin {m0 lB lp e4 : Nat} {w0 X X1 X2 X3 : World} {J : List (Int × Int) → World → Prop} {p : List (Int × Int)} {pre : List Int} {y : Int × Int} {x : Int} (h : lB < e4) (hm : m0 ≤ e4) (hb1 : Below X.heap.size X X1) (hb2 : Below X1.drew.heap.size X1.drew X2) (hk : KpU m0 lB X2 X3) (hbx : X.heap[e4]? = some (.cells #[.func (.yield lp) #[] #[]] 231 (0, 0))) (h2 : Below m0 w0 X)
    (hl : p.length = pre.length) (hJ : J (p ++ [y]) X3) : KeepsFrom (e4 + 1) X X3 ∧ KpT m0 X X3 ∧ EachI m0 e4 lp J w0 (pre ++ [x]).length X3 := by
  have kp := eachKp hb1 hb2 hk
  have hlt := obj_lt hbx
  exact ⟨⟨kp.1.size, fun k o hk ho hc => kp.2 k o (by omega) ho hc⟩, kp.1, kp.1.box hbx, h2.trans (kp.1.below (by omega)), _, by simp [hl], hJ⟩
theorem eachStop {m0 lB e4 : Nat} {X X1 X2 X3 : World} {Jx : List (Int × Int) → World → Prop} {p : List (Int × Int)} {y : Int × Int} {o : Obj} (h : lB < e4) (hb1 : Below X.heap.size X X1) (hb2 : Below X1.drew.heap.size X1.drew X2) (hk : KpU m0 lB X2 X3) (hbx : X.heap[e4]? = some o) (hJ : Jx (p ++ [y]) X3) : KeepsFrom (e4 + 1) X X3 ∧ KpT m0 X X3 ∧ (Code.ret = Code.ret ∧ ∃ p, Jx p X3) := by
  have kp := eachKp hb1 hb2 hk
  have hlt := obj_lt hbx
  exact ⟨⟨kp.1.size, fun k o hk ho hc => kp.2 k o (by omega) ho hc⟩, kp.1, rfl, _, hJ⟩
set_option maxHeartbeats 3200000 in
theorem each_iter (m bI dim q b1 b2 b3 m0 : Nat) (hm : 2 ≤ m) (rows : List (List Int)) (VA : Option Addr) (vc : Nat) (ys : List Int) (A : Option Addr) (c : Nat) (M : List Int) (w0 w : World) (hw : Below m0 w0 w) (hz : w0.heap.size = m0) (hI : It w0 bI dim rows) (hM : Rd w0 .i64 A M)
    (hr : ∀ x ∈ M, 0 ≤ x ∧ x < (rows.length : Int)) (hrr : ∀ r ∈ rows, R32 r) (hV : Rd w0 .i32 VA ys) (ry : R32 ys) (hq : w0.heap[q]? = some (.cells #[.slice A M.length c] 64 (0, 0)))
    (h1 : w0.heap[b1]? = some (.cells #[.func (.func 139) #[] #[.pointer (some ⟨q, 0, none⟩)]] 138 (0, 0))) (h2 : w0.heap[b2]? = some (.cells #[.pointer (some ⟨bI, 0, none⟩)] 34 (0, 0))) (h3 : w0.heap[b3]? = some (.cells #[.slice VA ys.length vc] 29 (0, 0))) :
    IterN Fence.wide m Tryz.prog 137 #[.pointer (some ⟨b1, 0, none⟩), .pointer (some ⟨b2, 0, none⟩), .pointer (some ⟨b3, 0, none⟩)] (fun x : Int × Int => #[.agg #[.int .i64 x.1, .int .i64 x.2]]) (fun _ => False) (KpU m0 (w.heap.size + 1)) (fun pre x _ _ => x = (eachL rows ys M).getD pre.length (0, 0))
      (fun xs W => xs.length = M.length) (fun xs W => True) M.length w := by
  intro lp J Jx W hW hWw hJ hJx hY h0
  refine callsIn_of_wp_marks Tryz.func137 rfl trivial ?_ rfl
  simp only [Tryz.ntmps137, List.size_toArray, List.length_cons, List.length_nil, Nat.reduceAdd, Nat.reduceSub, Array.replicate_succ, Array.replicate_zero, List.push_toArray, List.append_toArray, List.nil_append, List.cons_append]
  have hzw : m0 ≤ w.heap.size := by rw [← hz]; exact hw.size
  have hB0 : Below m0 w0 W := hw.trans (hW.mono hzw)
  obtain ⟨lB, hlB⟩ : ∃ l, w.heap.size + 1 = l := ⟨_, rfl⟩
  rw [hlB] at hY
  have hlBW : lB < W.heap.size := by omega
  have hk1 := obj_below hB0 h1 (by rw [← hz]; exact obj_lt h1)
  have hc1 : W.cell? ⟨b1, 0, none⟩ = some (.func (.func 139) #[] #[.pointer (some ⟨q, 0, none⟩)]) := by simp [World.cell?, hk1]
  have hc1a := fun o => (World.cell?_alloc_lt (o := o) W _ (World.block_lt_of_cell? _ _ hc1)).trans hc1
  have HJ := Lib.hid hJ
  have HJX := Lib.hid hJx
  have HY := Lib.hid hY
  have H0 := Lib.hid h0
  have HB0 := Lib.hid hB0
  have HM := Lib.hid hM
  have HQ := Lib.hid hq
  have HZ := Lib.hid hz
  have HI := Lib.hid hI
  have HV := Lib.hid hV
  have HH2 := Lib.hid h2
  have HH3 := Lib.hid h3
  have hWz : m0 ≤ W.heap.size := by have := hW.size; omega
  clear hJ hJx hY h0 hB0 hM hq hz hI hV h1 h2 h3 hk1 hw hW hlB hWw
  gi_wp2
  obtain ⟨W1, hW1⟩ : ∃ X, W.alloc (.cells #[.func (.yield lp) #[] #[]] 231) = X := ⟨_, rfl⟩
  have hbe : W1.heap[W.heap.size]? = some (.cells #[.func (.yield lp) #[] #[]] 231 (0, 0)) := by rw [← hW1]; exact heap_alloc_new _ _
  have hbW : Below W.heap.size W W1 := by rw [← hW1]; exact below_alloc1 (Below.refl _ _) _
  have hs1 : W1.heap.size = W.heap.size + 1 := by rw [← hW1]; simp
  rw [hW1]
  have hBW1 : Below m0 w0 W1 := HB0.out.trans (hbW.mono hWz)
  have HI0 := Lib.hid (show EachI m0 W.heap.size lp J w0 0 W1 from ⟨hbe, hBW1, [], rfl, HJ.out _ _ _ H0.out (Only.of_below hbW)⟩)
  clear hW1 hbW hbe hc1a hc1 H0
  refine wpIn_rangeN rfl (by omega) (gf := 139) (lb := #[.pointer (some ⟨q, 0, none⟩)]) rfl trivial (enters_of Tryz.func139 (by kernel_rfl) rfl)
    (D := fun _ => False) (Kp := KpT m0) (N := M.length) (S := fun xs W => xs.length = M.length) (Sp := fun xs W => True) (XP := fun pre x _ _ => x = M.getD pre.length 0) (encs := fun x : Int => #[.int .i64 x])
    ?seq (fun k h => h.elim) (fun h k => h.trans k) (fun W l o o' hl ho hc => KpT.putObj (by omega) ho hc) (fun pre x A0 W o' _ h => h) (fun xs A B h _ => h) (fun xs A B h _ => h) (fun _ => rfl)
    (fun pre X => EachI m0 W.heap.size lp J w0 pre.length X) (fun c pre X => c = .ret ∧ ∃ p, Jx p X) ?hI ?hIx HI0.out ?a1 ?assign ?body ?done ?stop
  case seq => exact (valuesI_iter _ q m0 A c M (KpT m0) (fun h hb ho => h.low hb ho) w0 W1 hBW1 HZ.out HM.out HQ.out).toN
  case hI =>
    rintro pre X Y ⟨i1, i2, p, i3, i4⟩ hs
    exact ⟨NcO.cells hs i1 (fun h => h), i2.trans (Only.below hs (by have := i2.size; rw [HZ.out] at this; exact this) fun k hk h => h.elim (fun h => h) fun h => by have := h.1; omega), p, i3, HJ.out _ _ _ i4 (Only.mono hs fun k _ h => h.elim .inl fun h => .inr ⟨by omega, h.2⟩)⟩
  case hIx =>
    rintro c pre X Y ⟨hc, p, i4⟩ hs
    exact ⟨hc, p, HJX.out _ _ _ i4 (Only.mono hs fun k _ h => h.elim .inl fun h => .inr ⟨by omega, h.2⟩)⟩
  case assign =>
    intro l x W K hK
    gi_wp2
    exact hK
  case done =>
    rintro _ ps X rfl hps ⟨i1, i2, p, i3, i4⟩ hK
    have HJ4 := Lib.hid (HJ.out _ _ (X.putObj W1.heap.size (.deferred none)) i4 (NcO.putObj (by omega) hK rfl))
    have HK := Lib.hid hK
    have HPS := Lib.hid hps
    have HI3 := Lib.hid i3
    clear i1 i2 i3 i4 hK hps HI0
    gi_wp2
    exact ⟨by simp, .inl ⟨_, _, rfl, run_takeDeferred HK.out, _, results_none rfl _ _ _, ⟨_, rfl⟩, .inl ⟨p, HI3.out.trans HPS.out, HJ4.out⟩⟩⟩
  case stop =>
    rintro _ cc pre X rfl _ ⟨rfl, p, i4⟩ hK
    have HJ4 := Lib.hid (HJX.out _ _ (X.putObj W1.heap.size (.deferred none)) i4 (NcO.putObj (by omega) hK rfl))
    have HK := Lib.hid hK
    clear i4 hK HI0
    gi_wp2
    exact ⟨by simp, .inl ⟨_, _, rfl, run_takeDeferred HK.out, _, results_none rfl _ _ _, ⟨_, rfl⟩, .inr ⟨p, trivial, HJ4.out⟩⟩⟩
  case body =>
    intro l2 pre x A0 X hIX hlen hsz hIA hst hx
    obtain ⟨i1, i2, p, i3, i4⟩ := hIX
    have hxm : x ∈ M := by rw [hx]; simp [List.getD, hlen]
    obtain ⟨id, rfl⟩ : ∃ id : Nat, x = (id : Int) := ⟨x.toNat, by have := hr x hxm; omega⟩
    have hid : id < rows.length := by have := hr _ hxm; omega
    have hzz := HZ.out
    have hx2 := obj_below i2 HH2.out (by rw [← hzz]; exact obj_lt HH2.out)
    have hx3 := obj_below i2 HH3.out (by rw [← hzz]; exact obj_lt HH3.out)
    have c4 : X.cell? ⟨W.heap.size, 0, none⟩ = some (.func (.yield lp) #[] #[]) := by simp [World.cell?, i1]
    have c2 : X.cell? ⟨b2, 0, none⟩ = some (.pointer (some ⟨bI, 0, none⟩)) := by simp [World.cell?, hx2]
    have c3 : X.cell? ⟨b3, 0, none⟩ = some (.slice VA ys.length vc) := by simp [World.cell?, hx3]
    have hIX : It X bI dim rows := HI.out.below (by rw [hzz]; exact i2)
    have hVX : Rd X .i32 VA ys := HV.out.below (by rw [hzz]; exact i2)
    obtain ⟨n, hn⟩ : ∃ n, rows.length = n := ⟨_, rfl⟩
    have HLN := Lib.hid (hn ▸ Len_calls bI dim rows X hIX)
    have t1 : decide ((id : Int) < 0) = false := decide_eq_false (by omega)
    have t2 : decide (n ≤ id) = false := decide_eq_false (by omega)
    have t3 : ¬ (id : Int) < 0 := by omega
    have HIXX := Lib.hid hIX
    have HVX := Lib.hid hVX
    have I1 := Lib.hid i1
    have I2 := Lib.hid i2
    have I3 := Lib.hid i3
    have I4 := Lib.hid i4
    have HX := Lib.hid hx
    have HN := Lib.hid hn
    clear hIX hVX i1 i2 i3 i4 hx hzz hx2 hx3 hn hIA hst HI0 hxm
    gi_wp2
    refine ⟨trivial, (fun h => by cases h), (CallsIn.inRound l2 (callsIn_wide.2 HLN.out)).mono ?_⟩
    rintro e X1 ⟨he, nq, hw⟩
    subst he
    have hb1 : Below X.heap.size X X1 := by rw [hw]; exact below_drewN_self _ _
    have HB1 := Lib.hid hb1
    clear hw hb1
    have i1b := obj_below HB1.out I1.out (obj_lt I1.out)
    have B01 : Below m0 w0 X1 := I2.out.trans (HB1.out.mono (by have := I2.out.size; have := HZ.out; omega))
    have hx2 := obj_below B01 HH2.out (by rw [← HZ.out]; exact obj_lt HH2.out)
    have hx3 := obj_below B01 HH3.out (by rw [← HZ.out]; exact obj_lt HH3.out)
    have c4e : X1.cell? ⟨W.heap.size, 0, none⟩ = some (.func (.yield lp) #[] #[]) := by simp [World.cell?, i1b]
    have c4b : X1.drew.cell? ⟨W.heap.size, 0, none⟩ = some (.func (.yield lp) #[] #[]) := c4e
    have c2e : X1.cell? ⟨b2, 0, none⟩ = some (.pointer (some ⟨bI, 0, none⟩)) := by simp [World.cell?, hx2]
    have c2b : X1.drew.cell? ⟨b2, 0, none⟩ = some (.pointer (some ⟨bI, 0, none⟩)) := c2e
    have c3e : X1.cell? ⟨b3, 0, none⟩ = some (.slice VA ys.length vc) := by simp [World.cell?, hx3]
    have c3b : X1.drew.cell? ⟨b3, 0, none⟩ = some (.slice VA ys.length vc) := c3e
    obtain ⟨fv, hfv⟩ : ∃ v, wrap64 (far (rows.getD id []) ys) = v := ⟨_, rfl⟩
    have HFV := Lib.hid hfv
    have hfar : ∀ Y, Below m0 w0 Y → Calls Tryz.prog 138 #[.pointer (some ⟨bI, 0, none⟩), .int .i64 id, .slice VA ys.length vc] Y fun e w' => e = .returned (.int .i64 fv) ∧ Below Y.heap.size Y w' := fun Y h => by
      rw [← HFV.out]
      exact iFar_calls bI dim rows id VA vc ys Y (HI.out.below (by rw [HZ.out]; exact h)) hid (hrr _ (by rw [List.getD, List.getElem?_eq_getElem hid]; exact List.getElem_mem _)) (HV.out.below (by rw [HZ.out]; exact h)) ry
    clear hfv
    have HFAR := Lib.hid hfar
    have B01d : Below m0 w0 X1.drew := below_drew1 B01
    clear hx2 hx3 i1b hfar
    gi_wp2
    have HEX : ((id : Int), fv) = (eachL rows ys M).getD p.length (0, 0) := by
      have h1 : M.getD p.length 0 = (id : Int) := by rw [I3.out]; exact HX.out.symm
      have h2 : p.length < M.length := by rw [I3.out]; exact hlen
      unfold eachL
      simp only [List.getD, List.getElem?_map, List.getElem?_eq_getElem h2, Option.map_some, Option.getD_some] at h1 ⊢
      rw [h1, ← HFV.out]; rfl
    have HEXX := Lib.hid HEX
    clear HEX
    have HPL : p.length < M.length := by rw [I3.out]; exact hlen
    have HJ1 := Lib.hid (HJ.out _ _ X1.drew I4.out (Only.of_below (below_drew1 HB1.out)))
    refine wpIn_region_any (by kernel_rfl) (wpAnyIn_round (by kernel_rfl) rfl _ _ _ _ ?_)
    (try (change wpAnyIn _ _ _ _ _ _ _ _ _ (World.drew _)))
    (refine wpAnyIn_take (i := 1) (v := ?_) rfl rfl (by kernel_rfl) (by kernel_rfl) (by kernel_rfl) (fun _ _ _ h => h) ⟨Or.inl ⟨by rfl, ?_⟩, fun _ => rfl⟩ ?_; rotate_left 1; (focus (intro wR; go_simp <;> with_reducible rfl)))
    (try simp only [Act.put, List.setIfInBounds_toArray, List.set_cons_zero, List.set_cons_succ])
    (refine wpAnyIn_take (i := 3) (v := ?_) rfl rfl (by kernel_rfl) (by kernel_rfl) (by kernel_rfl) (fun _ _ _ h => h) ⟨Or.inl ⟨by rfl, ?_⟩, fun _ => rfl⟩ ?_; rotate_left 1; (focus (intro wR; go_simp <;> with_reducible rfl)))
    (try simp only [Act.put, List.setIfInBounds_toArray, List.set_cons_zero, List.set_cons_succ])
    refine wpAnyIn_ready (rs := [0, 2, 4]) (by kernel_rfl) (by simp) ?_
    refine AllReadyIn.cons rfl (fun K hK => ?_) ?_
    · go_simp
      refine hK _ _ ?_
      clear hK K
      refine wpAnyIn_ready (rs := [2, 4]) (by kernel_rfl) (by simp) ?_
      refine AllReadyIn.cons rfl (fun K hK => ?_) ?_
      · go_simp
        refine hK _ _ ?_
        clear hK K
        refine wpAnyIn_ready (rs := [4]) (by kernel_rfl) (by simp) ?_
        refine AllReadyIn.cons rfl (fun K hK => ?_) ?_
        · go_simp
          refine hK _ _ ?_
          clear hK K
          refine wpAnyIn_ready (rs := [5]) (by kernel_rfl) (by simp) ?_
          refine AllReadyIn.cons rfl (fun K hK => ?_) ?_
          · go_simp
            refine ⟨trivial, (fun h => by cases h), (callsIn_wide.2 (HFAR.out _ (by assumption))).mono ?_⟩
            rintro e X2 ⟨he, hb2⟩
            subst he
            obtain ⟨fn, tmps, assign, body, hy, hR⟩ := HY.out p _ X1.drew X2 HJ1.out (Only.of_below hb2) HPL HEXX.out
            have c4x : X2.cell? ⟨W.heap.size, 0, none⟩ = some (.func (.yield lp) #[] #[]) := cell_below hb2 c4b (World.block_lt_of_cell? _ _ c4b)
            have HB2 := Lib.hid hb2
            have HRR := Lib.hid hR
            clear hb2 hR
            gi_wp2
            (refine wpAnyIn_take (i := 6) (v := ?_) rfl rfl (by kernel_rfl) (by kernel_rfl) (by kernel_rfl) (fun _ _ _ h => h) ⟨Or.inl ⟨by rfl, ?_⟩, fun _ => rfl⟩ ?_; rotate_left 1; (focus (intro wR; go_simp <;> with_reducible rfl)))
            (try simp only [Act.put, List.setIfInBounds_toArray, List.set_cons_zero, List.set_cons_succ])
            refine wpAnyIn_ready (rs := [7]) (by kernel_rfl) (by simp) ?_
            refine AllReadyIn.cons rfl (fun K hK => ?_) ?_
            · go_simp
              refine ⟨(fun h => by cases h), (RoundIn.anyN HRR.out).mono ?_⟩
              rintro e X3 hor
              obtain ⟨bb, he, hK3, hor2⟩ : ∃ bb, e = .returned (.bool bb) ∧ KpU m0 lB X2 X3 ∧ ((bb = true ∧ J (p ++ [((id : Int), fv)]) X3) ∨ (bb = false ∧ Jx (p ++ [((id : Int), fv)]) X3)) := (hor.elim (fun h => ⟨_, h.1, h.2.2, .inl ⟨rfl, h.2.1⟩⟩) fun h => ⟨_, h.1, h.2.2, .inr ⟨rfl, h.2.1⟩⟩)
              subst he
              have HK3 := Lib.hid hK3
              have HOR := Lib.hid hor2
              clear hor hK3 hor2
              refine hK _ _ ?_
              clear hK K
              (refine wpAnyIn_take (i := 8) (v := ?_) rfl rfl (by kernel_rfl) (by kernel_rfl) (by kernel_rfl) (fun _ _ _ h => h) ⟨Or.inl ⟨by rfl, ?_⟩, fun _ => rfl⟩ ?_; rotate_left 1; (focus (intro wR; go_simp <;> with_reducible rfl)))
              (try simp only [Act.put, List.setIfInBounds_toArray, List.set_cons_zero, List.set_cons_succ])
              refine wpAnyIn_done (by kernel_rfl) ?_ _
              rcases HOR.out with ⟨rfl, hJ3⟩ | ⟨rfl, hJ3⟩
              · have HJ3 := Lib.hid hJ3
                clear hJ3
                go_simp
                gi_wp2
                exact eachFin hlBW hWz HB1.out HB2.out HK3.out I1.out I2.out I3.out HJ3.out
              · have HJ3 := Lib.hid hJ3
                clear hJ3
                go_simp
                gi_wp2
                exact eachStop hlBW HB1.out HB2.out HK3.out I1.out HJ3.out
            exact AllReadyIn.nil
          exact AllReadyIn.nil
        exact AllReadyIn.nil
      refine AllReadyIn.cons rfl (fun K hK => ?_) ?_
      · go_simp
        refine hK _ _ ?_
        clear hK K
        refine wpAnyIn_ready (rs := [2]) (by kernel_rfl) (by simp) ?_
        refine AllReadyIn.cons rfl (fun K hK => ?_) ?_
        · go_simp
          refine hK _ _ ?_
          clear hK K
          refine wpAnyIn_ready (rs := [5]) (by kernel_rfl) (by simp) ?_
          refine AllReadyIn.cons rfl (fun K hK => ?_) ?_
          · go_simp
            refine ⟨trivial, (fun h => by cases h), (callsIn_wide.2 (HFAR.out _ (by assumption))).mono ?_⟩
            rintro e X2 ⟨he, hb2⟩
            subst he
            obtain ⟨fn, tmps, assign, body, hy, hR⟩ := HY.out p _ X1.drew X2 HJ1.out (Only.of_below hb2) HPL HEXX.out
            have c4x : X2.cell? ⟨W.heap.size, 0, none⟩ = some (.func (.yield lp) #[] #[]) := cell_below hb2 c4b (World.block_lt_of_cell? _ _ c4b)
            have HB2 := Lib.hid hb2
            have HRR := Lib.hid hR
            clear hb2 hR
            gi_wp2
            (refine wpAnyIn_take (i := 6) (v := ?_) rfl rfl (by kernel_rfl) (by kernel_rfl) (by kernel_rfl) (fun _ _ _ h => h) ⟨Or.inl ⟨by rfl, ?_⟩, fun _ => rfl⟩ ?_; rotate_left 1; (focus (intro wR; go_simp <;> with_reducible rfl)))
            (try simp only [Act.put, List.setIfInBounds_toArray, List.set_cons_zero, List.set_cons_succ])
            refine wpAnyIn_ready (rs := [7]) (by kernel_rfl) (by simp) ?_
            refine AllReadyIn.cons rfl (fun K hK => ?_) ?_
            · go_simp
              refine ⟨(fun h => by cases h), (RoundIn.anyN HRR.out).mono ?_⟩
              rintro e X3 hor
              obtain ⟨bb, he, hK3, hor2⟩ : ∃ bb, e = .returned (.bool bb) ∧ KpU m0 lB X2 X3 ∧ ((bb = true ∧ J (p ++ [((id : Int), fv)]) X3) ∨ (bb = false ∧ Jx (p ++ [((id : Int), fv)]) X3)) := (hor.elim (fun h => ⟨_, h.1, h.2.2, .inl ⟨rfl, h.2.1⟩⟩) fun h => ⟨_, h.1, h.2.2, .inr ⟨rfl, h.2.1⟩⟩)
              subst he
              have HK3 := Lib.hid hK3
              have HOR := Lib.hid hor2
              clear hor hK3 hor2
              refine hK _ _ ?_
              clear hK K
              (refine wpAnyIn_take (i := 8) (v := ?_) rfl rfl (by kernel_rfl) (by kernel_rfl) (by kernel_rfl) (fun _ _ _ h => h) ⟨Or.inl ⟨by rfl, ?_⟩, fun _ => rfl⟩ ?_; rotate_left 1; (focus (intro wR; go_simp <;> with_reducible rfl)))
              (try simp only [Act.put, List.setIfInBounds_toArray, List.set_cons_zero, List.set_cons_succ])
              refine wpAnyIn_done (by kernel_rfl) ?_ _
              rcases HOR.out with ⟨rfl, hJ3⟩ | ⟨rfl, hJ3⟩
              · have HJ3 := Lib.hid hJ3
                clear hJ3
                go_simp
                gi_wp2
                exact eachFin hlBW hWz HB1.out HB2.out HK3.out I1.out I2.out I3.out HJ3.out
              · have HJ3 := Lib.hid hJ3
                clear hJ3
                go_simp
                gi_wp2
                exact eachStop hlBW HB1.out HB2.out HK3.out I1.out HJ3.out
            exact AllReadyIn.nil
          exact AllReadyIn.nil
        exact AllReadyIn.nil
      exact AllReadyIn.nil
    refine AllReadyIn.cons rfl (fun K hK => ?_) ?_
    · go_simp
      refine hK _ _ ?_
      clear hK K
      refine wpAnyIn_ready (rs := [0, 4]) (by kernel_rfl) (by simp) ?_
      refine AllReadyIn.cons rfl (fun K hK => ?_) ?_
      · go_simp
        refine hK _ _ ?_
        clear hK K
        refine wpAnyIn_ready (rs := [4]) (by kernel_rfl) (by simp) ?_
        refine AllReadyIn.cons rfl (fun K hK => ?_) ?_
        · go_simp
          refine hK _ _ ?_
          clear hK K
          refine wpAnyIn_ready (rs := [5]) (by kernel_rfl) (by simp) ?_
          refine AllReadyIn.cons rfl (fun K hK => ?_) ?_
          · go_simp
            refine ⟨trivial, (fun h => by cases h), (callsIn_wide.2 (HFAR.out _ (by assumption))).mono ?_⟩
            rintro e X2 ⟨he, hb2⟩
            subst he
            obtain ⟨fn, tmps, assign, body, hy, hR⟩ := HY.out p _ X1.drew X2 HJ1.out (Only.of_below hb2) HPL HEXX.out
            have c4x : X2.cell? ⟨W.heap.size, 0, none⟩ = some (.func (.yield lp) #[] #[]) := cell_below hb2 c4b (World.block_lt_of_cell? _ _ c4b)
            have HB2 := Lib.hid hb2
            have HRR := Lib.hid hR
            clear hb2 hR
            gi_wp2
            (refine wpAnyIn_take (i := 6) (v := ?_) rfl rfl (by kernel_rfl) (by kernel_rfl) (by kernel_rfl) (fun _ _ _ h => h) ⟨Or.inl ⟨by rfl, ?_⟩, fun _ => rfl⟩ ?_; rotate_left 1; (focus (intro wR; go_simp <;> with_reducible rfl)))
            (try simp only [Act.put, List.setIfInBounds_toArray, List.set_cons_zero, List.set_cons_succ])
            refine wpAnyIn_ready (rs := [7]) (by kernel_rfl) (by simp) ?_
            refine AllReadyIn.cons rfl (fun K hK => ?_) ?_
            · go_simp
              refine ⟨(fun h => by cases h), (RoundIn.anyN HRR.out).mono ?_⟩
              rintro e X3 hor
              obtain ⟨bb, he, hK3, hor2⟩ : ∃ bb, e = .returned (.bool bb) ∧ KpU m0 lB X2 X3 ∧ ((bb = true ∧ J (p ++ [((id : Int), fv)]) X3) ∨ (bb = false ∧ Jx (p ++ [((id : Int), fv)]) X3)) := (hor.elim (fun h => ⟨_, h.1, h.2.2, .inl ⟨rfl, h.2.1⟩⟩) fun h => ⟨_, h.1, h.2.2, .inr ⟨rfl, h.2.1⟩⟩)
              subst he
              have HK3 := Lib.hid hK3
              have HOR := Lib.hid hor2
              clear hor hK3 hor2
              refine hK _ _ ?_
              clear hK K
              (refine wpAnyIn_take (i := 8) (v := ?_) rfl rfl (by kernel_rfl) (by kernel_rfl) (by kernel_rfl) (fun _ _ _ h => h) ⟨Or.inl ⟨by rfl, ?_⟩, fun _ => rfl⟩ ?_; rotate_left 1; (focus (intro wR; go_simp <;> with_reducible rfl)))
              (try simp only [Act.put, List.setIfInBounds_toArray, List.set_cons_zero, List.set_cons_succ])
              refine wpAnyIn_done (by kernel_rfl) ?_ _
              rcases HOR.out with ⟨rfl, hJ3⟩ | ⟨rfl, hJ3⟩
              · have HJ3 := Lib.hid hJ3
                clear hJ3
                go_simp
                gi_wp2
                exact eachFin hlBW hWz HB1.out HB2.out HK3.out I1.out I2.out I3.out HJ3.out
              · have HJ3 := Lib.hid hJ3
                clear hJ3
                go_simp
                gi_wp2
                exact eachStop hlBW HB1.out HB2.out HK3.out I1.out HJ3.out
            exact AllReadyIn.nil
          exact AllReadyIn.nil
        exact AllReadyIn.nil
      refine AllReadyIn.cons rfl (fun K hK => ?_) ?_
      · go_simp
        refine hK _ _ ?_
        clear hK K
        refine wpAnyIn_ready (rs := [0, 5]) (by kernel_rfl) (by simp) ?_
        refine AllReadyIn.cons rfl (fun K hK => ?_) ?_
        · go_simp
          refine hK _ _ ?_
          clear hK K
          refine wpAnyIn_ready (rs := [5]) (by kernel_rfl) (by simp) ?_
          refine AllReadyIn.cons rfl (fun K hK => ?_) ?_
          · go_simp
            refine ⟨trivial, (fun h => by cases h), (callsIn_wide.2 (HFAR.out _ (by assumption))).mono ?_⟩
            rintro e X2 ⟨he, hb2⟩
            subst he
            obtain ⟨fn, tmps, assign, body, hy, hR⟩ := HY.out p _ X1.drew X2 HJ1.out (Only.of_below hb2) HPL HEXX.out
            have c4x : X2.cell? ⟨W.heap.size, 0, none⟩ = some (.func (.yield lp) #[] #[]) := cell_below hb2 c4b (World.block_lt_of_cell? _ _ c4b)
            have HB2 := Lib.hid hb2
            have HRR := Lib.hid hR
            clear hb2 hR
            gi_wp2
            (refine wpAnyIn_take (i := 6) (v := ?_) rfl rfl (by kernel_rfl) (by kernel_rfl) (by kernel_rfl) (fun _ _ _ h => h) ⟨Or.inl ⟨by rfl, ?_⟩, fun _ => rfl⟩ ?_; rotate_left 1; (focus (intro wR; go_simp <;> with_reducible rfl)))
            (try simp only [Act.put, List.setIfInBounds_toArray, List.set_cons_zero, List.set_cons_succ])
            refine wpAnyIn_ready (rs := [7]) (by kernel_rfl) (by simp) ?_
            refine AllReadyIn.cons rfl (fun K hK => ?_) ?_
            · go_simp
              refine ⟨(fun h => by cases h), (RoundIn.anyN HRR.out).mono ?_⟩
              rintro e X3 hor
              obtain ⟨bb, he, hK3, hor2⟩ : ∃ bb, e = .returned (.bool bb) ∧ KpU m0 lB X2 X3 ∧ ((bb = true ∧ J (p ++ [((id : Int), fv)]) X3) ∨ (bb = false ∧ Jx (p ++ [((id : Int), fv)]) X3)) := (hor.elim (fun h => ⟨_, h.1, h.2.2, .inl ⟨rfl, h.2.1⟩⟩) fun h => ⟨_, h.1, h.2.2, .inr ⟨rfl, h.2.1⟩⟩)
              subst he
              have HK3 := Lib.hid hK3
              have HOR := Lib.hid hor2
              clear hor hK3 hor2
              refine hK _ _ ?_
              clear hK K
              (refine wpAnyIn_take (i := 8) (v := ?_) rfl rfl (by kernel_rfl) (by kernel_rfl) (by kernel_rfl) (fun _ _ _ h => h) ⟨Or.inl ⟨by rfl, ?_⟩, fun _ => rfl⟩ ?_; rotate_left 1; (focus (intro wR; go_simp <;> with_reducible rfl)))
              (try simp only [Act.put, List.setIfInBounds_toArray, List.set_cons_zero, List.set_cons_succ])
              refine wpAnyIn_done (by kernel_rfl) ?_ _
              rcases HOR.out with ⟨rfl, hJ3⟩ | ⟨rfl, hJ3⟩
              · have HJ3 := Lib.hid hJ3
                clear hJ3
                go_simp
                gi_wp2
                exact eachFin hlBW hWz HB1.out HB2.out HK3.out I1.out I2.out I3.out HJ3.out
              · have HJ3 := Lib.hid hJ3
                clear hJ3
                go_simp
                gi_wp2
                exact eachStop hlBW HB1.out HB2.out HK3.out I1.out HJ3.out
            exact AllReadyIn.nil
          exact AllReadyIn.nil
        refine AllReadyIn.cons rfl (fun K hK => ?_) ?_
        · go_simp
          refine ⟨trivial, (fun h => by cases h), (callsIn_wide.2 (HFAR.out _ (by assumption))).mono ?_⟩
          rintro e X2 ⟨he, hb2⟩
          subst he
          obtain ⟨fn, tmps, assign, body, hy, hR⟩ := HY.out p _ X1.drew X2 HJ1.out (Only.of_below hb2) HPL HEXX.out
          have c4x : X2.cell? ⟨W.heap.size, 0, none⟩ = some (.func (.yield lp) #[] #[]) := cell_below hb2 c4b (World.block_lt_of_cell? _ _ c4b)
          have HB2 := Lib.hid hb2
          have HRR := Lib.hid hR
          clear hb2 hR
          gi_wp2
          (refine wpAnyIn_take (i := 6) (v := ?_) rfl rfl (by kernel_rfl) (by kernel_rfl) (by kernel_rfl) (fun _ _ _ h => h) ⟨Or.inl ⟨by rfl, ?_⟩, fun _ => rfl⟩ ?_; rotate_left 1; (focus (intro wR; go_simp <;> with_reducible rfl)))
          (try simp only [Act.put, List.setIfInBounds_toArray, List.set_cons_zero, List.set_cons_succ])
          refine wpAnyIn_ready (rs := [0]) (by kernel_rfl) (by simp) ?_
          refine AllReadyIn.cons rfl (fun K hK => ?_) ?_
          · go_simp
            refine hK _ _ ?_
            clear hK K
            refine wpAnyIn_ready (rs := [7]) (by kernel_rfl) (by simp) ?_
            refine AllReadyIn.cons rfl (fun K hK => ?_) ?_
            · go_simp
              refine ⟨(fun h => by cases h), (RoundIn.anyN HRR.out).mono ?_⟩
              rintro e X3 hor
              obtain ⟨bb, he, hK3, hor2⟩ : ∃ bb, e = .returned (.bool bb) ∧ KpU m0 lB X2 X3 ∧ ((bb = true ∧ J (p ++ [((id : Int), fv)]) X3) ∨ (bb = false ∧ Jx (p ++ [((id : Int), fv)]) X3)) := (hor.elim (fun h => ⟨_, h.1, h.2.2, .inl ⟨rfl, h.2.1⟩⟩) fun h => ⟨_, h.1, h.2.2, .inr ⟨rfl, h.2.1⟩⟩)
              subst he
              have HK3 := Lib.hid hK3
              have HOR := Lib.hid hor2
              clear hor hK3 hor2
              refine hK _ _ ?_
              clear hK K
              (refine wpAnyIn_take (i := 8) (v := ?_) rfl rfl (by kernel_rfl) (by kernel_rfl) (by kernel_rfl) (fun _ _ _ h => h) ⟨Or.inl ⟨by rfl, ?_⟩, fun _ => rfl⟩ ?_; rotate_left 1; (focus (intro wR; go_simp <;> with_reducible rfl)))
              (try simp only [Act.put, List.setIfInBounds_toArray, List.set_cons_zero, List.set_cons_succ])
              refine wpAnyIn_done (by kernel_rfl) ?_ _
              rcases HOR.out with ⟨rfl, hJ3⟩ | ⟨rfl, hJ3⟩
              · have HJ3 := Lib.hid hJ3
                clear hJ3
                go_simp
                gi_wp2
                exact eachFin hlBW hWz HB1.out HB2.out HK3.out I1.out I2.out I3.out HJ3.out
              · have HJ3 := Lib.hid hJ3
                clear hJ3
                go_simp
                gi_wp2
                exact eachStop hlBW HB1.out HB2.out HK3.out I1.out HJ3.out
            exact AllReadyIn.nil
          exact AllReadyIn.nil
        exact AllReadyIn.nil
      exact AllReadyIn.nil
    refine AllReadyIn.cons rfl (fun K hK => ?_) ?_
    · go_simp
      refine hK _ _ ?_
      clear hK K
      refine wpAnyIn_ready (rs := [0, 2]) (by kernel_rfl) (by simp) ?_
      refine AllReadyIn.cons rfl (fun K hK => ?_) ?_
      · go_simp
        refine hK _ _ ?_
        clear hK K
        refine wpAnyIn_ready (rs := [2]) (by kernel_rfl) (by simp) ?_
        refine AllReadyIn.cons rfl (fun K hK => ?_) ?_
        · go_simp
          refine hK _ _ ?_
          clear hK K
          refine wpAnyIn_ready (rs := [5]) (by kernel_rfl) (by simp) ?_
          refine AllReadyIn.cons rfl (fun K hK => ?_) ?_
          · go_simp
            refine ⟨trivial, (fun h => by cases h), (callsIn_wide.2 (HFAR.out _ (by assumption))).mono ?_⟩
            rintro e X2 ⟨he, hb2⟩
            subst he
            obtain ⟨fn, tmps, assign, body, hy, hR⟩ := HY.out p _ X1.drew X2 HJ1.out (Only.of_below hb2) HPL HEXX.out
            have c4x : X2.cell? ⟨W.heap.size, 0, none⟩ = some (.func (.yield lp) #[] #[]) := cell_below hb2 c4b (World.block_lt_of_cell? _ _ c4b)
            have HB2 := Lib.hid hb2
            have HRR := Lib.hid hR
            clear hb2 hR
            gi_wp2
            (refine wpAnyIn_take (i := 6) (v := ?_) rfl rfl (by kernel_rfl) (by kernel_rfl) (by kernel_rfl) (fun _ _ _ h => h) ⟨Or.inl ⟨by rfl, ?_⟩, fun _ => rfl⟩ ?_; rotate_left 1; (focus (intro wR; go_simp <;> with_reducible rfl)))
            (try simp only [Act.put, List.setIfInBounds_toArray, List.set_cons_zero, List.set_cons_succ])
            refine wpAnyIn_ready (rs := [7]) (by kernel_rfl) (by simp) ?_
            refine AllReadyIn.cons rfl (fun K hK => ?_) ?_
            · go_simp
              refine ⟨(fun h => by cases h), (RoundIn.anyN HRR.out).mono ?_⟩
              rintro e X3 hor
              obtain ⟨bb, he, hK3, hor2⟩ : ∃ bb, e = .returned (.bool bb) ∧ KpU m0 lB X2 X3 ∧ ((bb = true ∧ J (p ++ [((id : Int), fv)]) X3) ∨ (bb = false ∧ Jx (p ++ [((id : Int), fv)]) X3)) := (hor.elim (fun h => ⟨_, h.1, h.2.2, .inl ⟨rfl, h.2.1⟩⟩) fun h => ⟨_, h.1, h.2.2, .inr ⟨rfl, h.2.1⟩⟩)
              subst he
              have HK3 := Lib.hid hK3
              have HOR := Lib.hid hor2
              clear hor hK3 hor2
              refine hK _ _ ?_
              clear hK K
              (refine wpAnyIn_take (i := 8) (v := ?_) rfl rfl (by kernel_rfl) (by kernel_rfl) (by kernel_rfl) (fun _ _ _ h => h) ⟨Or.inl ⟨by rfl, ?_⟩, fun _ => rfl⟩ ?_; rotate_left 1; (focus (intro wR; go_simp <;> with_reducible rfl)))
              (try simp only [Act.put, List.setIfInBounds_toArray, List.set_cons_zero, List.set_cons_succ])
              refine wpAnyIn_done (by kernel_rfl) ?_ _
              rcases HOR.out with ⟨rfl, hJ3⟩ | ⟨rfl, hJ3⟩
              · have HJ3 := Lib.hid hJ3
                clear hJ3
                go_simp
                gi_wp2
                exact eachFin hlBW hWz HB1.out HB2.out HK3.out I1.out I2.out I3.out HJ3.out
              · have HJ3 := Lib.hid hJ3
                clear hJ3
                go_simp
                gi_wp2
                exact eachStop hlBW HB1.out HB2.out HK3.out I1.out HJ3.out
            exact AllReadyIn.nil
          exact AllReadyIn.nil
        exact AllReadyIn.nil
      refine AllReadyIn.cons rfl (fun K hK => ?_) ?_
      · go_simp
        refine hK _ _ ?_
        clear hK K
        refine wpAnyIn_ready (rs := [0, 5]) (by kernel_rfl) (by simp) ?_
        refine AllReadyIn.cons rfl (fun K hK => ?_) ?_
        · go_simp
          refine hK _ _ ?_
          clear hK K
          refine wpAnyIn_ready (rs := [5]) (by kernel_rfl) (by simp) ?_
          refine AllReadyIn.cons rfl (fun K hK => ?_) ?_
          · go_simp
            refine ⟨trivial, (fun h => by cases h), (callsIn_wide.2 (HFAR.out _ (by assumption))).mono ?_⟩
            rintro e X2 ⟨he, hb2⟩
            subst he
            obtain ⟨fn, tmps, assign, body, hy, hR⟩ := HY.out p _ X1.drew X2 HJ1.out (Only.of_below hb2) HPL HEXX.out
            have c4x : X2.cell? ⟨W.heap.size, 0, none⟩ = some (.func (.yield lp) #[] #[]) := cell_below hb2 c4b (World.block_lt_of_cell? _ _ c4b)
            have HB2 := Lib.hid hb2
            have HRR := Lib.hid hR
            clear hb2 hR
            gi_wp2
            (refine wpAnyIn_take (i := 6) (v := ?_) rfl rfl (by kernel_rfl) (by kernel_rfl) (by kernel_rfl) (fun _ _ _ h => h) ⟨Or.inl ⟨by rfl, ?_⟩, fun _ => rfl⟩ ?_; rotate_left 1; (focus (intro wR; go_simp <;> with_reducible rfl)))
            (try simp only [Act.put, List.setIfInBounds_toArray, List.set_cons_zero, List.set_cons_succ])
            refine wpAnyIn_ready (rs := [7]) (by kernel_rfl) (by simp) ?_
            refine AllReadyIn.cons rfl (fun K hK => ?_) ?_
            · go_simp
              refine ⟨(fun h => by cases h), (RoundIn.anyN HRR.out).mono ?_⟩
              rintro e X3 hor
              obtain ⟨bb, he, hK3, hor2⟩ : ∃ bb, e = .returned (.bool bb) ∧ KpU m0 lB X2 X3 ∧ ((bb = true ∧ J (p ++ [((id : Int), fv)]) X3) ∨ (bb = false ∧ Jx (p ++ [((id : Int), fv)]) X3)) := (hor.elim (fun h => ⟨_, h.1, h.2.2, .inl ⟨rfl, h.2.1⟩⟩) fun h => ⟨_, h.1, h.2.2, .inr ⟨rfl, h.2.1⟩⟩)
              subst he
              have HK3 := Lib.hid hK3
              have HOR := Lib.hid hor2
              clear hor hK3 hor2
              refine hK _ _ ?_
              clear hK K
              (refine wpAnyIn_take (i := 8) (v := ?_) rfl rfl (by kernel_rfl) (by kernel_rfl) (by kernel_rfl) (fun _ _ _ h => h) ⟨Or.inl ⟨by rfl, ?_⟩, fun _ => rfl⟩ ?_; rotate_left 1; (focus (intro wR; go_simp <;> with_reducible rfl)))
              (try simp only [Act.put, List.setIfInBounds_toArray, List.set_cons_zero, List.set_cons_succ])
              refine wpAnyIn_done (by kernel_rfl) ?_ _
              rcases HOR.out with ⟨rfl, hJ3⟩ | ⟨rfl, hJ3⟩
              · have HJ3 := Lib.hid hJ3
                clear hJ3
                go_simp
                gi_wp2
                exact eachFin hlBW hWz HB1.out HB2.out HK3.out I1.out I2.out I3.out HJ3.out
              · have HJ3 := Lib.hid hJ3
                clear hJ3
                go_simp
                gi_wp2
                exact eachStop hlBW HB1.out HB2.out HK3.out I1.out HJ3.out
            exact AllReadyIn.nil
          exact AllReadyIn.nil
        refine AllReadyIn.cons rfl (fun K hK => ?_) ?_
        · go_simp
          refine ⟨trivial, (fun h => by cases h), (callsIn_wide.2 (HFAR.out _ (by assumption))).mono ?_⟩
          rintro e X2 ⟨he, hb2⟩
          subst he
          obtain ⟨fn, tmps, assign, body, hy, hR⟩ := HY.out p _ X1.drew X2 HJ1.out (Only.of_below hb2) HPL HEXX.out
          have c4x : X2.cell? ⟨W.heap.size, 0, none⟩ = some (.func (.yield lp) #[] #[]) := cell_below hb2 c4b (World.block_lt_of_cell? _ _ c4b)
          have HB2 := Lib.hid hb2
          have HRR := Lib.hid hR
          clear hb2 hR
          gi_wp2
          (refine wpAnyIn_take (i := 6) (v := ?_) rfl rfl (by kernel_rfl) (by kernel_rfl) (by kernel_rfl) (fun _ _ _ h => h) ⟨Or.inl ⟨by rfl, ?_⟩, fun _ => rfl⟩ ?_; rotate_left 1; (focus (intro wR; go_simp <;> with_reducible rfl)))
          (try simp only [Act.put, List.setIfInBounds_toArray, List.set_cons_zero, List.set_cons_succ])
          refine wpAnyIn_ready (rs := [0]) (by kernel_rfl) (by simp) ?_
          refine AllReadyIn.cons rfl (fun K hK => ?_) ?_
          · go_simp
            refine hK _ _ ?_
            clear hK K
            refine wpAnyIn_ready (rs := [7]) (by kernel_rfl) (by simp) ?_
            refine AllReadyIn.cons rfl (fun K hK => ?_) ?_
            · go_simp
              refine ⟨(fun h => by cases h), (RoundIn.anyN HRR.out).mono ?_⟩
              rintro e X3 hor
              obtain ⟨bb, he, hK3, hor2⟩ : ∃ bb, e = .returned (.bool bb) ∧ KpU m0 lB X2 X3 ∧ ((bb = true ∧ J (p ++ [((id : Int), fv)]) X3) ∨ (bb = false ∧ Jx (p ++ [((id : Int), fv)]) X3)) := (hor.elim (fun h => ⟨_, h.1, h.2.2, .inl ⟨rfl, h.2.1⟩⟩) fun h => ⟨_, h.1, h.2.2, .inr ⟨rfl, h.2.1⟩⟩)
              subst he
              have HK3 := Lib.hid hK3
              have HOR := Lib.hid hor2
              clear hor hK3 hor2
              refine hK _ _ ?_
              clear hK K
              (refine wpAnyIn_take (i := 8) (v := ?_) rfl rfl (by kernel_rfl) (by kernel_rfl) (by kernel_rfl) (fun _ _ _ h => h) ⟨Or.inl ⟨by rfl, ?_⟩, fun _ => rfl⟩ ?_; rotate_left 1; (focus (intro wR; go_simp <;> with_reducible rfl)))
              (try simp only [Act.put, List.setIfInBounds_toArray, List.set_cons_zero, List.set_cons_succ])
              refine wpAnyIn_done (by kernel_rfl) ?_ _
              rcases HOR.out with ⟨rfl, hJ3⟩ | ⟨rfl, hJ3⟩
              · have HJ3 := Lib.hid hJ3
                clear hJ3
                go_simp
                gi_wp2
                exact eachFin hlBW hWz HB1.out HB2.out HK3.out I1.out I2.out I3.out HJ3.out
              · have HJ3 := Lib.hid hJ3
                clear hJ3
                go_simp
                gi_wp2
                exact eachStop hlBW HB1.out HB2.out HK3.out I1.out HJ3.out
            exact AllReadyIn.nil
          exact AllReadyIn.nil
        exact AllReadyIn.nil
      exact AllReadyIn.nil
    exact AllReadyIn.nil

end Go.Proofs.YticdmglondpgaaaGreat

/-! ## Search3: Package search: step. Conditions: the walk is as the word Wk says; the trees and the vector read as the lists, in memory that was there ahead of the walk. -/
namespace Go.Proofs.YticdmglondpgaaaGreat
open Go.RowKit
set_option linter.unusedVariables false
set_option maxRecDepth 100000
set_option linter.unusedSimpArgs false

attribute [local go_sem] Oper.semAt_some min2_run

theorem only_join {S T : Nat → Prop} {a b c : World} (h : Only S a b) (k : Only T b c) (hst : ∀ i, i < a.heap.size → T i → S i) : Only S a c :=
  ⟨k.os.trans h.os, k.tape.trans h.tape, k.output.trans h.output, Nat.le_trans h.size k.size, fun i hi hs => (k.block i (Nat.lt_of_lt_of_le hi h.size) fun x => hs (hst i hi x)).trans (h.block i hi hs)⟩
/-- What a step's margins are bent by. -/
def minB (a b : Int) : Int := if b < a then b else a
theorem WStep_none (bw bh lo : Nat) (a : Value × Value × Value × Value × Value) (hv : Value) (steps next : Int) (w : World) (h : Wk w bw bh lo a hv [] steps next) :
    Calls Tryz.prog 67 #[.pointer (some ⟨bw, 0, none⟩)] w fun e w' => e = .returned (.tuple #[.slice none 0 0, .bool false, .bool false]) ∧ Below w.heap.size w w' := by
  have hb := h.b
  have c5 : w.cell? ⟨bw, 5, none⟩ = some (.pointer (some ⟨bh, 0, none⟩)) := by simp [World.cell?, hb]
  have HP := Lib.hid (PopK_none bh lo hv w h.h)
  clear h hb
  go_enter Tryz.func67, Tryz.ntmps67
  go_wp2_with fail
  refine HP.out.mono ?_
  rintro e w1 ⟨he, hb1⟩
  subst he
  have HB1 := Lib.hid hb1
  clear hb1
  go_wp2_with fail
  go_ret3
  exact ⟨rfl, HB1.out.trans ((below_alloc1 (Below.refl _ _) _).mono HB1.out.size)⟩
set_option maxHeartbeats 6400000 in
set_option maxRecDepth 1000000 in
theorem WStep_leaf (bw bh lo : Nat) (v0 v1 v2 v4 : Value) (TA : Option Addr) (Tc : Nat) (ts : List Tr) (hv : Value) (mg sq : Int) (j k : Nat) (l : List Tk) (steps next : Nat) (w0 w : World) (t : Tr) (x : NodeV)
    (h : Wk w bw bh lo (v0, v1, v2, .slice TA ts.length Tc, v4) hv ((mg, sq, (j : Int), (k : Int)) :: l) (steps : Int) (next : Int)) (hB : Below w0.heap.size w0 w) (hfr : ∀ b, WkB bw bh hv b → w0.heap.size ≤ b) (hT : RdT w0 TA ts)
    (ht : ts[j]? = some t) (hx : (t.lay 0)[k]? = some x) (hxl : x.leaf = true) (hl : l.length ≤ 1000000) (hst : steps ≤ 1000000) :
    Calls Tryz.prog 67 #[.pointer (some ⟨bw, 0, none⟩)] w fun e w' => ∃ B c, e = .returned (.tuple #[.slice B x.ids.length c, .bool true, .bool true]) ∧ Rd w0 .i64 B x.ids ∧ x.ids.length ≤ c ∧ ∃ hv' l', WkTo w w' bw bh lo (v0, v1, v2, .slice TA ts.length Tc, v4) hv l' ((steps + 1 : Nat) : Int) (next : Int) hv' ∧ l'.Perm l := by
  have hb := h.b
  have c5 : w.cell? ⟨bw, 5, none⟩ = some (.pointer (some ⟨bh, 0, none⟩)) := by simp [World.cell?, hb]
  have HP := Lib.hid (PopK_some bh lo hv mg sq (j : Int) (k : Int) l w h.h h.ok hl)
  have H := Lib.hid h
  have hbl := obj_lt hb
  clear h hb
  go_enter Tryz.func67, Tryz.ntmps67
  go_wp2_with fail
  refine HP.out.mono ?_
  rintro e w1 ⟨he, hv', l', ⟨hH, hok, hon, hfr1⟩, hpm, hob⟩
  subst he
  clear c5 HP
  have hnb : ¬ HpBK hv bh bw := fun h => h.elim (fun e => H.out.ne e) fun e => H.out.nv bw e rfl
  have hb1 : w1.heap[bw]? = _ := hon.obj H.out.b hnb
  have e6 : w1.cell? ⟨bw, 6, none⟩ = some (.int .i64 (steps : Int)) := by simp [World.cell?, hb1]
  have g6 : w1.frozen? ⟨bw, 6, none⟩ = false := by simp [World.frozen?, hb1]
  have hw1 : IntKind.i64.wrap ((steps : Int) + 1) = ((steps + 1 : Nat) : Int) := by rw [i64_w]; exact wrap64_id _ (by omega)
  have hbl1 := obj_lt hb1
  have hne1 : ¬ bw = w1.heap.size := by omega
  have ge6 : ∀ o, (w1.alloc o).cell? ⟨bw, 6, none⟩ = some (.int .i64 (steps : Int)) := fun o => (World.cell?_alloc_lt (o := o) w1 _ hbl1).trans e6
  go_wp2_with fail
  obtain ⟨tb, htb⟩ : ∃ b, w1.heap.size = b := ⟨_, rfl⟩
  obtain ⟨W1, hW1⟩ : ∃ Z, w1.setCell ⟨bw, 6, none⟩ (.int .i64 ((steps : Int) + 1)) = Z := ⟨_, rfl⟩
  have hz1 : W1.heap.size = tb := by rw [← hW1, ← htb]; simp [World.setCell]
  have hbW1 : W1.heap[bw]? = some (.cells #[v0, v1, v2, .slice TA ts.length Tc, v4, .pointer (some ⟨bh, 0, none⟩), .int .i64 ((steps : Int) + 1), .int .i64 (next : Int)] 142 (0, 0)) := by rw [← hW1]; exact set_blk (cs := [_, _, _, _, _, _, _, _]) hb1 6 _
  have hWk1 : Wk W1 bw bh lo (v0, v1, v2, .slice TA ts.length Tc, v4) hv' l' ((steps + 1 : Nat) : Int) (next : Int) := by
    have hnv' : ∀ k, hv'.ownBlock = some k → k ≠ bw := fun k hk => H.out.nv k (by rw [← hob]; exact hk)
    refine ⟨hbW1, ?_, hok, H.out.ne, hnv'⟩
    rw [← hW1]
    exact hH.only (only_set _ _ _ _) (fun e => H.out.ne e.symm) (fun k hk e => hnv' k hk e)
  have hon1 : Only (WkB bw bh hv) w W1 := by
    rw [← hW1]
    exact (hon.mono fun k _ h => h.elim (fun h => .inr (.inl h)) fun h => .inr (.inr h)).trans ((only_set _ _ _ _).mono fun k _ h => .inl h)
  have hB1 : Below w0.heap.size w0 W1 := hB.trans (hon1.below hB.size fun k hk h => by have := hfr k h; omega)
  obtain ⟨W2, hW2⟩ : ∃ Z, W1.alloc (.cells #[.int .i64 mg, .int .i64 sq, .int .i64 (j : Int), .int .i64 (k : Int)] 203) = Z := ⟨_, rfl⟩
  have hB12 : Below W1.heap.size W1 W2 := by rw [← hW2]; exact below_alloc1 (Below.refl _ _) _
  have hx2 : W2.heap[tb]? = some (.cells #[.int .i64 mg, .int .i64 sq, .int .i64 (j : Int), .int .i64 (k : Int)] 203 (0, 0)) := by rw [← hW2, ← hz1]; exact heap_alloc_new _ _
  have hb2 := obj_below hB12 hbW1 (obj_lt hbW1)
  have hB02 : Below w0.heap.size w0 W2 := hB1.trans (hB12.mono hB1.size)
  obtain ⟨ad, BT, cT, rfl, zca, hrn⟩ := hT j t ht
  obtain ⟨gN, B1, n1c, B2, n2c, rfl, hgN, z0, z1, z2, z3, z4, z5, l1, l2⟩ := hrn.at_ k hx
  have hca := cell_below (B := w0.heap.size) (w := w0) hB02 zca (World.block_lt_of_cell? _ _ zca)
  have q0 := cell_below (B := w0.heap.size) (w := w0) hB02 z0 (World.block_lt_of_cell? _ _ z0)
  have q1 := cell_below (B := w0.heap.size) (w := w0) hB02 z1 (World.block_lt_of_cell? _ _ z1)
  have q2 := cell_below (B := w0.heap.size) (w := w0) hB02 z2 (World.block_lt_of_cell? _ _ z2)
  have q3 := cell_below (B := w0.heap.size) (w := w0) hB02 z3 (World.block_lt_of_cell? _ _ z3)
  have q4 := cell_below (B := w0.heap.size) (w := w0) hB02 z4 (World.block_lt_of_cell? _ _ z4)
  have q5 := cell_below (B := w0.heap.size) (w := w0) hB02 z5 (World.block_lt_of_cell? _ _ z5)
  have HZ := Lib.hid l1
  have HZ2 := Lib.hid l2
  have HLF := Lib.hid hxl
  clear zca z0 z1 z2 z3 z4 z5 l1 l2 hxl hrn
  have c3 : W2.cell? ⟨bw, 3, none⟩ = some (.slice (some ad) ts.length Tc) := by simp [World.cell?, hb2]
  have t2 : W2.cell? ⟨tb, 2, none⟩ = some (.int .i64 (j : Int)) := by simp [World.cell?, hx2]
  have t3 : W2.cell? ⟨tb, 3, none⟩ = some (.int .i64 (k : Int)) := by simp [World.cell?, hx2]
  have bj : (j : Int) < (ts.length : Int) := by have := (List.getElem?_eq_some_iff.1 ht).1; omega
  have bk : (k : Int) < (t.size : Int) := by have := (List.getElem?_eq_some_iff.1 hx).1; rw [Tr.lay_length] at this; omega
  rw [htb, hW1, hW2]
  have hs2 : W2.heap.size = tb + 1 := by rw [← hW2]; simp; omega
  go_cut [7] (fun s7 wx => s7 = .pointer (some ⟨W2.heap.size, 0, none⟩) ∧ wx.heap[W2.heap.size]? = some (.cells #[.bool x.leaf, .slice B1 x.ids.length n1c, .slice B2 x.ns.length n2c, .int .i64 x.off, .int .i64 x.left, .int .i64 x.right] 113 (0, 0)) ∧ Below W2.heap.size W2 wx)
  case first =>
    have KEEP := fun W (hBx : Below W2.heap.size W2 W) => (show W.cell? ⟨bw, 3, none⟩ = some (.slice (some ad) ts.length Tc) ∧ W.cell? ⟨tb, 2, none⟩ = some (.int .i64 (j : Int)) ∧ W.cell? ⟨tb, 3, none⟩ = some (.int .i64 (k : Int)) ∧ W.cell? (ad.add j) = some (.slice (some ⟨gN, 0, none⟩) t.size cT) ∧ W.cell? ⟨gN, k * 6, none⟩ = some (.bool x.leaf) ∧ W.cell? ⟨gN, k * 6 + 1, none⟩ = some (.slice B1 x.ids.length n1c) ∧ W.cell? ⟨gN, k * 6 + 2, none⟩ = some (.slice B2 x.ns.length n2c) ∧ W.cell? ⟨gN, k * 6 + 3, none⟩ = some (.int .i64 x.off) ∧ W.cell? ⟨gN, k * 6 + 4, none⟩ = some (.int .i64 x.left) ∧ W.cell? ⟨gN, k * 6 + 5, none⟩ = some (.int .i64 x.right) ∧ Below W2.heap.size W2 W from ⟨cell_below (B := W2.heap.size) (w := W2) hBx c3 (World.block_lt_of_cell? _ _ c3), cell_below (B := W2.heap.size) (w := W2) hBx t2 (World.block_lt_of_cell? _ _ t2), cell_below (B := W2.heap.size) (w := W2) hBx t3 (World.block_lt_of_cell? _ _ t3), cell_below (B := W2.heap.size) (w := W2) hBx hca (World.block_lt_of_cell? _ _ hca), cell_below (B := W2.heap.size) (w := W2) hBx q0 (World.block_lt_of_cell? _ _ q0), cell_below (B := W2.heap.size) (w := W2) hBx q1 (World.block_lt_of_cell? _ _ q1), cell_below (B := W2.heap.size) (w := W2) hBx q2 (World.block_lt_of_cell? _ _ q2), cell_below (B := W2.heap.size) (w := W2) hBx q3 (World.block_lt_of_cell? _ _ q3), cell_below (B := W2.heap.size) (w := W2) hBx q4 (World.block_lt_of_cell? _ _ q4), cell_below (B := W2.heap.size) (w := W2) hBx q5 (World.block_lt_of_cell? _ _ q5), hBx⟩)
    go_region_held3 (fun w' => w'.cell? ⟨bw, 3, none⟩ = some (.slice (some ad) ts.length Tc) ∧ w'.cell? ⟨tb, 2, none⟩ = some (.int .i64 (j : Int)) ∧ w'.cell? ⟨tb, 3, none⟩ = some (.int .i64 (k : Int)) ∧ w'.cell? (ad.add j) = some (.slice (some ⟨gN, 0, none⟩) t.size cT) ∧ w'.cell? ⟨gN, k * 6, none⟩ = some (.bool x.leaf) ∧ w'.cell? ⟨gN, k * 6 + 1, none⟩ = some (.slice B1 x.ids.length n1c) ∧ w'.cell? ⟨gN, k * 6 + 2, none⟩ = some (.slice B2 x.ns.length n2c) ∧ w'.cell? ⟨gN, k * 6 + 3, none⟩ = some (.int .i64 x.off) ∧ w'.cell? ⟨gN, k * 6 + 4, none⟩ = some (.int .i64 x.left) ∧ w'.cell? ⟨gN, k * 6 + 5, none⟩ = some (.int .i64 x.right) ∧ Below W2.heap.size W2 w')
      (first | exact KEEP _ (by first | ((repeat (first | assumption | exact Below.refl _ _ | apply below_drew1 | apply below_alloc1 | refine below_set ?_ (Nat.le_refl _) _ _)); done)) | go_keep)
      (first | fail)
    all_goals
      go_wp2_with fail
      go_meet
      first
        | exact ⟨by rw [hs2], heap_alloc_drew W2 _, (by first | ((repeat (first | assumption | exact Below.refl _ _ | apply below_drew1 | apply below_alloc1 | refine below_set ?_ (Nat.le_refl _) _ _)); done))⟩
        | exact ⟨by rw [hs2], by rw [← hs2]; exact heap_alloc_new _ _, (by first | ((repeat (first | assumption | exact Below.refl _ _ | apply below_drew1 | apply below_alloc1 | refine below_set ?_ (Nat.le_refl _) _ _)); done))⟩
  case rest =>
    obtain ⟨rfl, hq, hbc⟩ := hcut
    obtain ⟨q, hqq⟩ : ∃ q, W2.heap.size = q := ⟨_, rfl⟩
    rw [hqq] at hq ⊢
    have hxl := HLF.out
    have n0 : wc.cell? ⟨q, 0, none⟩ = some (.bool true) := by simp [World.cell?, hq, hxl]
    have n1 : wc.cell? ⟨q, 1, none⟩ = some (.slice B1 x.ids.length n1c) := by simp [World.cell?, hq]
    have HQ := Lib.hid hq
    have HSZ := Lib.hid hqq
    clear hq hqq hxl q0 q1 q2 q3 q4 q5 hca c3 t2 t3
    go_wp2_with fail
    go_ret3
    have hwc : Below W1.heap.size W1 wc := hB12.trans (hbc.mono (by have := hB12.size; omega))
    exact ⟨B1, n1c, rfl, HZ.out.2.1, HZ.out.1, hv', l', ⟨hWk1.keep hwc, hon1.trans (Only.of_below hwc), fun k hk => by rw [hob] at hk; exact .inl hk⟩, hpm⟩
set_option maxHeartbeats 6400000 in
set_option maxRecDepth 1000000 in
theorem WStep_split (bw bh lo : Nat) (v0 v1 v2 : Value) (TA : Option Addr) (Tc : Nat) (ts : List Tr) (VA : Option Addr) (vc : Nat) (ys : List Int) (hv : Value) (mg sq : Int) (j k : Nat) (l : List Tk) (steps next : Nat) (w0 w : World) (t : Tr) (x : NodeV)
    (h : Wk w bw bh lo (v0, v1, v2, .slice TA ts.length Tc, .slice VA ys.length vc) hv ((mg, sq, (j : Int), (k : Int)) :: l) (steps : Int) (next : Int)) (hB : Below w0.heap.size w0 w) (hfr : ∀ b, WkB bw bh hv b → w0.heap.size ≤ b) (hT : RdT w0 TA ts)
    (ht : ts[j]? = some t) (hx : (t.lay 0)[k]? = some x) (hxl : x.leaf = false) (hl : l.length ≤ 999990) (hst : steps ≤ 1000000) (hnx : next ≤ 999990) (hV : Rd w0 .i32 VA ys) (rx : R32 x.ns) (ry : R32 ys) :
    Calls Tryz.prog 67 #[.pointer (some ⟨bw, 0, none⟩)] w fun e w' => e = .returned (.tuple #[.slice none 0 0, .bool false, .bool true]) ∧ ∃ hv' l', WkTo w w' bw bh lo (v0, v1, v2, .slice TA ts.length Tc, .slice VA ys.length vc) hv l' ((steps + 1 : Nat) : Int) ((next + 2 : Nat) : Int) hv' ∧ l'.Perm ((minB mg (margin x.ns x.off ys), ((next + 1 : Nat) : Int), (j : Int), x.right) :: (minB mg (wrap64 (-(margin x.ns x.off ys))), (next : Int), (j : Int), x.left) :: l) := by
  have hb := h.b
  have c5 : w.cell? ⟨bw, 5, none⟩ = some (.pointer (some ⟨bh, 0, none⟩)) := by simp [World.cell?, hb]
  have HP := Lib.hid (PopK_some bh lo hv mg sq (j : Int) (k : Int) l w h.h h.ok (by omega))
  have H := Lib.hid h
  have hbl := obj_lt hb
  clear h hb
  go_enter Tryz.func67, Tryz.ntmps67
  go_wp2_with fail
  refine HP.out.mono ?_
  rintro e w1 ⟨he, hv', l', ⟨hH, hok, hon, hfr1⟩, hpm, hob⟩
  subst he
  clear c5 HP
  have hnb : ¬ HpBK hv bh bw := fun h => h.elim (fun e => H.out.ne e) fun e => H.out.nv bw e rfl
  have hb1 : w1.heap[bw]? = _ := hon.obj H.out.b hnb
  have e6 : w1.cell? ⟨bw, 6, none⟩ = some (.int .i64 (steps : Int)) := by simp [World.cell?, hb1]
  have g6 : w1.frozen? ⟨bw, 6, none⟩ = false := by simp [World.frozen?, hb1]
  have hw1 : IntKind.i64.wrap ((steps : Int) + 1) = ((steps + 1 : Nat) : Int) := by rw [i64_w]; exact wrap64_id _ (by omega)
  have hbl1 := obj_lt hb1
  have hne1 : ¬ bw = w1.heap.size := by omega
  have ge6 : ∀ o, (w1.alloc o).cell? ⟨bw, 6, none⟩ = some (.int .i64 (steps : Int)) := fun o => (World.cell?_alloc_lt (o := o) w1 _ hbl1).trans e6
  go_wp2_with fail
  obtain ⟨tb, htb⟩ : ∃ b, w1.heap.size = b := ⟨_, rfl⟩
  obtain ⟨W1, hW1⟩ : ∃ Z, w1.setCell ⟨bw, 6, none⟩ (.int .i64 ((steps : Int) + 1)) = Z := ⟨_, rfl⟩
  have hz1 : W1.heap.size = tb := by rw [← hW1, ← htb]; simp [World.setCell]
  have hbW1 : W1.heap[bw]? = some (.cells #[v0, v1, v2, .slice TA ts.length Tc, .slice VA ys.length vc, .pointer (some ⟨bh, 0, none⟩), .int .i64 ((steps : Int) + 1), .int .i64 (next : Int)] 142 (0, 0)) := by rw [← hW1]; exact set_blk (cs := [_, _, _, _, _, _, _, _]) hb1 6 _
  have hWk1 : Wk W1 bw bh lo (v0, v1, v2, .slice TA ts.length Tc, (.slice VA ys.length vc)) hv' l' ((steps + 1 : Nat) : Int) (next : Int) := by
    have hnv' : ∀ k, hv'.ownBlock = some k → k ≠ bw := fun k hk => H.out.nv k (by rw [← hob]; exact hk)
    refine ⟨hbW1, ?_, hok, H.out.ne, hnv'⟩
    rw [← hW1]
    exact hH.only (only_set _ _ _ _) (fun e => H.out.ne e.symm) (fun k hk e => hnv' k hk e)
  have hon1 : Only (WkB bw bh hv) w W1 := by
    rw [← hW1]
    exact (hon.mono fun k _ h => h.elim (fun h => .inr (.inl h)) fun h => .inr (.inr h)).trans ((only_set _ _ _ _).mono fun k _ h => .inl h)
  have hB1 : Below w0.heap.size w0 W1 := hB.trans (hon1.below hB.size fun k hk h => by have := hfr k h; omega)
  obtain ⟨W2, hW2⟩ : ∃ Z, W1.alloc (.cells #[.int .i64 mg, .int .i64 sq, .int .i64 (j : Int), .int .i64 (k : Int)] 203) = Z := ⟨_, rfl⟩
  have hB12 : Below W1.heap.size W1 W2 := by rw [← hW2]; exact below_alloc1 (Below.refl _ _) _
  have hx2 : W2.heap[tb]? = some (.cells #[.int .i64 mg, .int .i64 sq, .int .i64 (j : Int), .int .i64 (k : Int)] 203 (0, 0)) := by rw [← hW2, ← hz1]; exact heap_alloc_new _ _
  have hb2 := obj_below hB12 hbW1 (obj_lt hbW1)
  have hB02 : Below w0.heap.size w0 W2 := hB1.trans (hB12.mono hB1.size)
  obtain ⟨ad, BT, cT, rfl, zca, hrn⟩ := hT j t ht
  obtain ⟨gN, B1, n1c, B2, n2c, rfl, hgN, z0, z1, z2, z3, z4, z5, l1, l2⟩ := hrn.at_ k hx
  have hca := cell_below (B := w0.heap.size) (w := w0) hB02 zca (World.block_lt_of_cell? _ _ zca)
  have q0 := cell_below (B := w0.heap.size) (w := w0) hB02 z0 (World.block_lt_of_cell? _ _ z0)
  have q1 := cell_below (B := w0.heap.size) (w := w0) hB02 z1 (World.block_lt_of_cell? _ _ z1)
  have q2 := cell_below (B := w0.heap.size) (w := w0) hB02 z2 (World.block_lt_of_cell? _ _ z2)
  have q3 := cell_below (B := w0.heap.size) (w := w0) hB02 z3 (World.block_lt_of_cell? _ _ z3)
  have q4 := cell_below (B := w0.heap.size) (w := w0) hB02 z4 (World.block_lt_of_cell? _ _ z4)
  have q5 := cell_below (B := w0.heap.size) (w := w0) hB02 z5 (World.block_lt_of_cell? _ _ z5)
  have HZ := Lib.hid l1
  have HZ2 := Lib.hid l2
  have HLF := Lib.hid hxl
  clear zca z0 z1 z2 z3 z4 z5 l1 l2 hxl hrn
  have c3 : W2.cell? ⟨bw, 3, none⟩ = some (.slice (some ad) ts.length Tc) := by simp [World.cell?, hb2]
  have t2 : W2.cell? ⟨tb, 2, none⟩ = some (.int .i64 (j : Int)) := by simp [World.cell?, hx2]
  have t3 : W2.cell? ⟨tb, 3, none⟩ = some (.int .i64 (k : Int)) := by simp [World.cell?, hx2]
  have bj : (j : Int) < (ts.length : Int) := by have := (List.getElem?_eq_some_iff.1 ht).1; omega
  have bk : (k : Int) < (t.size : Int) := by have := (List.getElem?_eq_some_iff.1 hx).1; rw [Tr.lay_length] at this; omega
  rw [htb, hW1, hW2]
  have hs2 : W2.heap.size = tb + 1 := by rw [← hW2]; simp; omega
  go_cut [7] (fun s7 wx => s7 = .pointer (some ⟨W2.heap.size, 0, none⟩) ∧ wx.heap[W2.heap.size]? = some (.cells #[.bool x.leaf, .slice B1 x.ids.length n1c, .slice B2 x.ns.length n2c, .int .i64 x.off, .int .i64 x.left, .int .i64 x.right] 113 (0, 0)) ∧ Below W2.heap.size W2 wx)
  case first =>
    have KEEP := fun W (hBx : Below W2.heap.size W2 W) => (show W.cell? ⟨bw, 3, none⟩ = some (.slice (some ad) ts.length Tc) ∧ W.cell? ⟨tb, 2, none⟩ = some (.int .i64 (j : Int)) ∧ W.cell? ⟨tb, 3, none⟩ = some (.int .i64 (k : Int)) ∧ W.cell? (ad.add j) = some (.slice (some ⟨gN, 0, none⟩) t.size cT) ∧ W.cell? ⟨gN, k * 6, none⟩ = some (.bool x.leaf) ∧ W.cell? ⟨gN, k * 6 + 1, none⟩ = some (.slice B1 x.ids.length n1c) ∧ W.cell? ⟨gN, k * 6 + 2, none⟩ = some (.slice B2 x.ns.length n2c) ∧ W.cell? ⟨gN, k * 6 + 3, none⟩ = some (.int .i64 x.off) ∧ W.cell? ⟨gN, k * 6 + 4, none⟩ = some (.int .i64 x.left) ∧ W.cell? ⟨gN, k * 6 + 5, none⟩ = some (.int .i64 x.right) ∧ Below W2.heap.size W2 W from ⟨cell_below (B := W2.heap.size) (w := W2) hBx c3 (World.block_lt_of_cell? _ _ c3), cell_below (B := W2.heap.size) (w := W2) hBx t2 (World.block_lt_of_cell? _ _ t2), cell_below (B := W2.heap.size) (w := W2) hBx t3 (World.block_lt_of_cell? _ _ t3), cell_below (B := W2.heap.size) (w := W2) hBx hca (World.block_lt_of_cell? _ _ hca), cell_below (B := W2.heap.size) (w := W2) hBx q0 (World.block_lt_of_cell? _ _ q0), cell_below (B := W2.heap.size) (w := W2) hBx q1 (World.block_lt_of_cell? _ _ q1), cell_below (B := W2.heap.size) (w := W2) hBx q2 (World.block_lt_of_cell? _ _ q2), cell_below (B := W2.heap.size) (w := W2) hBx q3 (World.block_lt_of_cell? _ _ q3), cell_below (B := W2.heap.size) (w := W2) hBx q4 (World.block_lt_of_cell? _ _ q4), cell_below (B := W2.heap.size) (w := W2) hBx q5 (World.block_lt_of_cell? _ _ q5), hBx⟩)
    go_region_held3 (fun w' => w'.cell? ⟨bw, 3, none⟩ = some (.slice (some ad) ts.length Tc) ∧ w'.cell? ⟨tb, 2, none⟩ = some (.int .i64 (j : Int)) ∧ w'.cell? ⟨tb, 3, none⟩ = some (.int .i64 (k : Int)) ∧ w'.cell? (ad.add j) = some (.slice (some ⟨gN, 0, none⟩) t.size cT) ∧ w'.cell? ⟨gN, k * 6, none⟩ = some (.bool x.leaf) ∧ w'.cell? ⟨gN, k * 6 + 1, none⟩ = some (.slice B1 x.ids.length n1c) ∧ w'.cell? ⟨gN, k * 6 + 2, none⟩ = some (.slice B2 x.ns.length n2c) ∧ w'.cell? ⟨gN, k * 6 + 3, none⟩ = some (.int .i64 x.off) ∧ w'.cell? ⟨gN, k * 6 + 4, none⟩ = some (.int .i64 x.left) ∧ w'.cell? ⟨gN, k * 6 + 5, none⟩ = some (.int .i64 x.right) ∧ Below W2.heap.size W2 w')
      (first | exact KEEP _ (by first | ((repeat (first | assumption | exact Below.refl _ _ | apply below_drew1 | apply below_alloc1 | refine below_set ?_ (Nat.le_refl _) _ _)); done)) | go_keep)
      (first | fail)
    all_goals
      go_wp2_with fail
      go_meet
      first
        | exact ⟨by rw [hs2], heap_alloc_drew W2 _, (by first | ((repeat (first | assumption | exact Below.refl _ _ | apply below_drew1 | apply below_alloc1 | refine below_set ?_ (Nat.le_refl _) _ _)); done))⟩
        | exact ⟨by rw [hs2], by rw [← hs2]; exact heap_alloc_new _ _, (by first | ((repeat (first | assumption | exact Below.refl _ _ | apply below_drew1 | apply below_alloc1 | refine below_set ?_ (Nat.le_refl _) _ _)); done))⟩
  case rest =>
    obtain ⟨rfl, hq, hbc⟩ := hcut
    have hxl := HLF.out
    have hwt : w.heap.size ≤ tb := by have := hon.size; omega
    have hwc : Below W1.heap.size W1 wc := hB12.trans (hbc.mono (by have := hB12.size; omega))
    have hw0c : Below w0.heap.size w0 wc := hB1.trans (hwc.mono hB1.size)
    have hWkc : Wk wc bw bh lo (v0, v1, v2, .slice (some ad) ts.length Tc, .slice VA ys.length vc) hv' l' ((steps + 1 : Nat) : Int) (next : Int) := hWk1.keep hwc
    have honc : Only (WkB bw bh hv) w wc := hon1.trans (Only.of_below hwc)
    have hxc := obj_below (hbc) hx2 (by omega)
    obtain ⟨q, hqq⟩ : ∃ q, W2.heap.size = q := ⟨_, rfl⟩
    rw [hqq] at hq ⊢
    obtain ⟨hbwl, htbl⟩ : bw < tb ∧ tb < q := by omega
    have hbcc := hWkc.b
    have n0 : wc.cell? ⟨q, 0, none⟩ = some (.bool false) := by simp [World.cell?, hq, hxl]
    have n2 : wc.cell? ⟨q, 2, none⟩ = some (.slice B2 x.ns.length n2c) := by simp [World.cell?, hq]
    have n3 : wc.cell? ⟨q, 3, none⟩ = some (.int .i64 x.off) := by simp [World.cell?, hq]
    have b4 : wc.cell? ⟨bw, 4, none⟩ = some (.slice VA ys.length vc) := by simp [World.cell?, hbcc]
    have n2d : wc.drew.cell? ⟨q, 2, none⟩ = some (.slice B2 x.ns.length n2c) := n2
    have n3d : wc.drew.cell? ⟨q, 3, none⟩ = some (.int .i64 x.off) := n3
    have b4d : wc.drew.cell? ⟨bw, 4, none⟩ = some (.slice VA ys.length vc) := b4
    obtain ⟨mm, hmm⟩ : ∃ m, margin x.ns x.off ys = m := ⟨_, rfl⟩
    have HMG : ∀ W, Below w0.heap.size w0 W → Calls Tryz.prog 114 #[.agg #[.slice B2 x.ns.length n2c, .int .i64 x.off], .slice VA ys.length vc] W fun e w' => e = .returned (.int .i64 mm) ∧ Below W.heap.size W w' := by
      intro W hW
      rw [← hmm]
      exact Margin_calls B2 VA n2c vc x.ns ys x.off W (HZ2.out.2.1.below hW) (hV.below hW) rx ry
    have HMG' := Lib.hid HMG
    have HQ := Lib.hid hq
    have HXC := Lib.hid hxc
    have HSZ := Lib.hid hqq
    have HWC := Lib.hid hWkc
    have HONC := Lib.hid honc
    have HMM := Lib.hid hmm
    have HW0C := Lib.hid hw0c
    have HPM := Lib.hid hpm
    have HOB := Lib.hid hob
    clear hq hqq hxl hxc hWkc honc hbcc hmm HMG q0 q1 q2 q3 q4 q5 hca c3 t2 t3 hx2 hb1 hb2 hbW1 hWk1 hon hon1 hW1 hW2 htb hz1 hnb e6 g6 hw1 ge6 hbc hH hok hpm hob hs2 rx ry hV
    go_wp2_with fail
    go_still_tail 6, (by kernel_rfl)
    go_wp2_with fail
    refine Calls.mono (HMG'.out _ ?_) ?_
    · exact HW0C.out.trans ((below_drew1 (Below.refl _ _)).mono HW0C.out.size)
    rintro e w3 ⟨he, hb3⟩
    subst he
    have hb3' : Below wc.heap.size wc w3 := (below_drew1 (Below.refl _ wc)).trans hb3
    obtain ⟨nm, hnm⟩ : ∃ m, wrap64 (-mm) = m := ⟨_, rfl⟩
    have HNM := Lib.hid hnm
    have hwn : IntKind.i64.wrap (-mm) = nm := by rw [i64_w]; exact hnm
    obtain ⟨p1, hp1⟩ : ∃ m, (if nm < mg then nm else mg) = m := ⟨_, rfl⟩
    obtain ⟨p2, hp2⟩ : ∃ m, (if mm < mg then mm else mg) = m := ⟨_, rfl⟩
    have HP1 := Lib.hid (show minB mg nm = p1 from hp1)
    have HP2 := Lib.hid (show minB mg mm = p2 from hp2)
    have hx3 := obj_below hb3' HXC.out (obj_lt HXC.out)
    have hq3 := obj_below hb3' HQ.out (obj_lt HQ.out)
    have t0 : w3.cell? ⟨tb, 0, none⟩ = some (.int .i64 mg) := by simp [World.cell?, hx3]
    have t2 : w3.cell? ⟨tb, 2, none⟩ = some (.int .i64 (j : Int)) := by simp [World.cell?, hx3]
    have n4 : w3.cell? ⟨q, 4, none⟩ = some (.int .i64 x.left) := by simp [World.cell?, hq3]
    have HW3 := Lib.hid (HWC.out.keep hb3')
    have HON3 := Lib.hid (HONC.out.trans (Only.of_below hb3'))
    have hnbt : ¬ WkB bw bh hv' tb := fun h => by
      rcases h with h | h | h
      · omega
      · have := (H.out.h.lt); omega
      · have := H.out.lt tb (.inr (.inr (by rw [OwnB] at h ⊢; rw [← HOB.out]; exact h))); omega
    have HNBT := Lib.hid hnbt
    have hnbq : ¬ WkB bw bh hv' q := fun h => by
      rcases h with h | h | h
      · omega
      · have := (H.out.h.lt); omega
      · have := H.out.lt q (.inr (.inr (by rw [OwnB] at h ⊢; rw [← HOB.out]; exact h))); omega
    have HNBQ := Lib.hid hnbq
    have HPW := Lib.hid (WPush_calls bw bh lo _ hv' l' ((steps + 1 : Nat) : Int) next p1 (j : Int) x.left w3 HW3.out (by have := HPM.out.length_eq; omega) (by omega))
    have HX3 := Lib.hid hx3
    have HQ3 := Lib.hid hq3
    clear hx3 hq3 hnm hnbt hnbq hb3 hb3' n2d n3d b4d b4 n0 n2 n3
    go_wp2_with fail
    refine HPW.out.mono ?_
    rintro e w4 ⟨he, hv4, L4, ⟨hW4, hon4, hfr4⟩, hpm4⟩
    subst he
    clear t0 t2 n4 hp1
    have hx4 := hon4.obj HX3.out HNBT.out
    have hq4 := hon4.obj HQ3.out HNBQ.out
    have HW4 := Lib.hid hW4
    have HON4 := Lib.hid hon4
    have HFR4 := Lib.hid hfr4
    have HPM4 := Lib.hid hpm4
    have t0 : w4.cell? ⟨tb, 0, none⟩ = some (.int .i64 mg) := by simp [World.cell?, hx4]
    have t2 : w4.cell? ⟨tb, 2, none⟩ = some (.int .i64 (j : Int)) := by simp [World.cell?, hx4]
    have n5 : w4.cell? ⟨q, 5, none⟩ = some (.int .i64 x.right) := by simp [World.cell?, hq4]
    have HPX := Lib.hid (WPush_calls bw bh lo _ hv4 L4 ((steps + 1 : Nat) : Int) (next + 1) p2 (j : Int) x.right w4 HW4.out (by have := HPM.out.length_eq; have := HPM4.out.length_eq; simp only [List.length_cons] at this; omega) (by omega))
    clear hx4 hq4 hW4 hon4 hfr4 hpm4
    go_wp2_with fail
    refine HPX.out.mono ?_
    rintro e w5 ⟨he, hv5, L5, ⟨hW5, hon5, hfr5⟩, hpm5⟩
    subst he
    have HW5 := Lib.hid hW5
    have HON5 := Lib.hid hon5
    have HFR5 := Lib.hid hfr5
    have HPM5 := Lib.hid hpm5
    clear t0 t2 n5 hp2 hW5 hon5 hfr5 hpm5
    go_wp2_with fail
    go_ret3
    refine ⟨rfl, hv5, L5, ⟨HW5.out, ?_, ?_⟩, ?_⟩
    · refine only_join HON3.out (only_join HON4.out HON5.out fun k hk h => ?_) fun k hk h => ?_
      · rcases h with h | h | h
        · exact .inl h
        · exact .inr (.inl h)
        · rcases HFR4.out k h with h | h
          · exact .inr (.inr h)
          · omega
      · rcases h with h | h | h
        · exact .inl h
        · exact .inr (.inl h)
        · exact .inr (.inr (by rw [OwnB] at h ⊢; rw [← HOB.out]; exact h))
    · intro k hk
      have s3 := HON3.out.size
      have s4 := HON4.out.size
      rcases HFR5.out k hk with h | h
      · rcases HFR4.out k h with h | h
        · rw [HOB.out] at h; exact .inl h
        · exact .inr (by omega)
      · exact .inr (by omega)
    · rw [HMM.out, HNM.out, HP1.out, HP2.out]
      exact HPM5.out.trans (((HPM4.out.trans (HPM.out.cons _))).cons _)
end Go.Proofs.YticdmglondpgaaaGreat

/-! ## Search4: Package search: Check. Conditions: the forest is grown of its items; the vector reads as its list. -/
namespace Go.Proofs.YticdmglondpgaaaGreat
open Go.RowKit
set_option linter.unusedVariables false
set_option maxRecDepth 100000
set_option linter.unusedSimpArgs false

theorem Search_Check (bI dim : Nat) (rows : List (List Int)) (lf dp : Nat) (A : Option Addr) (c : Nat) (ts : List Tr) (VA : Option Addr) (vc : Nat) (ys : List Int) (w : World) (hI : It w bI dim rows) (hT : RdT w A ts) (hg : ForestG ts rows.length dim lf dp) (hV : Rd w .i32 VA ys) :
    Calls Tryz.prog 50 #[.agg #[.pointer (some ⟨bI, 0, none⟩), .int .i64 lf, .int .i64 dp, .slice A ts.length c], .slice VA ys.length vc] w fun e w' => e = .returned (.int .i64 (checkV ys dim)) ∧ Below w.heap.size w w' := by
  have HI := Lib.hid hI
  have HV := Lib.hid hV
  have hlc := fun W (h : Below w.heap.size w W) => LCheck_calls bI dim rows lf dp A c ts W (hI.below h) (hT.below h) hg
  have HLC := Lib.hid hlc
  clear hI hT hg hV hlc
  go_enter Tryz.func50, Tryz.ntmps50
  go_wp2_with fail
  obtain ⟨w1, aW⟩ : ∃ W, w.alloc (.cells #[.pointer (some ⟨bI, 0, none⟩), .int .i64 lf, .int .i64 dp, .slice A ts.length c] 61) = W := ⟨_, rfl⟩
  have ab : Below w.heap.size w w1 := by rw [← aW]; exact below_alloc1 (Below.refl _ _) _
  have ax : w1.heap[w.heap.size]? = some (.cells #[.pointer (some ⟨bI, 0, none⟩), .int .i64 lf, .int .i64 dp, .slice A ts.length c] 61 (0, 0)) := by rw [← aW]; exact heap_alloc_new _ _
  rw [aW]
  clear aW
  refine Calls.mono (HLC.out w1 ab) ?_
  rintro e w2 ⟨he, hb2⟩
  subst he
  have ax2 := obj_below hb2 ax (obj_lt ax)
  have ab2 : Below w.heap.size w w2 := ab.trans (hb2.mono ab.size)
  have x0 : w2.cell? ⟨w.heap.size, 0, none⟩ = some (.pointer (some ⟨bI, 0, none⟩)) := by simp [World.cell?, ax2]
  have HDI := Lib.hid (Dim_calls bI dim rows w2 (HI.out.below ab2))
  have HCK := Lib.hid (Check_calls VA vc ys dim w2 (HV.out.below ab2))
  have AB2 := Lib.hid ab2
  clear ab ax hb2 ax2 ab2
  go_wp2_with fail
  refine HDI.out.mono ?_
  rintro e w3 ⟨he, hw3⟩
  subst he hw3
  go_wp2_with fail
  refine HCK.out.mono ?_
  rintro e w3 ⟨he, hw3⟩
  subst he hw3
  go_wp2_with fail
  go_ret
  exact ⟨rfl, AB2.out⟩
end Go.Proofs.YticdmglondpgaaaGreat

/-! ## Srch: The search in plain Lean: tasks with the trees that stand at their places; srch: what Gather takes. -/
namespace Go.Proofs.YticdmglondpgaaaGreat
open Go.RowKit
set_option linter.unusedVariables false
set_option maxRecDepth 100000
set_option linter.unusedSimpArgs false

/-- A task: its margin, its number, its place, and the tree that stands there. -/
structure PT where
  mg : Int
  sq : Nat
  j : Nat
  k : Nat
  t : Tr
def PT.tk (p : PT) : Tk := (p.mg, (p.sq : Int), (p.j : Int), (p.k : Int))
def insP (p : PT) : List PT → List PT
  | [] => [p]
  | u :: l => if ltK p.tk u.tk = true then p :: u :: l else u :: insP p l
theorem insP_perm (p : PT) : ∀ l : List PT, (insP p l).Perm (p :: l)
  | [] => List.Perm.refl _
  | u :: l => by
    unfold insP
    split
    · exact List.Perm.refl _
    · exact ((insP_perm p l).cons u).trans (List.Perm.swap _ _ _)
def SortP (S : List PT) : Prop := S.Pairwise fun a b => ltK a.tk b.tk = true
theorem ltK_tr {a b c : Tk} (h : ltK a b = true) (k : ltK b c = true) : ltK a c = true := by
  rw [ltK_iff] at *
  omega
theorem insP_sort (p : PT) : ∀ l : List PT, SortP l → (∀ u ∈ l, u.sq ≠ p.sq) → SortP (insP p l)
  | [], _, _ => List.pairwise_singleton _ _
  | u :: l, h, hn => by
    obtain ⟨h1, h2⟩ := List.pairwise_cons.1 h
    unfold insP
    split
    · rename_i hlt
      refine List.pairwise_cons.2 ⟨fun x hx => ?_, h⟩
      rcases List.mem_cons.1 hx with rfl | hx
      · exact hlt
      · exact ltK_tr hlt (h1 x hx)
    · rename_i hlt
      refine List.pairwise_cons.2 ⟨fun x hx => ?_, insP_sort p l h2 fun x hx => hn x (List.mem_cons_of_mem _ hx)⟩
      rcases List.mem_cons.1 ((insP_perm p l).mem_iff.1 hx) with rfl | hx
      · have hs := hn u List.mem_cons_self
        rw [ltK_iff] at hlt ⊢
        simp only [PT.tk] at hlt ⊢
        omega
      · exact h1 x hx
/-- The heap's first one is the first of the sorted tasks. -/
theorem head_sort {p : PT} {S : List PT} {H : List Tk} (hh : HeapOk ltK H) (hp : H.Perm ((p :: S).map PT.tk)) (hs : SortP (p :: S)) : ∃ l, H = p.tk :: l ∧ l.Perm (S.map PT.tk) := by
  cases H with
  | nil => exact absurd hp.length_eq (by simp)
  | cons x l =>
    have hx : x = p.tk := by
      have h1 := hh.first ltK_wo (x := x) rfl (a := p.tk) (hp.mem_iff.2 (by simp))
      rcases List.mem_cons.1 (hp.mem_iff.1 (List.mem_cons_self : x ∈ x :: l)) with h2 | h2
      · exact h2
      · obtain ⟨u, hu, rfl⟩ := List.mem_map.1 h2
        rw [(List.pairwise_cons.1 hs).1 u hu] at h1
        cases h1
    subst hx
    exact ⟨l, rfl, (List.perm_cons _).1 hp⟩
def addAll (L ids : List Int) : List Int := ids.foldl (fun L i => if i ∈ L then L else L ++ [i]) L
theorem addAll_append (L a b : List Int) : addAll L (a ++ b) = addAll (addAll L a) b := by simp [addAll, List.foldl_append]
theorem addAll_one (L : List Int) (i : Int) : addAll L [i] = if i ∈ L then L else L ++ [i] := rfl
theorem addAll_mem : ∀ (ids L : List Int) (x : Int), x ∈ addAll L ids ↔ x ∈ L ∨ x ∈ ids
  | [], L, x => by simp [addAll]
  | i :: ids, L, x => by
    have h : addAll L (i :: ids) = addAll (if i ∈ L then L else L ++ [i]) ids := rfl
    rw [h, addAll_mem ids]
    split
    · simp only [List.mem_cons]
      constructor
      · rintro (h | h)
        · exact .inl h
        · exact .inr (.inr h)
      · rintro (h | rfl | h)
        · exact .inl h
        · exact .inl (by assumption)
        · exact .inr h
    · simp only [List.mem_append, List.mem_cons, List.not_mem_nil, or_false, or_assoc]
/-- The search: f rounds at most; the tasks, the next number, how many steps, what is met. -/
def srch (ys : List Int) (limit : Nat) : Nat → List PT → Nat → Nat → List Int → List Int × Nat
  | 0, _, _, st, met => (met, st)
  | f + 1, S, nx, st, met => if limit ≤ met.length then (met, st) else match S with
    | [] => (met, st)
    | ⟨_, _, _, _, .leaf ids⟩ :: l => srch ys limit f l nx (st + 1) (addAll met ids)
    | ⟨mg, _, j, k, .split ns off a b⟩ :: l =>
      srch ys limit f (insP ⟨minB mg (margin ns off ys), nx + 1, j, k + 1 + a.size, b⟩ (insP ⟨minB mg (wrap64 (-(margin ns off ys))), nx, j, k + 1, a⟩ l)) (nx + 2) (st + 1) met
/-- The tree stands at its place. -/
def Pend (ts : List Tr) (p : PT) : Prop := ∃ t A B, ts[p.j]? = some t ∧ t.lay 0 = A ++ (p.t.lay p.k ++ B) ∧ A.length = p.k
theorem Pend.leaf {ts : List Tr} {mg : Int} {sq j k : Nat} {ids : List Int} (h : Pend ts ⟨mg, sq, j, k, .leaf ids⟩) : ∃ t, ts[j]? = some t ∧ (t.lay 0)[k]? = some (leafN ids) := by
  obtain ⟨t, A, B, ht, hl, hA⟩ := h
  simp only at ht hl hA
  refine ⟨t, ht, ?_⟩
  rw [hl, ← hA, List.getElem?_append_right (Nat.le_refl _)]
  simp [Tr.lay]
theorem Pend.split {ts : List Tr} {mg : Int} {sq j k : Nat} {ns : List Int} {off : Int} {a b : Tr} (h : Pend ts ⟨mg, sq, j, k, .split ns off a b⟩) :
    (∃ t, ts[j]? = some t ∧ (t.lay 0)[k]? = some ⟨false, [], ns, off, ((k + 1 : Nat) : Int), ((k + 1 + a.size : Nat) : Int)⟩) ∧ (∀ m s, Pend ts ⟨m, s, j, k + 1, a⟩) ∧ ∀ m s, Pend ts ⟨m, s, j, k + 1 + a.size, b⟩ := by
  obtain ⟨t, A, B, ht, hl, hA⟩ := h
  simp only at ht hl hA
  simp only [Tr.lay] at hl
  obtain ⟨nd, hnd⟩ : ∃ nd, (⟨false, [], ns, off, ((k + 1 : Nat) : Int), ((k + 1 + a.size : Nat) : Int)⟩ : NodeV) = nd := ⟨_, rfl⟩
  rw [hnd] at hl ⊢
  refine ⟨⟨t, ht, ?_⟩, fun m s => ⟨t, A ++ [nd], b.lay (k + 1 + a.size) ++ B, ht, ?_, ?_⟩, fun m s => ⟨t, A ++ (nd :: a.lay (k + 1)), B, ht, ?_, ?_⟩⟩
  · rw [hl, ← hA, List.getElem?_append_right (Nat.le_refl _)]
    simp
  · rw [hl]; simp
  · simp [hA]
  · rw [hl]; simp
  · simp [hA, Tr.lay_length]; omega
/-- The tasks of a search under way. -/
structure SrS (ts : List Tr) (S : List PT) (nx : Nat) : Prop where
  srt : SortP S
  sq : ∀ p ∈ S, p.sq < nx
  pend : ∀ p ∈ S, Pend ts p
theorem SrS.tail {ts : List Tr} {p : PT} {S : List PT} {nx : Nat} (h : SrS ts (p :: S) nx) : SrS ts S nx :=
  ⟨(List.pairwise_cons.1 h.srt).2, fun q hq => h.sq q (List.mem_cons_of_mem _ hq), fun q hq => h.pend q (List.mem_cons_of_mem _ hq)⟩
theorem SrS.add {ts : List Tr} {p : PT} {S : List PT} {nx : Nat} (h : SrS ts S nx) (hp : Pend ts p) (hq : p.sq = nx) : SrS ts (insP p S) (nx + 1) := by
  refine ⟨insP_sort p S h.srt fun u hu => by have := h.sq u hu; omega, fun q hm => ?_, fun q hm => ?_⟩
  · rcases List.mem_cons.1 ((insP_perm p S).mem_iff.1 hm) with rfl | hm
    · omega
    · have := h.sq q hm; omega
  · rcases List.mem_cons.1 ((insP_perm p S).mem_iff.1 hm) with rfl | hm
    · exact hp
    · exact h.pend q hm
/-- How many nodes are still to come. -/
def left (S : List PT) : Nat := (S.map fun p => p.t.size).sum
theorem left_ins (p : PT) (S : List PT) : left (insP p S) = p.t.size + left S := by
  unfold left
  rw [((insP_perm p S).map _).sum_nat]
  simp
theorem left_length : ∀ S : List PT, S.length ≤ left S
  | [] => by simp [left]
  | p :: S => by have := left_length S; have := p.t.size_pos; simp only [left, List.map_cons, List.sum_cons, List.length_cons] at *; omega
def startP (ts : List Tr) : List PT := ts.zipIdx.map fun x => ⟨9223372036854775807, x.2, x.2, 0, x.1⟩
theorem startP_tk (ts : List Tr) : (startP ts).map PT.tk = startL ts.length := by
  apply List.ext_getElem?
  intro i
  by_cases hi : i < ts.length
  · simp [startP, startL, PT.tk, hi]
  · simp [startP, startL, PT.tk, hi]
theorem startP_ok (ts : List Tr) : SrS ts (startP ts) ts.length := by
  refine ⟨?_, fun p hp => ?_, fun p hp => ?_⟩
  · unfold SortP
    rw [List.pairwise_iff_getElem]
    intro i j hi hj hij
    rw [ltK_iff]
    simp [startP, PT.tk]
    omega
  · obtain ⟨x, hx, rfl⟩ := List.mem_map.1 hp
    have := List.mem_zipIdx hx
    simp at this ⊢
    omega
  · obtain ⟨x, hx, rfl⟩ := List.mem_map.1 hp
    refine ⟨x.1, [], [], ?_, by simp, rfl⟩
    have := List.mem_zipIdx_iff_getElem?.1 hx
    exact this
end Go.Proofs.YticdmglondpgaaaGreat

/-! ## Srch2: Package search: step, told by the plain search. Conditions: the tasks are those of a search under way. -/
namespace Go.Proofs.YticdmglondpgaaaGreat
open Go.RowKit
set_option linter.unusedVariables false
set_option maxRecDepth 100000
set_option linter.unusedSimpArgs false

/-- What a step hands back where there is a task. -/
def StepPost (ts : List Tr) (ys : List Int) (limit : Nat) (w0 w : World) (bw bh : Nat) (a : Value × Value × Value × Value × Value) (hv : Value) (S : List PT) (nx st : Nat) (e : Ending) (w' : World) : Prop :=
  ∃ (B : Option Addr) (c : Nat) (ids : List Int) (lf : Bool) (hv' : Value) (H' : List Tk) (S' : List PT) (nx' : Nat), e = .returned (.tuple #[.slice B ids.length c, .bool lf, .bool true]) ∧ Rd w0 .i64 B ids ∧ (∀ i ∈ ids, ∃ t ∈ ts, i ∈ t.ids) ∧ WkTo w w' bw bh bh a hv H' ((st + 1 : Nat) : Int) (nx' : Int) hv' ∧ H'.Perm (S'.map PT.tk) ∧
    SrS ts S' nx' ∧ left S' + 1 = left S ∧ nx' ≤ nx + 2 ∧ ∀ f met, met.length < limit → srch ys limit (f + 1) S nx st met = srch ys limit f S' nx' (st + 1) (addAll met ids)
theorem lay_leaf_ids : ∀ (t : Tr) (a k : Nat) (x : NodeV), (t.lay a)[k]? = some x → x.leaf = true → ∀ i ∈ x.ids, i ∈ t.ids := by
  intro t a k x hx hl i hi
  have h1 := Tr.lay_leaves t a
  have h2 : x.ids ∈ ((t.lay a).filter NodeV.leaf).map NodeV.ids := List.mem_map.2 ⟨x, List.mem_filter.2 ⟨List.mem_of_getElem? hx, hl⟩, rfl⟩
  rw [h1] at h2
  exact List.mem_flatten.2 ⟨_, h2, hi⟩
theorem lay_ok : ∀ (t : Tr) (dim : Nat) (a k : Nat) (x : NodeV), t.Ok dim → (t.lay a)[k]? = some x → x.leaf = false → checkP x.ns x.off dim = 0
  | .leaf ids, dim, a, k, x, _, hx, hl => by
    cases k with
    | zero => simp [Tr.lay] at hx; subst hx; cases hl
    | succ k => simp [Tr.lay] at hx
  | .split ns off l r, dim, a, k, x, ho, hx, hl => by
    obtain ⟨o1, o2, o3⟩ := ho
    cases k with
    | zero => simp [Tr.lay] at hx; subst hx; exact o1
    | succ k =>
      simp only [Tr.lay, List.getElem?_cons_succ] at hx
      by_cases hk : k < (l.lay (a + 1)).length
      · rw [List.getElem?_append_left hk] at hx
        exact lay_ok l dim _ k x o2 hx hl
      · rw [List.getElem?_append_right (by omega)] at hx
        exact lay_ok r dim _ _ x o3 hx hl
theorem WStep_more (bw bh bI lf dp : Nat) (TA : Option Addr) (Tc : Nat) (ts : List Tr) (VA : Option Addr) (vc dim : Nat) (ys : List Int) (limit : Nat) (hv : Value) (H : List Tk) (p : PT) (l : List PT) (st nx : Nat) (w0 w : World)
    (h : Wk w bw bh bh (.pointer (some ⟨bI, 0, none⟩), .int .i64 lf, .int .i64 dp, .slice TA ts.length Tc, .slice VA ys.length vc) hv H (st : Int) (nx : Int)) (hp : H.Perm ((p :: l).map PT.tk)) (hs : SrS ts (p :: l) nx) (hB : Below w0.heap.size w0 w) (hfr : ∀ b, WkB bw bh hv b → w0.heap.size ≤ b) (hT : RdT w0 TA ts)
    (hl : left (p :: l) ≤ 900000) (hst : st ≤ 1000000) (hnx : nx ≤ 999990) (hV : Rd w0 .i32 VA ys) (hok : ∀ t ∈ ts, t.Ok dim) (ry : R32 ys) :
    Calls Tryz.prog 67 #[.pointer (some ⟨bw, 0, none⟩)] w (StepPost ts ys limit w0 w bw bh (.pointer (some ⟨bI, 0, none⟩), .int .i64 lf, .int .i64 dp, .slice TA ts.length Tc, .slice VA ys.length vc) hv (p :: l) nx st) := by
  have hll := left_length l
  have hps := p.t.size_pos
  have hle : left (p :: l) = p.t.size + left l := rfl
  obtain ⟨l0, rfl, hpm⟩ := head_sort h.ok hp hs.srt
  have hl0 : l0.length ≤ 900000 := by have := hpm.length_eq; simp only [List.length_map] at this; omega
  obtain ⟨mg, sq, j, k, t0⟩ := p
  cases t0 with
  | leaf ids =>
    obtain ⟨t, ht, hx⟩ := (hs.pend _ List.mem_cons_self).leaf
    refine (WStep_leaf bw bh bh (.pointer (some ⟨bI, 0, none⟩)) (.int .i64 lf) (.int .i64 dp) (.slice VA ys.length vc) TA Tc ts hv mg (sq : Int) j k l0 st nx w0 w t (leafN ids) h hB hfr hT ht hx rfl (by omega) hst).mono ?_
    rintro e w1 ⟨B, c, he, hr, hc, hv', l', hw, hpl⟩
    refine ⟨B, c, ids, true, hv', l', l, nx, he, hr, fun i hi => ⟨t, List.mem_of_getElem? ht, lay_leaf_ids t 0 k _ hx rfl i hi⟩, hw, hpl.trans hpm, hs.tail, ?_, by omega, fun f met hm => ?_⟩
    · rw [hle]; simp only [Tr.size]; omega
    · rw [srch, if_neg (by omega)]
  | split ns off a b =>
    obtain ⟨⟨t, ht, hx⟩, ha, hb⟩ := (hs.pend _ List.mem_cons_self).split
    have hcp := lay_ok t dim 0 k _ (hok t (List.mem_of_getElem? ht)) hx rfl
    refine (WStep_split bw bh bh (.pointer (some ⟨bI, 0, none⟩)) (.int .i64 lf) (.int .i64 dp) TA Tc ts VA vc ys hv mg (sq : Int) j k l0 st nx w0 w t _ h hB hfr hT ht hx rfl (by omega) hst hnx hV (checkP_zero hcp).2.2.2.1.r32 ry).mono ?_
    rintro e w1 ⟨he, hv', l', hw, hpl⟩
    have s1 := hs.tail.add (p := ⟨minB mg (wrap64 (-(margin ns off ys))), nx, j, k + 1, a⟩) (ha _ _) rfl
    have s2 := s1.add (p := ⟨minB mg (margin ns off ys), nx + 1, j, k + 1 + a.size, b⟩) (hb _ _) rfl
    refine ⟨none, 0, [], false, hv', l', _, nx + 2, he, Rd.nil _ _ _, fun i hi => by simp at hi, hw, ?_, s2, ?_, by omega, fun f met hm => ?_⟩
    · refine hpl.trans ?_
      refine ((((hpm.cons _).cons _)).trans ?_)
      exact ((((insP_perm ⟨minB mg (margin ns off ys), nx + 1, j, k + 1 + a.size, b⟩ _).map PT.tk).trans (((insP_perm ⟨minB mg (wrap64 (-(margin ns off ys))), nx, j, k + 1, a⟩ l).map PT.tk).cons _)).symm)
    · rw [hle, left_ins, left_ins]; simp only [Tr.size]; omega
    · rw [srch, if_neg (by omega)]; rfl
end Go.Proofs.YticdmglondpgaaaGreat

/-! ## Gather: Package search: Gather. Conditions: the forest is grown of its items; the vector may be. -/
namespace Go.Proofs.YticdmglondpgaaaGreat
open Go.RowKit
set_option linter.unusedVariables false
set_option maxRecDepth 100000
set_option linter.unusedSimpArgs false

/-- What Gather meets. -/
def gath (ts : List Tr) (ys : List Int) (limit : Nat) : List Int × Nat := srch ys limit (left (startP ts)) (startP ts) ts.length 0 []
/-- All and Collect, on a set. -/
def ColH : Prop := ∀ (b g n : Nat) (L : List Int) (w : World), SetM w b g n L →
  Calls Tryz.prog 70 #[.pointer (some ⟨b, 0, none⟩)] w fun e w' => ∃ q, e = .returned (.func (.func 117) #[] #[.pointer (some ⟨q, 0, none⟩)]) ∧ Below w.heap.size w w' ∧
    ∀ W, Below w'.heap.size w' W → Calls Tryz.prog 69 #[.func (.func 117) #[] #[.pointer (some ⟨q, 0, none⟩)]] W fun e w2 => ∃ B c, e = .returned (.slice B ((upTo n).filter (· ∈ L)).length c) ∧ Rd w2 .i64 B ((upTo n).filter (· ∈ L)) ∧ ((upTo n).filter (· ∈ L)).length ≤ c ∧ (∀ ad, B = some ad → 0 < ((upTo n).filter (· ∈ L)).length → W.heap.size ≤ ad.block) ∧ Below W.heap.size W w2
def GatherPost (ts : List Tr) (ys : List Int) (limit n : Nat) (w : World) (e : Ending) (w' : World) : Prop :=
  ∃ B c, e = .returned (.tuple #[.slice B ((upTo n).filter (· ∈ (gath ts ys limit).1)).length c, .int .i64 ((gath ts ys limit).2 : Int), .int .i64 0]) ∧ Rd w' .i64 B ((upTo n).filter (· ∈ (gath ts ys limit).1)) ∧ ((upTo n).filter (· ∈ (gath ts ys limit).1)).length ≤ c ∧ Below w.heap.size w w'
theorem left_start {ts : List Tr} (h : ∀ t ∈ ts, t.size ≤ 127) : left (startP ts) ≤ 127 * ts.length := by
  have h2 : ∀ (l : List Tr) (m : Nat), (∀ t ∈ l, t.size ≤ 127) → (((l.zipIdx m).map fun x => (⟨9223372036854775807, x.2, x.2, 0, x.1⟩ : PT)).map fun p => p.t.size).sum ≤ 127 * l.length := by
    intro l
    induction l with
    | nil => intro m _; simp
    | cons t l ih =>
      intro m h
      have h1 := h t List.mem_cons_self
      have h3 := ih (m + 1) fun t ht => h t (List.mem_cons_of_mem _ ht)
      simp only [List.zipIdx_cons, List.map_cons, List.sum_cons, List.length_cons]
      omega
  exact h2 ts 0 h
set_option maxHeartbeats 6400000 in
set_option maxRecDepth 1000000 in
theorem Gather_calls (hcol : ColH) (bI dim : Nat) (rows : List (List Int)) (lf dp : Nat) (TA : Option Addr) (Tc : Nat) (ts : List Tr) (VA : Option Addr) (vc : Nat) (ys : List Int) (limit : Nat) (w : World) (hI : It w bI dim rows) (hT : RdT w TA ts) (hg : ForestG ts rows.length dim lf dp) (hV : Rd w .i32 VA ys) (hc : checkV ys dim = 0) (h1 : 1 ≤ limit) (h2 : limit ≤ 16777216) :
    Calls Tryz.prog 26 #[.agg #[.pointer (some ⟨bI, 0, none⟩), .int .i64 lf, .int .i64 dp, .slice TA ts.length Tc], .slice VA ys.length vc, .int .i64 (limit : Int)] w (GatherPost ts ys limit rows.length w) := by
  have HI := Lib.hid hI
  have HT := Lib.hid hT
  have HV := Lib.hid hV
  have hck := fun W (h : Below w.heap.size w W) => (show Calls Tryz.prog 50 #[.agg #[.pointer (some ⟨bI, 0, none⟩), .int .i64 lf, .int .i64 dp, .slice TA ts.length Tc], .slice VA ys.length vc] W fun e w' => e = .returned (.int .i64 0) ∧ Below W.heap.size W w' from hc ▸ Search_Check bI dim rows lf dp TA Tc ts VA vc ys W (hI.below h) (hT.below h) hg (hV.below h))
  have HCK := Lib.hid hck
  have h1' : decide ((limit : Int) < 1) = false := decide_eq_false (by omega)
  have h2' : decide (16777216 < (limit : Int)) = false := decide_eq_false (by omega)
  obtain ⟨GR, hGR⟩ : ∃ g, gath ts ys limit = g := ⟨_, rfl⟩
  have HGR := Lib.hid hGR
  have hls := left_start (ts := ts) fun t ht => (hg.g t ht).1.size_le
  have htl := hg.t2
  have HOK := Lib.hid (show ∀ t ∈ ts, t.Ok dim from fun t ht => (hg.g t ht).1.ok)
  have hids : ∀ t ∈ ts, ∀ i ∈ t.ids, 0 ≤ i ∧ i < (rows.length : Int) := fun t ht i hi => by
    have := (hg.g t ht).1.perm.mem_iff.1 hi
    simp [upTo] at this
    omega
  have HIDS := Lib.hid hids
  have HRY := Lib.hid (checkV_zero hc).2.2.2.r32
  obtain ⟨n, hn⟩ : ∃ n, rows.length = n := ⟨_, rfl⟩
  have hn1 := hg.n1
  have hn2 := hg.n2
  have hbg := fun W => Begin_calls (some ⟨bI, 0, none⟩) lf dp TA ts.length Tc VA ys.length vc W htl
  have HBG := Lib.hid hbg
  have HN := Lib.hid hn
  have HCOL := Lib.hid hcol
  have hlen := fun W (h : Below w.heap.size w W) => hn ▸ Len_calls bI dim rows W (hI.below h)
  have HLEN := Lib.hid hlen
  rw [hn] at hn1 hn2 ⊢
  clear hI hT hV hck hc hg h1 h2 hGR hids hbg hn hcol hlen
  go_enter Tryz.func26, Tryz.ntmps26
  go_wp2_with fail
  obtain ⟨w1, AW⟩ : ∃ W, w.alloc (.cells #[.pointer (some ⟨bI, 0, none⟩), .int .i64 lf, .int .i64 dp, .slice TA ts.length Tc] 61) = W := ⟨_, rfl⟩
  have Ab : Below w.heap.size w w1 := by rw [← AW]; exact below_alloc1 (Below.refl _ _) _
  have Ax : w1.heap[w.heap.size]? = some (.cells #[.pointer (some ⟨bI, 0, none⟩), .int .i64 lf, .int .i64 dp, .slice TA ts.length Tc] 61 (0, 0)) := by rw [← AW]; exact heap_alloc_new _ _
  rw [AW]
  clear AW
  refine Calls.mono (HCK.out w1 Ab) ?_
  rintro e w2 ⟨he, hb2⟩
  subst he
  have Ab2 : Below w.heap.size w w2 := Ab.trans (hb2.mono Ab.size)
  have Ax2 := obj_below hb2 Ax (obj_lt Ax)
  have AX2 := Lib.hid Ax2
  have y0 : w2.cell? ⟨w.heap.size, 0, none⟩ = some (.pointer (some ⟨bI, 0, none⟩)) := by simp [World.cell?, Ax2]
  have y1 : w2.cell? ⟨w.heap.size, 1, none⟩ = some (.int .i64 lf) := by simp [World.cell?, Ax2]
  have y2 : w2.cell? ⟨w.heap.size, 2, none⟩ = some (.int .i64 dp) := by simp [World.cell?, Ax2]
  have y3 : w2.cell? ⟨w.heap.size, 3, none⟩ = some (.slice TA ts.length Tc) := by simp [World.cell?, Ax2]
  have AB2 := Lib.hid Ab2
  clear Ab Ax hb2 Ab2 Ax2
  go_wp2_with fail
  refine (HBG.out w2).mono ?_
  rintro e w3 ⟨bw, bh, hv, H, he, hW, hpm, hfr, hb3⟩
  subst he
  have hB3 := AB2.out.trans (hb3.mono AB2.out.size)
  have hx3 := obj_below hb3 AX2.out (obj_lt AX2.out)
  have z0 : w3.cell? ⟨w.heap.size, 0, none⟩ = some (.pointer (some ⟨bI, 0, none⟩)) := by simp [World.cell?, hx3]
  have HW := Lib.hid hW
  have HPM := Lib.hid hpm
  have HFR := Lib.hid hfr
  have HB3 := Lib.hid hB3
  clear y0 y1 y2 y3 hW hpm hfr hb3 hB3 hx3 h1' h2'
  go_wp2_with fail
  refine (HLEN.out w3 HB3.out).mono ?_
  rintro e w4 ⟨he, nq, hw4⟩
  subst he
  have hb4 : Below w3.heap.size w3 w4 := by rw [hw4]; exact below_drewN_self _ _
  have HB4 := Lib.hid hb4
  clear hw4 hb4 z0
  go_wp2_with fail
  refine (MNew_calls n w4 hn1 hn2).mono ?_
  rintro e w5 ⟨bs, gs, he, hS, hbs, hgs, hb5⟩
  subst he
  have hb35 : Below w3.heap.size w3 w5 := HB4.out.trans (hb5.mono HB4.out.size)
  have HW5 := Lib.hid (HW.out.keep hb35)
  have HB5 := Lib.hid (HB3.out.trans (hb35.mono HB3.out.size))
  have HS5 := Lib.hid hS
  have HF5 := Lib.hid (show ∀ k, WkB bw bh hv k → w.heap.size ≤ k ∧ k ≠ bs ∧ k ≠ gs from fun k hk => by
    have e1 := HFR.out k hk
    have e2 := HW.out.lt k hk
    have e3 := HB4.out.size
    have e4 := AB2.out.size
    omega)
  have hbs5 : w.heap.size ≤ bs ∧ w.heap.size ≤ gs := by
    have e3 := HB4.out.size
    have e4 := HB3.out.size
    omega
  have HPS := Lib.hid (show H.Perm ((startP ts).map PT.tk) from by rw [startP_tk]; exact HPM.out)
  have HNE := Lib.hid hS.2.2.1
  clear hb35 hb5 hS hbs hgs
  go_wp2_with fail
  go_loopg [] (left (startP ts)) (fun kq w' => ∃ (S : List PT) (hv : Value) (H : List Tk) (nx st : Nat) (met : List Int), SrS ts S nx ∧ H.Perm (S.map PT.tk) ∧ Wk w' bw bh bh (.pointer (some ⟨bI, 0, none⟩), .int .i64 lf, .int .i64 dp, .slice TA ts.length Tc, .slice VA ys.length vc) hv H (st : Int) (nx : Int) ∧ SetM w' bs gs n met ∧ (∀ k, WkB bw bh hv k → w.heap.size ≤ k ∧ k ≠ bs ∧ k ≠ gs) ∧ Below w.heap.size w w' ∧ left S ≤ kq ∧ nx + 2 * left S ≤ 70000 ∧ st + left S ≤ 40000 ∧ srch ys limit kq S nx st met = GR)
  case atStart =>
    refine ⟨startP ts, hv, H, ts.length, 0, [], startP_ok ts, HPS.out, HW5.out, HS5.out, HF5.out, HB5.out, Nat.le_refl _, by omega, by omega, HGR.out⟩
  case round =>
    clear HW HPM HFR HB3 HB4 HW5 HB5 HS5 HF5 HPS HLEN HCK HBG HI
    obtain ⟨S, hv1, H1, nx, st, met, hs, hpm, hw, hset, hfr, hB, hle, hnx, hst, hsr⟩ := hrel
    have HSS := Lib.hid hs
    have HPM := Lib.hid hpm
    have HW := Lib.hid hw
    have HST := Lib.hid hset
    have HFR := Lib.hid hfr
    have HB := Lib.hid hB
    have HSR := Lib.hid hsr
    have HML := Lib.hid (MLen_calls bs gs n met wr hset)
    clear hs hpm hw hset hfr hB hsr
    go_wp2_with fail
    refine HML.out.mono ?_
    rintro e w6 ⟨he, hw6⟩
    subst he hw6
    clear HML
    by_cases hm : limit ≤ met.length
    · have hlt : ¬ (met.length : Int) < (limit : Int) := by omega
      go_wp2_with fail
      have hgr : (met, st) = GR := by
        rw [← HSR.out]
        cases gk with
        | zero => rfl
        | succ f => unfold srch; rw [if_pos hm]
      have e6 : wr.cell? ⟨bw, 6, none⟩ = some (.int .i64 (st : Int)) := by have hq := (HW.out).b; simp [World.cell?, hq]
      have hca := fun W (h : Below wr.heap.size wr W) => HCOL.out bs gs n met W ((HST.out).keep h)
      have HCA := Lib.hid hca
      have HBX := Lib.hid (HB.out)
      clear hca
      go_region_held3 (fun w' => w'.cell? ⟨bw, 6, none⟩ = some (.int .i64 (st : Int)) ∧ Below wr.heap.size wr w')
        (first | exact ⟨cell_below (B := wr.heap.size) (w := wr) (by first | ((repeat (first | assumption | exact Below.refl _ _ | apply below_drew1 | apply below_alloc1)); done)) e6 (World.block_lt_of_cell? _ _ e6), (by first | ((repeat (first | assumption | exact Below.refl _ _ | apply below_drew1 | apply below_alloc1)); done))⟩ | go_keep)
        (first
          | (go_at_call 70; go_split_ands; (with_reducible refine Calls.mono (HCA.out _ ?_) ?_); (exact (by first | ((repeat (first | assumption | exact Below.refl _ _ | apply below_drew1 | apply below_alloc1)); done))); rintro e wa ⟨q, he, hba, hcc⟩; subst he; have hBa : Below wr.heap.size wr wa := Below.after (by first | ((repeat (first | assumption | exact Below.refl _ _ | apply below_drew1 | apply below_alloc1)); done)) hba; have HCC := Lib.hid hcc; clear hcc)
          | (go_at_call 69; go_split_ands; (with_reducible refine Calls.mono (HCC.out _ ?_) ?_); (exact (by first | ((repeat (first | assumption | exact Below.refl _ _ | apply below_drew1 | apply below_alloc1)); done))); rintro e wb ⟨B, c, he, hr, hcl, hfs, hbb⟩; subst he; have hBb : Below wr.heap.size wr wb := Below.after (by first | ((repeat (first | assumption | exact Below.refl _ _ | apply below_drew1 | apply below_alloc1)); done)) hbb; have HR := Lib.hid hr; have HCL := Lib.hid hcl; clear hr hcl hfs))
      all_goals
        go_wp2_with fail
        go_ret3
        unfold GatherPost
        rw [HGR.out, ← hgr]
        exact ⟨B, c, rfl, by first | exact HR.out | exact HR.out.below (by with_reducible first | exact below_drew1 (Below.refl _ _)), HCL.out, HBX.out.trans (Below.mono (B := wr.heap.size) (by first | ((repeat (first | assumption | exact Below.refl _ _ | apply below_drew1 | apply below_alloc1)); done)) HBX.out.size)⟩
    · have hlt : (met.length : Int) < (limit : Int) := by omega
      go_wp2_with fail
      cases S with
      | nil =>
        obtain rfl : H1 = [] := List.Perm.eq_nil HPM.out
        refine (WStep_none bw bh bh _ hv1 (st : Int) (nx : Int) wr HW.out).mono ?_
        rintro e w7 ⟨he, hb7⟩
        subst he
        have HB7 := Lib.hid hb7
        clear hb7
        go_wp2_with fail
        have hgr : (met, st) = GR := by
          rw [← HSR.out]
          cases gk with
          | zero => rfl
          | succ f => unfold srch; rw [if_neg hm]
        have e6 : w7.cell? ⟨bw, 6, none⟩ = some (.int .i64 (st : Int)) := by have hq := (HW.out.keep HB7.out).b; simp [World.cell?, hq]
        have hca := fun W (h : Below w7.heap.size w7 W) => HCOL.out bs gs n met W ((HST.out.keep HB7.out).keep h)
        have HCA := Lib.hid hca
        have HBX := Lib.hid (HB.out.trans (HB7.out.mono HB.out.size))
        clear hca
        go_region_held3 (fun w' => w'.cell? ⟨bw, 6, none⟩ = some (.int .i64 (st : Int)) ∧ Below w7.heap.size w7 w')
          (first | exact ⟨cell_below (B := w7.heap.size) (w := w7) (by first | ((repeat (first | assumption | exact Below.refl _ _ | apply below_drew1 | apply below_alloc1)); done)) e6 (World.block_lt_of_cell? _ _ e6), (by first | ((repeat (first | assumption | exact Below.refl _ _ | apply below_drew1 | apply below_alloc1)); done))⟩ | go_keep)
          (first
            | (go_at_call 70; go_split_ands; (with_reducible refine Calls.mono (HCA.out _ ?_) ?_); (exact (by first | ((repeat (first | assumption | exact Below.refl _ _ | apply below_drew1 | apply below_alloc1)); done))); rintro e wa ⟨q, he, hba, hcc⟩; subst he; have hBa : Below w7.heap.size w7 wa := Below.after (by first | ((repeat (first | assumption | exact Below.refl _ _ | apply below_drew1 | apply below_alloc1)); done)) hba; have HCC := Lib.hid hcc; clear hcc)
            | (go_at_call 69; go_split_ands; (with_reducible refine Calls.mono (HCC.out _ ?_) ?_); (exact (by first | ((repeat (first | assumption | exact Below.refl _ _ | apply below_drew1 | apply below_alloc1)); done))); rintro e wb ⟨B, c, he, hr, hcl, hfs, hbb⟩; subst he; have hBb : Below w7.heap.size w7 wb := Below.after (by first | ((repeat (first | assumption | exact Below.refl _ _ | apply below_drew1 | apply below_alloc1)); done)) hbb; have HR := Lib.hid hr; have HCL := Lib.hid hcl; clear hr hcl hfs))
        all_goals
          go_wp2_with fail
          go_ret3
          unfold GatherPost
          rw [HGR.out, ← hgr]
          exact ⟨B, c, rfl, by first | exact HR.out | exact HR.out.below (by with_reducible first | exact below_drew1 (Below.refl _ _)), HCL.out, HBX.out.trans (Below.mono (B := w7.heap.size) (by first | ((repeat (first | assumption | exact Below.refl _ _ | apply below_drew1 | apply below_alloc1)); done)) HBX.out.size)⟩
      | cons p l =>
        refine (WStep_more bw bh bI lf dp TA Tc ts VA vc dim ys limit hv1 H1 p l st nx w wr HW.out HPM.out HSS.out HB.out (fun k hk => (HFR.out k hk).1) HT.out (by omega) (by omega) (by omega) HV.out HOK.out HRY.out).mono ?_
        rintro e w7 ⟨B, c, ids, lff, hv', H', S', nx', he, hr, hmem, hwk, hpm', hss', hleft, hnx', hsrch⟩
        subst he
        have HR := Lib.hid hr
        have HME := Lib.hid hmem
        have HWK := Lib.hid hwk
        have HPM' := Lib.hid hpm'
        have HSS' := Lib.hid hss'
        have HSRCH := Lib.hid hsrch
        clear hr hmem hwk hpm' hss' hsrch
        cases gk with
        | zero => omega
        | succ f =>
        obtain ⟨m, hmm⟩ : ∃ m, ids.length = m := ⟨_, rfl⟩
        have HM := Lib.hid hmm
        rw [hmm]
        have HB7 := Lib.hid (HB.out.trans (HWK.out.2.1.below HB.out.size fun k hk h => by have := (HFR.out k h).1; omega))
        have hnb := fun h : WkB bw bh hv1 bs => (HFR.out bs h).2.1 rfl
        have hng := fun h : WkB bw bh hv1 gs => (HFR.out gs h).2.2 rfl
        have HS7 := Lib.hid (HST.out.only HWK.out.2.1 hnb hng)
        have HSTL := Lib.hid HST.out.lt
        clear hmm hlt hnb hng
        go_wp2_with fail
        go_loopg [50] m (fun kq v50 w' => kq ≤ m ∧ v50 = .int .i64 ((m - kq : Nat) : Int) ∧ SetM w' bs gs n (addAll met (ids.take (m - kq))) ∧ Only (fun k => k = bs ∨ k = gs) w7 w')
        case atStart => exact ⟨Nat.le_refl _, by simp, by simpa [addAll] using HS7.out, Only.refl _ _⟩
        case round =>
          obtain ⟨hk, rfl, hs2, ho2⟩ := hrel
          have HS2 := Lib.hid hs2
          have HO2 := Lib.hid ho2
          clear hs2 ho2
          cases gk with
          | zero =>
            have hlt : ¬ (((m - 0 : Nat) : Int)) < (m : Int) := by omega
            have HS3 := Lib.hid (show SetM wr bs gs n (addAll met ids) from by have h := HS2.out; rwa [List.take_of_length_le (by have := HM.out; omega)] at h)
            go_wp2_with fail
            go_roundg f
            case measure => omega
            case rel =>
              have hwo := HWK.out.2.2
              have hlt5 := HWK.out.1.lt
              have hbl := HWK.out.2.1.size
              have hst3 := HS2.out.lt
              have hfr7 : ∀ k, WkB bw bh hv' k → w.heap.size ≤ k ∧ k ≠ bs ∧ k ≠ gs := fun k hk => by
                rcases hk with h | h | h
                · exact HFR.out k (.inl h)
                · exact HFR.out k (.inr (.inl h))
                · rcases hwo k h with h | h
                  · exact HFR.out k (.inr (.inr h))
                  · have e1 := HB.out.size
                    have e2 := HSTL.out
                    omega
              refine ⟨S', hv', H', nx', st + 1, addAll met ids, HSS'.out, HPM'.out, HWK.out.1.only HO2.out fun k hk h => ?_, HS3.out, hfr7, HB7.out.trans (HO2.out.below HB7.out.size fun k hk h => by omega), by omega, by omega, by omega, ?_⟩
              · have := hfr7 k hk; omega
              · rw [← HSR.out, HSRCH.out f met (by omega)]
          | succ k1 =>
            obtain ⟨i, hi⟩ : ∃ i, m - (k1 + 1) = i := ⟨_, rfl⟩
            have hi2 : m - k1 = i + 1 := by omega
            have HI2 := Lib.hid hi2
            have hjl : i < ids.length := by have := HM.out; omega
            have hlt : (i : Int) < (m : Int) := by omega
            rw [hi] at HS2 ⊢
            obtain ⟨x, hx⟩ : ∃ x, ids[i] = x := ⟨_, rfl⟩
            have hgd : ids.getD i 0 = x := by rw [← hx]; simp [List.getD, hjl]
            have hx0 : 0 ≤ x ∧ x < (n : Int) := by
              obtain ⟨t, ht, hi⟩ := HME.out x (by rw [← hx]; exact List.getElem_mem _)
              have := HIDS.out t ht x hi
              rw [HN.out] at this
              exact this
            have HTK := Lib.hid (show addAll met (ids.take (i + 1)) = addAll (addAll met (ids.take i)) [x] from by
              rw [← addAll_append, List.take_add_one, ← hx]; simp [hjl])
            have HBN := Lib.hid (HB7.out.trans (HO2.out.below HB7.out.size fun k hk h => by omega))
            obtain ⟨ad, rfl, hca⟩ := (HR.out.below HBN.out).2 i hjl
            rw [hgd] at hca
            have HAD := Lib.hid (MAdd_calls bs gs n (addAll met (ids.take i)) x wr HS2.out (by omega))
            have HX0 := Lib.hid hx0
            have hwj : IntKind.i64.wrap ((i : Int) + 1) = ((i + 1 : Nat) : Int) := by rw [i64_w]; exact wrap64_id _ (by have := HR.out.1; omega)
            clear hx hgd hi hi2 hx0
            go_wp2_with fail
            refine HAD.out.mono ?_
            rintro e w8 ⟨hpo, ho8⟩
            obtain ⟨b0, he, hs8⟩ : ∃ b0, e = .returned (.bool b0) ∧ SetM w8 bs gs n (addAll (addAll met (ids.take i)) [x]) := by
              by_cases hin : x ∈ addAll met (ids.take i)
              · obtain ⟨he, hs⟩ := hpo.1 (.inr (.inr hin))
                exact ⟨_, he, by rw [addAll_one, if_pos hin]; exact hs⟩
              · obtain ⟨he, hs⟩ := hpo.2 HX0.out.1 HX0.out.2 hin
                exact ⟨_, he, by rw [addAll_one, if_neg hin]; exact hs⟩
            subst he
            have HS8 := Lib.hid hs8
            have HO8 := Lib.hid (HO2.out.trans ho8)
            clear hpo hs8 ho8
            go_wp2_with fail
            go_roundg k1
            case measure => omega
            case rel => exact ⟨by omega, by rw [HI2.out]; rfl, by rw [HI2.out, HTK.out]; exact HS8.out, HO8.out⟩
end Go.Proofs.YticdmglondpgaaaGreat

/-! ## Collect: Package slices: Collect, over the ids of a set. -/
namespace Go.Proofs.YticdmglondpgaaaGreat
open Go.RowKit
set_option linter.unusedVariables false
set_option maxRecDepth 100000
set_option linter.unusedSimpArgs false

attribute [local go_sem] Oper.semAt_some

theorem infoC : (Tryz.prog.info? 3).map (fun i => (i.zero, i.size, i.bytes)) = some (some (.int .i64 0), 1, 8) := by kernel_rfl
theorem only_put (W : World) (k : Nat) (o' : Obj) : Only (· = k) W (W.putObj k o') :=
  ⟨rfl, rfl, rfl, by simp, fun j _ hj => World.putObj_heap_other fun e => hj (by omega)⟩
/-- What AppendSeq keeps between two rounds: its variable, its row. -/
def ColI (w : World) (bx b g q n : Nat) (L : List Int) (k : Nat) (W : World) : Prop :=
  ∃ v, W.heap[bx]? = some (.cells #[v] 64 (0, 0)) ∧ Own W (bx + 1) 3 .i64 v ((inS n L).take k) ∧ Below w.heap.size w W ∧ (∀ j, v.ownBlock = some j → bx + 3 ≤ j)
set_option maxHeartbeats 3200000 in
theorem AppendSeq_calls (b g q n : Nat) (L : List Int) (w : World) (hS : SetM w b g n L) (hq : w.heap[q]? = some (.cells #[.pointer (some ⟨b, 0, none⟩)] 131 (0, 0))) :
    Calls Tryz.prog 116 #[.slice none 0 0, .func (.func 117) #[] #[.pointer (some ⟨q, 0, none⟩)]] w fun e w' => ∃ v, e = .returned v ∧ Own w' w.heap.size 3 .i64 v (inS n L) ∧ Below w.heap.size w w' := by
  have hn64 := hS.2.1
  have hbl := hS.lt
  have hql := obj_lt hq
  have HS := Lib.hid hS
  have HQ := Lib.hid hq
  clear hS hq
  refine (callsIn_wide (n := 5)).1 ?_
  refine callsIn_of_wp_marks Tryz.func116 rfl trivial ?_ rfl
  refine wpIn_wide.2 ?_
  simp only [Tryz.ntmps116, List.size_toArray, List.length_cons, List.length_nil, Nat.reduceAdd, Nat.reduceSub, Array.replicate_succ, Array.replicate_zero, List.push_toArray, List.append_toArray, List.nil_append, List.cons_append]
  go_wp2_with fail
  obtain ⟨w1, aW⟩ : ∃ W, w.alloc (.cells #[.slice none 0 0] 64) = W := ⟨_, rfl⟩
  have ab : Below w.heap.size w w1 := by rw [← aW]; exact below_alloc1 (Below.refl _ _) _
  have ax : w1.heap[w.heap.size]? = some (.cells #[.slice none 0 0] 64 (0, 0)) := by rw [← aW]; exact heap_alloc_new _ _
  have hs2 : w1.heap.size = w.heap.size + 1 := by rw [← aW]; simp
  rw [aW]
  clear aW
  have HI0 := Lib.hid (show ColI w w.heap.size b g q n L 0 w1 ∧ SetM w1 b g n L from ⟨⟨_, ax, World.ownsRow_nil _ _ _ _, ab, fun j hj => by simp [Value.ownBlock] at hj⟩, HS.out.keep ab⟩)
  have hq1 := obj_below ab HQ.out hql
  have hset1 := HS.out.keep ab
  clear ab ax
  refine (wpIn_wide (n := 5)).1 ?_
  refine wpIn_rangeD rfl (by omega) (gf := 117) (lb := #[.pointer (some ⟨q, 0, none⟩)]) rfl trivial (enters_of Tryz.func117 (by kernel_rfl) rfl)
    (marks_iter _ b g q n L w1 hset1 hq1)
    (fun k h => h.elim) (fun h k => Only.trans h k) (fun W l o o' hl _ _ => KpM.putObj (by omega)) (fun pre x A0 W o' _ h => h)
    (fun xs A B h _ => h) (fun xs A B h _ => h) (fun _ => rfl)
    (fun pre W => ColI w w.heap.size b g q n L pre.length W ∧ SetM W b g n L)
    (fun c pre W => False) ?hI (fun c pre A B h hs => h) ?h0 ?a1 ?assign ?body ?done ?stop
  case hI =>
    rintro pre A B ⟨⟨v, i1, i2, i3, i4⟩, i5⟩ hs
    have hs' : Only (fun k => k = w1.heap.size + 1) A B := Only.mono hs fun k _ h => h.elim (fun h => h.elim) fun h => h
    exact ⟨⟨v, hs'.obj i1 (by omega), i2.only hs' fun k hk h => by have := i4 k hk; omega, i3.trans (hs'.below i3.size fun k hk h => by omega), i4⟩, i5.only hs' (by omega) (by omega)⟩
  case h0 => exact HI0.out
  case assign =>
    intro l x W K hK
    gi_wp2
    exact hK
  case body =>
    intro l2 pre x A0 W hIW hlen hsz hIA hst hx
    obtain ⟨⟨v, i1, i2, i3, i4⟩, i5⟩ := hIW
    have hxx : (inS n L).take (pre.length + 1) = (inS n L).take pre.length ++ [x] := by
      rw [List.take_add_one, hx]
      simp [List.getD, hlen]
    have hll : (inS n L).length ≤ 64 := by
      have h := List.length_filter_le (fun x => decide (x ∈ L)) (upTo n)
      rw [upTo_length] at h
      unfold inS
      omega
    have htl : ((inS n L).take pre.length).length = pre.length := by rw [List.length_take]; omega
    have hc2 : W.cell? ⟨w.heap.size, 0, none⟩ = some v := by simp [World.cell?, i1]
    have hcell : ∀ j o, v.ownBlock = some j → W.heap[j]? = some o → o.isCells = true := fun j o hj ho => by
      rcases i2.2 with ⟨rfl, _⟩ | ⟨g0, cap, cur, rfl, _, hb, _⟩
      · simp [Value.ownBlock] at hj
      · simp [Value.ownBlock] at hj
        subst hj
        rw [hb] at ho
        injection ho with ho
        subst ho
        rfl
    obtain ⟨T, hT⟩ : ∃ T, (inS n L).take pre.length = T := ⟨_, rfl⟩
    rw [hT] at i2 htl hxx
    obtain ⟨A1, c1, rfl, hlc, hrd⟩ := i2.shape
    have I1 := Lib.hid i1
    have I2 := Lib.hid i2
    have I3 := Lib.hid i3
    have I4 := Lib.hid i4
    have I5 := Lib.hid i5
    have HXX := Lib.hid hxx
    have HCE := Lib.hid hcell
    have hbxl := obj_lt i1; have hfz0 : W.frozen? ⟨w.heap.size, 0, none⟩ = false := by simp [World.frozen?, i1]
    have HTL := Lib.hid htl
    have hT64 : T.length ≤ 64 := by omega
    clear i1 i2 i3 i4 i5 hxx hcell hT hx hst hIA hrd htl
    gi_wp2_with (gi_at_builtin; refine wpListIn_appI _ rfl (.tmp 8) (.tmp 10) 64 3 rfl .i64 8 Tryz.underlying64 infoC (by omega) (w.heap.size + 1) (.slice A1 T.length c1) T rfl (some ⟨W.heap.size, 0, none⟩) 1 [x] rfl (I2.out.alloc1 _) (W.alloc (.cells #[.int .i64 x] 3)) (Below.refl _ _) (by simp; omega) (Rd.new W .i64 [x] 3 (by simp)) (by simp; omega) ?_; intro v1 w2 ho hgrow hbel hat hnil; obtain ⟨A2, c2, hv1, hlc1, _⟩ := ho.shape; rw [show (T ++ [x]).length = T.length + 1 by simp] at hv1 hlc1; subst hv1; have HO := Lib.hid ho; have HG := Lib.hid hgrow; have HAT := Lib.hid hat; have hbx2 : w2.heap[w.heap.size]? = some (.cells #[.slice A1 T.length c1] 64 (0, 0)) := hgrow.obj (obj_below ((Below.refl _ _).alloc (Nat.le_refl _) _) I1.out hbxl) (fun h => by have := I4.out _ h; omega); have HBX2 := Lib.hid hbx2; have hfz : w2.frozen? ⟨w.heap.size, 0, none⟩ = false := (by simp [World.frozen?, hbx2]); have hcs : w2.cell? ⟨w.heap.size, 0, none⟩ = some (.slice A1 T.length c1) := (by simp [World.cell?, hbx2]); clear ho hgrow hbel hat hnil hbx2)
    have hoB : Only (fun k => k = w.heap.size ∨ OwnB (.slice A1 T.length c1) k) W (w2.setCell ⟨w.heap.size, 0, none⟩ (.slice A2 (T.length + 1) c2)) :=
      ((Only.of_below (below_alloc1 (Below.refl _ _) _)).trans (HG.out.mono fun k _ h => .inr h)).trans ((only_set w2 w.heap.size 0 _).mono fun k _ h => .inl h)
    have hown : ∀ k, OwnB (.slice A1 T.length c1) k → w.heap.size + 3 ≤ k := fun k hk => I4.out k hk
    have hnw : ∀ k, (Value.slice A2 (T.length + 1) c2).ownBlock = some k → w.heap.size + 3 ≤ k := fun k hk => by
      rcases HAT.out with h | h
      · exact I4.out k (h ▸ hk)
      · rw [hk] at h
        injection h with h
        simp at h
        omega
    refine ⟨⟨hoB.size, fun k o hk hh hc => hoB.obj hh fun h => ?_⟩, hoB.mono fun k _ h he => ?_, ⟨_, set_blk (cs := [_]) HBX2.out 0 _, ?_, I3.out.trans (hoB.below I3.out.size fun k hk h => ?_), hnw⟩, I5.out.only hoB (fun h => ?_) fun h => ?_⟩
    · rcases h with h | h
      · omega
      · have := HCE.out k o h hh
        rw [this] at hc
        cases hc
    · rcases h with h | h
      · omega
      · have := hown k h; omega
    · rw [show (pre ++ [x]).length = pre.length + 1 by simp, HXX.out]
      exact HO.out.only (only_set _ _ _ _) fun k hk h => by have := hnw k hk; omega
    · rcases h with h | h
      · omega
      · have := hown k h; omega
    · rcases h with h | h
      · omega
      · have := hown _ h; omega
    · rcases h with h | h
      · omega
      · have := hown _ h; omega
  case done =>
    rintro _ ps W rfl hps ⟨⟨v, i1, i2, i3, i4⟩, i5⟩ hK
    rw [hps, List.take_length] at i2
    have hc2 : W.cell? ⟨w.heap.size, 0, none⟩ = some v := by simp [World.cell?, i1]
    obtain ⟨A1, c1, rfl, hlc, hrd⟩ := i2.shape
    have I2 := Lib.hid i2
    have I3 := Lib.hid i3
    have I4 := Lib.hid i4
    have HK := Lib.hid hK
    clear i1 i2 i3 i4 i5 hps hrd hK HI0
    go_wp2_with fail
    exact ⟨by simp, .inl ⟨_, _, rfl, run_takeDeferred HK.out, _, results_tmp rfl _ _ _, _, rfl, (I2.out.low (by omega)).only (only_put W w1.heap.size _) fun k hk h => by have := I4.out k hk; omega, below_putObjW I3.out (by omega) _⟩⟩
  case stop =>
    rintro b cc pre W _ _ h
    exact h.elim
theorem colH : ColH := by
  intro b g n L w hS
  refine (MAll_calls b w).mono ?_
  rintro e w1 ⟨rfl, rfl⟩
  have hb : Below w.heap.size w (w.alloc (.cells #[.pointer (some ⟨b, 0, none⟩)] 131)) := below_alloc1 (Below.refl _ _) _
  refine ⟨w.heap.size, rfl, hb, fun W hW => ?_⟩
  have hS2 : SetM W b g n L := (hS.keep hb).keep hW
  have hq := obj_below hW (heap_alloc_new w _) (obj_lt (heap_alloc_new w _))
  have HA := Lib.hid (AppendSeq_calls b g w.heap.size n L W hS2 hq)
  clear hS2 hq hW hb hS
  go_enter Tryz.func69, Tryz.ntmps69
  go_wp2_with fail
  refine HA.out.mono ?_
  rintro e w2 ⟨v, he, hown, hbb⟩
  subst he
  obtain ⟨A1, c1, rfl, hlc, hrd⟩ := hown.shape
  have HR := Lib.hid hrd
  have HO := Lib.hid hown
  have HB := Lib.hid hbb
  clear hrd hown hbb
  go_wp2_with fail
  go_ret
  exact ⟨A1, c1, rfl, HR.out, hlc, fun ad e hl => by subst e; exact HO.out.lt ad.block (by simp [Value.ownBlock]) |>.1, HB.out⟩
end Go.Proofs.YticdmglondpgaaaGreat

/-! ## SrchL: What a search meets, plain: all ids, or as many as were asked for. No program in sight. -/
namespace Go.Proofs.YticdmglondpgaaaGreat
open Go.RowKit
set_option linter.unusedVariables false
set_option maxRecDepth 100000
set_option linter.unusedSimpArgs false

theorem ids_split (ns : List Int) (off : Int) (a b : Tr) (x : Int) : x ∈ (Tr.split ns off a b).ids ↔ x ∈ a.ids ∨ x ∈ b.ids := by
  simp only [Tr.ids, Tr.leaves, List.flatten_append, List.mem_append]
theorem ids_leaf (ids : List Int) : (Tr.leaf ids).ids = ids := by simp [Tr.ids, Tr.leaves]
def inS' (S : List PT) (x : Int) : Prop := ∃ p ∈ S, x ∈ p.t.ids
theorem inS'_cons (p : PT) (S : List PT) (x : Int) : inS' (p :: S) x ↔ x ∈ p.t.ids ∨ inS' S x := by
  unfold inS'
  constructor
  · rintro ⟨q, hq, hx⟩
    rcases List.mem_cons.1 hq with rfl | hq
    · exact .inl hx
    · exact .inr ⟨q, hq, hx⟩
  · rintro (hx | ⟨q, hq, hx⟩)
    · exact ⟨p, List.mem_cons_self, hx⟩
    · exact ⟨q, List.mem_cons_of_mem _ hq, hx⟩
theorem inS'_ins (p : PT) (S : List PT) (x : Int) : inS' (insP p S) x ↔ x ∈ p.t.ids ∨ inS' S x := by
  rw [← inS'_cons]
  unfold inS'
  constructor
  · rintro ⟨q, hq, hx⟩; exact ⟨q, (insP_perm p S).mem_iff.1 hq, hx⟩
  · rintro ⟨q, hq, hx⟩; exact ⟨q, (insP_perm p S).mem_iff.2 hq, hx⟩
theorem left_cons (p : PT) (S : List PT) : left (p :: S) = p.t.size + left S := by simp [left]
theorem srch_all (ys : List Int) (limit : Nat) : ∀ (f : Nat) (S : List PT) (nx st : Nat) (met : List Int), left S ≤ f →
    limit ≤ (srch ys limit f S nx st met).1.length ∨ ∀ x, (x ∈ met ∨ inS' S x) → x ∈ (srch ys limit f S nx st met).1
  | 0, S, nx, st, met, h => by
    have h1 := left_length S
    obtain rfl : S = [] := List.eq_nil_of_length_eq_zero (by omega)
    right
    rintro x (hx | ⟨p, hp, _⟩)
    · simpa [srch] using hx
    · simp at hp
  | f + 1, [], nx, st, met, h => by
    simp only [srch]
    split
    · left; assumption
    · right
      rintro x (hx | ⟨p, hp, _⟩)
      · exact hx
      · simp at hp
  | f + 1, ⟨mg, sq, j, k, .leaf ids⟩ :: l, nx, st, met, h => by
    rw [left_cons] at h
    simp only [srch]
    split
    · left; assumption
    · rcases srch_all ys limit f l nx (st + 1) (addAll met ids) (by simp [Tr.size] at h; omega) with h1 | h1
      · exact .inl h1
      · right
        intro x hx
        apply h1
        rw [inS'_cons, ids_leaf] at hx
        rw [addAll_mem]
        rcases hx with hx | hx | hx
        · exact .inl (.inl hx)
        · exact .inl (.inr hx)
        · exact .inr hx
  | f + 1, ⟨mg, sq, j, k, .split ns off a b⟩ :: l, nx, st, met, h => by
    rw [left_cons] at h
    simp only [srch]
    split
    · left; assumption
    · have hle : left (insP ⟨minB mg (margin ns off ys), nx + 1, j, k + 1 + a.size, b⟩ (insP ⟨minB mg (wrap64 (-(margin ns off ys))), nx, j, k + 1, a⟩ l)) ≤ f := by
        rw [left_ins, left_ins]
        simp only [Tr.size] at h
        show b.size + (a.size + left l) ≤ f
        omega
      rcases srch_all ys limit f _ (nx + 2) (st + 1) met hle with h1 | h1
      · exact .inl h1
      · right
        intro x hx
        apply h1
        rw [inS'_cons, ids_split] at hx
        rw [inS'_ins, inS'_ins]
        rcases hx with hx | (hx | hx) | hx
        · exact .inl hx
        · exact .inr (.inr (.inl hx))
        · exact .inr (.inl hx)
        · exact .inr (.inr (.inr hx))
theorem srch_sub (ys : List Int) (limit : Nat) : ∀ (f : Nat) (S : List PT) (nx st : Nat) (met : List Int) (x : Int), x ∈ (srch ys limit f S nx st met).1 → x ∈ met ∨ inS' S x
  | 0, S, nx, st, met, x, h => .inl (by simpa [srch] using h)
  | f + 1, [], nx, st, met, x, h => by
    simp only [srch] at h
    split at h <;> exact .inl h
  | f + 1, ⟨mg, sq, j, k, .leaf ids⟩ :: l, nx, st, met, x, h => by
    simp only [srch] at h
    split at h
    · exact .inl h
    · rw [inS'_cons, ids_leaf]
      rcases srch_sub ys limit f _ _ _ _ x h with h | h
      · rw [addAll_mem] at h
        rcases h with h | h
        · exact .inl h
        · exact .inr (.inl h)
      · exact .inr (.inr h)
  | f + 1, ⟨mg, sq, j, k, .split ns off a b⟩ :: l, nx, st, met, x, h => by
    simp only [srch] at h
    split at h
    · exact .inl h
    · rw [inS'_cons, ids_split]
      rcases srch_sub ys limit f _ _ _ _ x h with h | h
      · exact .inl h
      · rw [inS'_ins, inS'_ins] at h
        rcases h with h | h | h
        · exact .inr (.inl (.inr h))
        · exact .inr (.inl (.inl h))
        · exact .inr (.inr h)
theorem addAll_nodup : ∀ (ids L : List Int), L.Nodup → (addAll L ids).Nodup
  | [], L, h => h
  | i :: ids, L, h => by
    have e : addAll L (i :: ids) = addAll (if i ∈ L then L else L ++ [i]) ids := rfl
    rw [e]
    apply addAll_nodup
    split
    · exact h
    · rename_i hi
      rw [List.nodup_append]
      exact ⟨h, by simp, fun a ha b hb => by
        rw [List.mem_singleton] at hb; subst hb; intro e; subst e; exact hi ha⟩
theorem srch_nodup (ys : List Int) (limit : Nat) : ∀ (f : Nat) (S : List PT) (nx st : Nat) (met : List Int), met.Nodup → (srch ys limit f S nx st met).1.Nodup
  | 0, S, nx, st, met, h => by simpa [srch] using h
  | f + 1, [], nx, st, met, h => by
    simp only [srch]
    split <;> exact h
  | f + 1, ⟨mg, sq, j, k, .leaf ids⟩ :: l, nx, st, met, h => by
    simp only [srch]
    split
    · exact h
    · exact srch_nodup ys limit f _ _ _ _ (addAll_nodup ids met h)
  | f + 1, ⟨mg, sq, j, k, .split ns off a b⟩ :: l, nx, st, met, h => by
    simp only [srch]
    split
    · exact h
    · exact srch_nodup ys limit f _ _ _ _ h
theorem inS'_start (ts : List Tr) (x : Int) : inS' (startP ts) x ↔ ∃ t ∈ ts, x ∈ t.ids := by
  unfold inS' startP
  constructor
  · rintro ⟨p, hp, hx⟩
    obtain ⟨y, hy, rfl⟩ := List.mem_map.1 hp
    have := List.mem_zipIdx_iff_getElem?.1 hy
    exact ⟨y.1, List.mem_of_getElem? this, hx⟩
  · rintro ⟨t, ht, hx⟩
    obtain ⟨i, hi, rfl⟩ := List.getElem_of_mem ht
    exact ⟨_, List.mem_map.2 ⟨(ts[i], i), List.mem_zipIdx_iff_getElem?.2 (by simp [hi]), rfl⟩, hx⟩
theorem gath_in {ts : List Tr} {n dim lf dp : Nat} (hg : ForestG ts n dim lf dp) (ys : List Int) (L : Nat) (x : Int) (h : x ∈ (gath ts ys L).1) : x ∈ upTo n := by
  rcases srch_sub ys L _ _ _ _ _ x h with h | h
  · simp at h
  · obtain ⟨t, ht, hx⟩ := (inS'_start ts x).1 h
    exact (hg.g t ht).1.perm.mem_iff.1 hx
theorem gath_all {ts : List Tr} {n dim lf dp : Nat} (hg : ForestG ts n dim lf dp) (ys : List Int) (L : Nat) : L ≤ (gath ts ys L).1.length ∨ ∀ x ∈ upTo n, x ∈ (gath ts ys L).1 := by
  rcases srch_all ys L _ (startP ts) ts.length 0 [] (Nat.le_refl _) with h | h
  · exact .inl h
  · right
    intro x hx
    apply h
    right
    rw [inS'_start]
    have h1 := hg.t1
    obtain ⟨t, l, rfl⟩ : ∃ t l, ts = t :: l := by cases ts with
      | nil => simp at h1
      | cons t l => exact ⟨t, l, rfl⟩
    exact ⟨t, List.mem_cons_self, (hg.g t List.mem_cons_self).1.perm.mem_iff.2 hx⟩
theorem gath_nodup (ts : List Tr) (ys : List Int) (L : Nat) : (gath ts ys L).1.Nodup := srch_nodup ys L _ _ _ _ _ List.nodup_nil
theorem nodup_le : ∀ (R U : List Int), R.Nodup → (∀ x ∈ R, x ∈ U) → R.length ≤ U.length
  | [], U, _, _ => Nat.zero_le _
  | a :: R, U, h, hs => by
    obtain ⟨h1, h2⟩ := List.nodup_cons.1 h
    have ha := hs a List.mem_cons_self
    have := nodup_le R (U.erase a) h2 fun x hx => (List.mem_erase_of_ne fun e => h1 (by rw [← e]; exact hx)).2 (hs x (List.mem_cons_of_mem _ hx))
    rw [List.length_erase_of_mem ha] at this
    have := List.length_pos_of_mem ha
    simp only [List.length_cons]
    omega
theorem nodup_all {R U : List Int} (h : R.Nodup) (hs : ∀ x ∈ R, x ∈ U) (hl : U.length ≤ R.length) (x : Int) (hx : x ∈ U) : x ∈ R := by
  apply Classical.byContradiction
  intro hn
  have h1 := nodup_le (x :: R) U (List.nodup_cons.2 ⟨hn, h⟩) fun y hy => by
    rcases List.mem_cons.1 hy with rfl | hy
    · exact hx
    · exact hs y hy
  simp at h1
  omega
/-- By a limit of as many as there are, all are met. -/
theorem gath_whole {ts : List Tr} {n dim lf dp : Nat} (hg : ForestG ts n dim lf dp) (ys : List Int) (L : Nat) (hL : n ≤ L) (x : Int) (hx : x ∈ upTo n) : x ∈ (gath ts ys L).1 := by
  rcases gath_all hg ys L with h | h
  · exact nodup_all (gath_nodup ts ys L) (fun y hy => gath_in hg ys L y hy) (by rw [upTo_length]; omega) x hx
  · exact h x hx
theorem upTo_pw (n : Nat) : (upTo n).Pairwise (· < ·) := by
  unfold upTo
  rw [List.pairwise_map]
  exact List.pairwise_lt_range.imp fun h => by omega
theorem queryM_ok {ts : List Tr} {n dim lf dp : Nat} (hg : ForestG ts n dim lf dp) (ys : List Int) (L : Nat) (hL : 1 ≤ L) :
    (∀ x ∈ (upTo n).filter (· ∈ (gath ts ys L).1), 0 ≤ x ∧ x < (n : Int)) ∧ ((upTo n).filter (· ∈ (gath ts ys L).1)).Pairwise (· < ·) ∧ 1 ≤ ((upTo n).filter (· ∈ (gath ts ys L).1)).length ∧ ((upTo n).filter (· ∈ (gath ts ys L).1)).length ≤ n := by
  refine ⟨fun x hx => ?_, (upTo_pw n).filter _, ?_, ?_⟩
  · have := (List.mem_filter.1 hx).1
    simp only [upTo, List.mem_map, List.mem_range] at this
    obtain ⟨i, hi, rfl⟩ := this
    omega
  · obtain ⟨x, hx⟩ : ∃ x, x ∈ (gath ts ys L).1 := by
      rcases gath_all hg ys L with h | h
      · cases hG : (gath ts ys L).1 with
        | nil => rw [hG] at h; simp at h; omega
        | cons a l => exact ⟨a, List.mem_cons_self⟩
      · have h1 := hg.n1
        exact ⟨0, h 0 (by simp only [upTo, List.mem_map, List.mem_range]; exact ⟨0, by omega, rfl⟩)⟩
    have hm : x ∈ (upTo n).filter (· ∈ (gath ts ys L).1) := List.mem_filter.2 ⟨gath_in hg ys L x hx, by simpa using hx⟩
    exact List.length_pos_of_mem hm
  · have := List.length_filter_le (· ∈ (gath ts ys L).1) (upTo n)
    rwa [upTo_length] at this
end Go.Proofs.YticdmglondpgaaaGreat
