/-
  All trees' streams (stream.All): the iterator, and the row of sources that a caller keeps of it. Condition: the list reads as numbers of 64 bits.
-/
import Derived.Test.YtmcbgogeemnjnaaStrm2
import Derived.Test.YtmcbgogeemnjnaaRange
namespace Go.Proofs.Ytmcbgogeemnjnaa
open Go.RowKit
set_option linter.unusedVariables false
set_option linter.unusedSimpArgs false
attribute [local go_sem] Oper.semAt_some

theorem All_calls (scr : Bool) (seed : Int) (A : Option Addr) (n c : Nat) (trees : Int) (w : World) :
    Calls Try.prog 29 #[.agg #[.bool scr, .int .u64 seed, .slice A n c], .int .i64 trees] w fun e w' => e = .returned (.func (.func 32) #[] #[.pointer (some ⟨w.heap.size + 1, 0, none⟩), .pointer (some ⟨w.heap.size, 0, none⟩)]) ∧ w' = (w.alloc (.cells #[.bool scr, .int .u64 seed, .slice A n c] 51)).alloc (.cells #[.int .i64 trees] 3) := by
  go_enter Try.func29, Try.ntmps29
  go_wp2_with fail
  go_ret
  exact ⟨rfl, rfl⟩
/-- The caller keeps what was before it, and both boxes. -/
def KpB (w0 : World) (bD bT : Nat) (A B : World) : Prop := Only (fun k => ¬ (k < w0.heap.size ∨ k = bD ∨ k = bT)) A B
/-- What is yielded: the next number, and a source that lies in new memory. -/
def XS (scr : Bool) (seed : Int) (l : List Int) (trees : Int) (pre : List (Int × TypeId × Addr)) (x : Int × TypeId × Addr) (A0 W : World) : Prop :=
  x.1 = pre.length ∧ ∃ lo hi, A0.heap.size ≤ lo ∧ hi ≤ W.heap.size ∧ At W lo hi (.iface x.2.1 (.pointer (some x.2.2))) (offT scr seed l pre.length trees) 0
theorem KpB.putObj {w0 W : World} {bD bT k : Nat} {o' : Obj} (h0 : w0.heap.size ≤ k) (h1 : k ≠ bD) (h2 : k ≠ bT) : KpB w0 bD bT W (W.putObj k o') :=
  ⟨rfl, rfl, rfl, by simp, fun j _ hk => World.putObj_heap_other fun e => hk fun h => by omega⟩
theorem XS.putObj {scr : Bool} {seed : Int} {l : List Int} {trees : Int} {n : Nat} (pre : List (Int × TypeId × Addr)) (x : Int × TypeId × Addr) (A0 W : World) (o' : Obj) (hz : n + 2 ≤ A0.heap.size) (h : XS scr seed l trees pre x A0 W) : XS scr seed l trees pre x A0 (W.putObj (n + 1) o') := by
  obtain ⟨h1, lo, hi, h2, h3, h4⟩ := h
  have ho : Only (fun k => k = n + 1) W (W.putObj (n + 1) o') := ⟨rfl, rfl, rfl, by simp, fun j _ hk => World.putObj_heap_other hk⟩
  exact ⟨h1, lo, hi, h2, by simpa using h3, h4.only ho fun b hb1 hb2 h => by omega⟩
set_option maxHeartbeats 1600000 in
theorem all_iter (m bD bT : Nat) (scr : Bool) (seed : Int) (A : Option Addr) (c : Nat) (l : List Int) (trees : Int) (n : Nat) (w0 w : World) (hnn : trees.toNat = n) (hn : n ≤ 1000) (hw : Below w0.heap.size w0 w) (ha : Rd w0 .u64 A l) (hu : U64 l) (hl : l.length ≤ 1000000)
    (hbD : w.heap[bD]? = some (.cells #[.bool scr, .int .u64 seed, .slice A l.length c] 51 (0, 0))) (hbT : w.heap[bT]? = some (.cells #[.int .i64 trees] 3 (0, 0))) :
    IterD Fence.wide m Try.prog 32 #[.pointer (some ⟨bT, 0, none⟩), .pointer (some ⟨bD, 0, none⟩)] (fun x : Int × TypeId × Addr => #[.int .i64 x.1, .iface x.2.1 (.pointer (some x.2.2))]) (fun _ => False) (KpB w0 bD bT) (XS scr seed l trees)
      (fun xs W => xs.length = n) (fun xs W => True) n w := by
  intro lp J Jx W hW hJ hJx hY h0
  have HNN := Lib.hid hnn
  clear hnn
  refine callsIn_of_wp Try.func32 rfl trivial ?_ rfl
  simp only [Try.ntmps32, List.size_toArray, List.length_cons, List.length_nil, Nat.reduceAdd, Nat.reduceSub, Array.replicate_succ, Array.replicate_zero, List.push_toArray, List.append_toArray, List.nil_append, List.cons_append]
  have hD0 := obj_below hW hbD (obj_lt hbD)
  have hT0 := obj_below hW hbT (obj_lt hbT)
  have hcT0 : W.cell? ⟨bT, 0, none⟩ = some (.int .i64 trees) := by simp [World.cell?, hT0]
  have hB0 : Below w0.heap.size w0 W := hw.trans (hW.mono hw.size)
  have HJ := Lib.hid hJ
  have HJX := Lib.hid hJx
  have HY := Lib.hid hY
  have H0 := Lib.hid h0
  have KA := Lib.hid ha
  have HU := Lib.hid hu
  have HD0 := Lib.hid hD0
  have HT0 := Lib.hid hT0
  clear hJ hJx hY h0 ha hu hD0 hT0 hbD hbT
  gi_wp2
  gi_loopw [6] (fun v6 wr => ∃ k : Nat, k ≤ n ∧ v6 = .int .i64 k ∧ ∃ pre : List (Int × TypeId × Addr), pre.length = k ∧ J pre wr ∧ Below w0.heap.size w0 wr ∧ wr.heap[bD]? = some (.cells #[.bool scr, .int .u64 seed, .slice A l.length c] 51 (0, 0)) ∧ wr.heap[bT]? = some (.cells #[.int .i64 trees] 3 (0, 0))) (fun v6 _ => n - (intOf v6).toNat)
  case atStart => exact ⟨0, Nat.zero_le _, rfl, [], rfl, H0.out, hB0, HD0.out, HT0.out⟩
  case round =>
    clear HD0 HT0 H0 hcT0 hB0
    obtain ⟨k, hk, rfl, pre, hpl, hJs, hB, hD, hT⟩ := hrel
    have HPL := Lib.hid hpl
    have HJS := Lib.hid hJs
    have hd0 : wr.cell? ⟨bD, 0, none⟩ = some (.bool scr) := by simp [World.cell?, hD]
    have hd1 : wr.cell? ⟨bD, 1, none⟩ = some (.int .u64 seed) := by simp [World.cell?, hD]
    have hd2 : wr.cell? ⟨bD, 2, none⟩ = some (.slice A l.length c) := by simp [World.cell?, hD]
    have ht0 : wr.cell? ⟨bT, 0, none⟩ = some (.int .i64 trees) := by simp [World.cell?, hT]
    have HD := Lib.hid hD
    have HT := Lib.hid hT
    clear hpl hJs hD hT
    by_cases hlt0 : (k : Int) < trees
    · have hlt : k < n := by have := HNN.out; omega
      have htr : trees ≤ 1000 := by have := HNN.out; omega
      have hlt0' : decide ((k : Int) < trees) = true := decide_eq_true hlt0
      gi_wp2
      refine ⟨trivial, (fun h => by cases h), (callsIn_wide.2 (sOf_calls scr seed A c l k trees _ (KA.out.below hB) HU.out hl (by omega))).mono ?_⟩
      rintro e w2 ⟨v, he, hs, hbn, T, p, rfl⟩
      subst he
      obtain ⟨T, a, e1, hT'⟩ := hs.shape
      injection e1 with e1 e2
      subst e1 e2
      have hat := At.of_src hs
      have hoA : Only (fun _ => False) wr w2 := Only.of_below hbn
      obtain ⟨fn, tmps, assign, body, hy, hR⟩ := HY.out pre (((k : Nat) : Int), T, a) wr w2 HJS.out hoA (by rw [HPL.out]; exact hlt) ⟨by rw [HPL.out], wr.heap.size, w2.heap.size, Nat.le_refl _, Nat.le_refl _, by rw [HPL.out]; exact hat⟩
      have HRD := Lib.hid hR
      have HD2 := Lib.hid (obj_below hbn HD.out (obj_lt HD.out))
      have HT2 := Lib.hid (obj_below hbn HT.out (obj_lt HT.out))
      have hB2 : Below w0.heap.size w0 w2 := hB.trans (hbn.mono hB.size)
      clear hs hat hoA hbn hR HD HT
      gi_wp2
      refine ⟨(fun h => by cases h), HRD.out.mono ?_⟩
      rintro e W3 (⟨rfl, hJ3, hk3⟩ | ⟨rfl, hJx3, hk3⟩)
      · have HJ3 := Lib.hid hJ3
        have hB3 : Below w0.heap.size w0 W3 := hB2.trans (Only.below hk3 hB2.size fun k hk h => h (.inl hk))
        have HD3 := Lib.hid (Only.obj hk3 HD2.out fun h => h (.inr (.inl rfl)))
        have HT3 := Lib.hid (Only.obj hk3 HT2.out fun h => h (.inr (.inr rfl)))
        clear hJ3 hk3
        gi_wp2
        go_roundw
        case rel => exact ⟨k + 1, by omega, by simp, _, by simp [HPL.out], HJ3.out, hB3, HD3.out, HT3.out⟩
        case measure => simp [intOf]; omega
      · have HJ3 := Lib.hid hJx3
        clear hJx3 hk3
        gi_wp2
        refine bodyPost_ret (results_none rfl _ _ _) rfl ?_
        exact ⟨⟨_, rfl⟩, .inr ⟨_, trivial, HJ3.out⟩⟩
    · obtain rfl : k = n := by have := HNN.out; omega
      have hlt0' : decide ((k : Int) < trees) = false := decide_eq_false hlt0
      gi_wp2
      go_end0
      exact ⟨⟨_, rfl⟩, .inl ⟨_, HPL.out, HJS.out⟩⟩

/-! ### a row of sources that is the call's own -/
/-- The row v of sources xs: the j-th lies between lo j and hi j, tells s j, from the k j-th number on. -/
structure SR (W : World) (b0 : Nat) (s : Nat → Nat → Int) (kk : Nat → Nat) (n : Nat) (v : Value) (xs : List Value) (lo hi : Nat → Nat) : Prop where
  row : W.ownsRow b0 28 1 v n xs
  len : xs.length = n
  src : ∀ j, j < n → ∃ T a, xs[j]? = some (.iface T (.pointer (some a))) ∧ At W (lo j) (hi j) (.iface T (.pointer (some a))) (s j) (kk j)
  bnd : ∀ j, j < n → b0 ≤ lo j ∧ hi j ≤ W.heap.size
  dis : ∀ i j, i < n → j < n → i ≠ j → hi i ≤ lo j ∨ hi j ≤ lo i
  own : ∀ j b, j < n → v.ownBlock = some b → b < lo j ∨ hi j ≤ b
theorem SR.start (W : World) (b0 : Nat) (s : Nat → Nat → Int) (kk : Nat → Nat) : SR W b0 s kk 0 (.slice none 0 0) [] (fun _ => 0) (fun _ => 0) :=
  ⟨World.ownsRow_nil _ _ _ _, rfl, fun j h => by omega, fun j h => by omega, fun i j h => by omega, fun j b h => by omega⟩
theorem SR.only {W W' : World} {S : Nat → Prop} {b0 : Nat} {s : Nat → Nat → Int} {kk : Nat → Nat} {n : Nat} {v : Value} {xs : List Value} {lo hi : Nat → Nat} (h : SR W b0 s kk n v xs lo hi) (ho : Only S W W') (hs : ∀ b, b0 ≤ b → b < W.heap.size → ¬ S b) : SR W' b0 s kk n v xs lo hi where
  row := row_only h.row ho fun b hb => hs b (own_base h.row b hb) (row_lt h.row b hb)
  len := h.len
  src := fun j hj => by
    obtain ⟨T, a, h1, h2⟩ := h.src j hj
    exact ⟨T, a, h1, h2.only ho fun b hb1 hb2 => hs b (by have := (h.bnd j hj).1; omega) (by have := (h.bnd j hj).2; omega)⟩
  bnd := fun j hj => ⟨(h.bnd j hj).1, Nat.le_trans (h.bnd j hj).2 ho.size⟩
  dis := h.dis
  own := h.own
theorem SR.add {A0 W W1 W2 : World} {b0 lo' hi' : Nat} {s : Nat → Nat → Int} {kk : Nat → Nat} {n : Nat} {v v' : Value} {xs : List Value} {lo hi : Nat → Nat} {T : TypeId} {a : Addr} (h : SR W b0 s kk n v xs lo hi) (h0 : SR A0 b0 s kk n v xs lo hi) (hb : b0 ≤ A0.heap.size)
    (hat : At W lo' hi' (.iface T (.pointer (some a))) (s n) (kk n)) (hlo : A0.heap.size ≤ lo') (hhi : hi' ≤ W.heap.size) (h1 : Only (fun _ => False) W W1) (hrow : W2.ownsRow b0 28 1 v' (n + 1) (xs ++ [.iface T (.pointer (some a))])) (ho : Only (OwnB v) W1 W2)
    (hv : v'.ownBlock = v.ownBlock ∨ v'.ownBlock = some W1.heap.size) : SR W2 b0 s kk (n + 1) v' (xs ++ [.iface T (.pointer (some a))]) (fun j => if j < n then lo j else lo') (fun j => if j < n then hi j else hi') where
  row := hrow
  len := by simp [h.len]
  src := fun j hj => by
    by_cases hj2 : j < n
    · obtain ⟨T', a', e1, e2⟩ := h.src j hj2
      refine ⟨T', a', by rw [List.getElem?_append_left (by rw [h.len]; exact hj2)]; exact e1, ?_⟩
      simp only [if_pos hj2]
      exact (e2.only h1 fun _ _ _ h => h).only ho fun b hb1 hb2 hob => by have := h.own j b hj2 hob; omega
    · obtain rfl : j = n := by omega
      refine ⟨T, a, by rw [List.getElem?_append_right (by rw [h.len]; exact Nat.le_refl _), h.len]; simp, ?_⟩
      simp only [if_neg hj2]
      exact (hat.only h1 fun _ _ _ h => h).only ho fun b hb1 hb2 hob => by have := row_lt h0.row b hob; omega
  bnd := fun j hj => by
    have hz1 := h1.size
    have hz2 := ho.size
    by_cases hj2 : j < n
    · simp only [if_pos hj2]
      have := h.bnd j hj2
      omega
    · simp only [if_neg hj2]
      omega
  dis := fun i j hi2 hj2 hij => by
    by_cases hi3 : i < n
    · by_cases hj3 : j < n
      · simp only [if_pos hi3, if_pos hj3]; exact h.dis i j hi3 hj3 hij
      · simp only [if_pos hi3, if_neg hj3]; have := (h0.bnd i hi3).2; omega
    · by_cases hj3 : j < n
      · simp only [if_neg hi3, if_pos hj3]; have := (h0.bnd j hj3).2; omega
      · omega
  own := fun j b hj hob => by
    have hz1 := h1.size
    rcases hv with hv | hv
    · rw [hv] at hob
      by_cases hj2 : j < n
      · simp only [if_pos hj2]; exact h.own j b hj2 hob
      · simp only [if_neg hj2]; have := row_lt h0.row b hob; omega
    · rw [hv] at hob
      injection hob with hob
      by_cases hj2 : j < n
      · simp only [if_pos hj2]; have := (h.bnd j hj2).2; omega
      · simp only [if_neg hj2]; omega
theorem SR.draw {W W' : World} {b0 : Nat} {s : Nat → Nat → Int} {kk : Nat → Nat} {n i : Nat} {v : Value} {xs : List Value} {lo hi : Nat → Nat} {T : TypeId} {a : Addr} (h : SR W b0 s kk n v xs lo hi) (hi2 : i < n) (hx : xs[i]? = some (.iface T (.pointer (some a))))
    (hat : At W' (lo i) (hi i) (.iface T (.pointer (some a))) (s i) (kk i + 1)) (ho : Only (Within (lo i) (hi i)) W W') : SR W' b0 s (fun j => if j = i then kk j + 1 else kk j) n v xs lo hi where
  row := row_only h.row ho fun b hb hw => by have := h.own i b hi2 hb; have h1 := hw.1; have h2 := hw.2; omega
  len := h.len
  src := fun j hj => by
    by_cases hji : j = i
    · subst hji
      exact ⟨T, a, hx, by simp only [if_pos rfl]; exact hat⟩
    · obtain ⟨T', a', e1, e2⟩ := h.src j hj
      refine ⟨T', a', e1, ?_⟩
      simp only [if_neg hji]
      exact e2.only ho fun b hb1 hb2 hw => by have := h.dis i j hi2 hj (by omega); have h1 := hw.1; have h2 := hw.2; omega
  bnd := fun j hj => ⟨(h.bnd j hj).1, Nat.le_trans (h.bnd j hj).2 ho.size⟩
  dis := h.dis
  own := h.own
theorem SR.read {W : World} {b0 : Nat} {s : Nat → Nat → Int} {kk : Nat → Nat} {n : Nat} {v : Value} {xs : List Value} {lo hi : Nat → Nat} (h : SR W b0 s kk n v xs lo hi) (j : Nat) (hj : j < n) :
    ∃ A c T a, v = .slice (some A) n c ∧ W.cell? (A.add j) = some (.iface T (.pointer (some a))) ∧ xs[j]? = some (.iface T (.pointer (some a))) ∧ At W (lo j) (hi j) (.iface T (.pointer (some a))) (s j) (kk j) := by
  obtain ⟨A, c, rfl, _⟩ := own_shape h.row
  obtain ⟨T, a, e1, e2⟩ := h.src j hj
  obtain ⟨g, rfl, _, hc, _⟩ := own_cell h.row j hj
  exact ⟨⟨g, 0, none⟩, c, T, a, rfl, by rw [add_plain, hc]; exact e1, e1, e2⟩
theorem SR.shape {W : World} {b0 : Nat} {s : Nat → Nat → Int} {kk : Nat → Nat} {n : Nat} {v : Value} {xs : List Value} {lo hi : Nat → Nat} (h : SR W b0 s kk n v xs lo hi) : ∃ A c, v = .slice A n c := by
  obtain ⟨A, c, rfl, _⟩ := own_shape h.row
  exact ⟨A, c, rfl⟩
theorem SR.congr {W : World} {b0 : Nat} {s : Nat → Nat → Int} {kk kk' : Nat → Nat} {n : Nat} {v : Value} {xs : List Value} {lo hi : Nat → Nat} (h : SR W b0 s kk n v xs lo hi) (hk : ∀ j, j < n → kk' j = kk j) : SR W b0 s kk' n v xs lo hi where
  row := h.row
  len := h.len
  src := fun j hj => by rw [hk j hj]; exact h.src j hj
  bnd := h.bnd
  dis := h.dis
  own := h.own
end Go.Proofs.Ytmcbgogeemnjnaa
