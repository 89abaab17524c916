/-
  Texts on the program, part 18: Shape7, Shape8, Layout, Forest1, Forest2, Index1, Index2.
-/
import Derived.Sort.QuietIn
import Derived.Deep.RegionHeld3
import Derived.Deep.RegionWith
import Derived.Test.YticdmglondpgaaaGreatQ03
import Derived.Test.YticdmglondpgaaaGreatQ08
import Derived.Test.YticdmglondpgaaaGreatQ12
import Derived.Test.YticdmglondpgaaaGreatQ14
import Derived.Test.YticdmglondpgaaaGreatQ15
import Derived.Test.YticdmglondpgaaaGreatQ17

/-! ## Shape7: Package shape: Walk, as an iterator: each place and its depth. Conditions: the nodes read as a tree laid from place 0, no deeper than 64; the caller changes none of their blocks. -/
namespace Go.Proofs.YticdmglondpgaaaGreat
open Go.RowKit
set_option linter.unusedVariables false
set_option maxRecDepth 100000
set_option linter.unusedSimpArgs false

attribute [local go_sem] Oper.semAt_some

theorem RdN.freshW {w : World} {P : Nat → Prop} {v : Value} {N : List NodeV} (h : RdN w P v N) : RdN w (fun b => P b ∨ w.heap.size ≤ b) v N := by
  obtain ⟨A, c, al, h1, h2, h3, h4, h5, h6⟩ := h
  refine ⟨A, c, al, h1, h2, h3, h4, fun hl => ?_, fun a ha => ?_⟩
  · obtain ⟨g, e, h7, h8⟩ := h5 hl
    exact ⟨g, e, fun h => h.elim h7 fun h => by omega, h8⟩
  · have key : ∀ {k : IntKind} {A : Option Addr} {c : Nat} {xs : List Int}, Lies w 0 k A c xs P → Lies w 0 k A c xs (fun b => P b ∨ w.heap.size ≤ b) := fun h => ⟨h.1, h.2.1, fun ad hl e => ⟨Nat.zero_le _, fun hp => hp.elim (h.2.2 ad hl e).2 fun hp => by have := Rd.blk_lt h.2.1 ad hl e; omega⟩⟩
    exact ⟨key (h6 a ha).1, key (h6 a ha).2⟩
/-- What a caller may change between two rounds: blocks of C, and what is no cells, from block n on. -/
def KpW (C : Nat → Prop) (n : Nat) (A B : World) : Prop := Only (fun k => C k ∨ (n ≤ k ∧ ∃ o, A.heap[k]? = some o ∧ o.isCells = false)) A B
theorem KpW.trans {C : Nat → Prop} {n : Nat} {a b c : World} (h : KpW C n a b) (k : KpW C n b c) : KpW C n a c :=
  ⟨k.os.trans h.os, k.tape.trans h.tape, k.output.trans h.output, Nat.le_trans h.size k.size, fun j hj hs => by
    have h1 := h.block j hj hs
    refine (k.block j (by have := h.size; omega) fun hk => hs ?_).trans h1
    rcases hk with hk | ⟨hk, o, ho, hc⟩
    · exact .inl hk
    · exact .inr ⟨hk, o, by rw [← h1]; exact ho, hc⟩⟩
theorem KpW.putObj {C : Nat → Prop} {n l : Nat} {W : World} {o o' : Obj} (hl : n ≤ l) (ho : W.heap[l]? = some o) (hc : o.isCells = false) : KpW C n W (W.putObj l o') :=
  ⟨rfl, rfl, rfl, by simp, fun j _ hj => World.putObj_heap_other fun e => hj (.inr ⟨by omega, o, by rw [e]; exact ho, hc⟩)⟩
theorem KpW.cells {C : Nat → Prop} {n b : Nat} {A B : World} {cs : Array Value} {t : TypeId} {f : Nat × Nat} (h : KpW C n A B) (hb : A.heap[b]? = some (.cells cs t f)) (hC : ¬ C b) : B.heap[b]? = some (.cells cs t f) :=
  Only.obj h hb fun hs => hs.elim hC fun ⟨_, o, ho, hc⟩ => by rw [hb] at ho; injection ho with ho; subst ho; simp [Obj.isCells] at hc
theorem KpW.own {C : Nat → Prop} {n base : Nat} {A B : World} {α : Type} {f : α → List Value} {q : Nat} {e : TypeId} {v : Value} {xs : List α} (h : KpW C n A B) (ho : OwnF A base e q f v xs) (hC : ∀ k, C k → k < base) : OwnF B base e q f v xs :=
  ho.only h fun b hb hs => hs.elim (fun h => by have := hC _ h; have := (ho.lt b hb).1; omega) fun ⟨_, o, h1, hc⟩ => by
    obtain ⟨cs, t, f, h2⟩ := own_cells ho b hb
    rw [h2] at h1
    injection h1 with h1
    subst h1
    simp [Obj.isCells] at hc
theorem pos_top {R : List (Int × Int)} {j : Nat} {r : List (Tr × Nat)} (h : R.reverse = posS j r) : (R = [] ∧ r = []) ∨ ∃ R' d', R = R' ++ [((j : Int), d')] := by
  cases r with
  | nil => exact .inl ⟨by simpa [posS] using h, rfl⟩
  | cons x r =>
    obtain ⟨t, d⟩ := x
    right
    simp only [posS] at h
    have h2 := congrArg List.reverse h
    rw [List.reverse_reverse, List.reverse_cons] at h2
    exact ⟨_, _, h2⟩
theorem depths_next {ds : List Nat} {i d : Nat} {r : List Nat} (h : ds.drop i = d :: r) : ds.getD i 0 = d ∧ ds.drop (i + 1) = r := by
  have h1 : (ds.drop i)[0]? = some d := by rw [h]; rfl
  rw [List.getElem?_drop] at h1
  refine ⟨by simp [List.getD, show ds[i]? = some d by simpa using h1], ?_⟩
  rw [← List.drop_drop, h]
  rfl
abbrev WX := Int × Int
theorem Walk_calls (A : Option Addr) (n c : Nat) (w : World) :
    Calls Tryz.prog 162 #[.slice A n c] w fun e w' => e = .returned (.func (.func 218) #[] #[.pointer (some ⟨w.heap.size, 0, none⟩)]) ∧ w' = w.alloc (.cells #[.slice A n c] 48) := by
  go_enter Tryz.func162, Tryz.ntmps162
  go_wp2_with fail
  go_ret
  exact ⟨rfl, rfl⟩
set_option maxHeartbeats 6400000 in
set_option maxRecDepth 1000000 in
theorem walk_iter (m bX : Nat) (A : Option Addr) (c : Nat) (t : Tr) (C : Nat → Prop) (w0 w : World) (hw : Below w0.heap.size w0 w) (hN : RdN w0 C (.slice A (t.lay 0).length c) (t.lay 0)) (hl : t.size ≤ 1000000) (hd : t.depth ≤ 64) (hC : ∀ k, C k → k < w.heap.size) (hbX : w.heap[bX]? = some (.cells #[.slice A (t.lay 0).length c] 48 (0, 0))) (hXC : ¬ C bX) :
    IterF Fence.wide m Tryz.prog 218 #[.pointer (some ⟨bX, 0, none⟩)] (fun x : WX => #[.int .i64 x.1, .int .i64 x.2]) (fun _ => False) (KpW C w.heap.size) (fun pre x _ _ => x = ((pre.length : Int), (((t.depths 0).getD pre.length 0 : Nat) : Int)))
      (fun xs W => xs.length = t.size) (fun xs W => True) t.size w := by
  intro lp J Jx W hW hJ hJx hY h0
  refine callsIn_of_wp Tryz.func218 rfl trivial ?_ rfl
  simp only [Tryz.ntmps218, List.size_toArray, List.length_cons, List.length_nil, Nat.reduceAdd, Nat.reduceSub, Array.replicate_succ, Array.replicate_zero, List.push_toArray, List.append_toArray, List.nil_append, List.cons_append]
  obtain ⟨N, hNe⟩ : ∃ N, t.lay 0 = N := ⟨_, rfl⟩
  have hst := WState.start hd
  have hn : N.length = t.size := by rw [← hNe, Tr.lay_length]
  have hp := t.size_pos
  have hdl : (t.depths 0).length = t.size := Tr.depths_length _ _
  have hds : (t.depths 0).drop 0 = depthsS [(t, 0)] := by simp [depthsS]
  obtain ⟨ds, hdse⟩ : ∃ ds, t.depths 0 = ds := ⟨_, rfl⟩
  rw [hNe] at hN hst hbX
  rw [hdse] at hdl hds hY
  rw [hn] at hN hbX
  obtain ⟨n, hns⟩ : ∃ n, t.size = n := ⟨_, rfl⟩
  rw [hns] at hN hl hp hn hdl hbX hY ⊢
  obtain ⟨g, rfl⟩ : ∃ g : Nat, A = some ⟨g, 0, none⟩ := by
    obtain ⟨x, hx⟩ : ∃ x, N[0]? = some x := ⟨N[0]'(by rw [hn]; omega), List.getElem?_eq_getElem _⟩
    rw [← hn] at hN
    obtain ⟨g, _, _, _, _, e, _⟩ := hN.at_ 0 hx
    exact ⟨g, e⟩
  have hX0 := obj_below hW hbX (obj_lt hbX)
  have hcX0 : W.cell? ⟨bX, 0, none⟩ = some (.slice (some ⟨g, 0, none⟩) n c) := by simp [World.cell?, hX0]
  have hO0 : Only (fun k => C k ∨ w0.heap.size ≤ k) w0 W := Only.of_below (hw.trans (hW.mono hw.size))
  have hzW : w.heap.size ≤ W.heap.size := hW.size
  have HJ := Lib.hid hJ
  have HJX := Lib.hid hJx
  have HY := Lib.hid hY
  have H0 := Lib.hid h0
  have HN := Lib.hid hN.freshW
  have EN := Lib.hid hn
  have HX0 := Lib.hid hX0
  have HST := Lib.hid hst
  have HDS := Lib.hid hds
  have HDL := Lib.hid hdl
  have HO0 := Lib.hid hO0
  clear hJ hJx hY h0 hN hn hns hNe hst hdl hds hdse hX0 hbX hO0 hd
  gi_wp2
  gi_loopw [3, 4, 10] (fun v3 v4 v10 wr => ∃ (i : Nat) (st : List (Tr × Nat)) (fl : Bool) (dp : Int) (R : List (Int × Int)) (pre : List WX), i ≤ n ∧ v10 = .int .i64 (i : Int) ∧ v4 = .int .i64 dp ∧ OwnF wr W.heap.size 316 2 twoW v3 R ∧ R.length ≤ i ∧ WState N i st fl dp R ∧ ds.drop i = depthsS st ∧ pre.length = i ∧ J pre wr ∧ Only (fun k => C k ∨ w0.heap.size ≤ k) w0 wr ∧ W.heap.size ≤ wr.heap.size) (fun _ _ v10 _ => n - (intOf v10).toNat)
  case atStart => exact ⟨0, [(t, 0)], false, 0, [], [], Nat.zero_le _, rfl, rfl, OwnF.nil _ _ _, Nat.le_refl _, HST.out, HDS.out, rfl, H0.out, HO0.out, Nat.le_refl _⟩
  case round =>
    clear HST HDS H0 HO0
    obtain ⟨i, st, fl, dp, R, pre, hin, rfl, rfl, hO, hRl, hS, hds, hpl, hJs, ho, hzr⟩ := hrel
    have HO := Lib.hid hO
    have HS := Lib.hid hS
    have HDS := Lib.hid hds
    have HPL := Lib.hid hpl
    have HJS := Lib.hid hJs
    have HON := Lib.hid ho
    clear hO hS hds hpl hJs ho
    by_cases hlt : i < n
    · have hltI : (i : Int) < (n : Int) := by omega
      have hltd : decide ((i : Int) < (n : Int)) = true := decide_eq_true hltI
      obtain ⟨t1, d, r, rfl, hno, hyes⟩ := HS.out.mid (by rw [EN.out]; exact hlt)
      obtain ⟨Ao, co, rfl, hoc⟩ := HO.out.shape
      cases fl with
      | false =>
        obtain ⟨rfl, hM⟩ := hno rfl
        have HM := Lib.hid hM
        have hd64 := hM.depth
        have HO2 := HO
        have hrl0 := Lib.hid hRl
        rcases pos_top hM.right with ⟨hR, hr⟩ | ⟨R', d', hR⟩
        · subst hR
          have hm1 : IntKind.i64.wrap ((0 : Int) - 1) = -1 := by decide
          simp only [List.length_nil] at hoc ⊢
          clear hM hno hyes hRl hr
          cases t1 with
          | leaf ids =>
            obtain ⟨hx, hS2⟩ := HM.out.leaf (d : Int)
            obtain ⟨g', B1, c1, B2, c2, hg', _, q0, q1, q2, q3, q4, q5, _, _⟩ := (HN.out.only HON.out (fun b h => h)).at_ i hx
            injection hg' with hg'
            injection hg' with hg'
            subst hg'
            have HS2 := Lib.hid hS2
            dsimp only [leafN] at q0 q1 q2 q3 q4 q5
            obtain ⟨m1, hm1⟩ : ∃ m, ids.length = m := ⟨_, rfl⟩
            rw [hm1] at q1
            simp only [List.length_nil] at q2
            have hdd := HDS.out
            rw [depthsS_leaf] at hdd
            obtain ⟨hgd, hd2⟩ := depths_next hdd
            have HD2 := Lib.hid hd2
            obtain ⟨i1, hi1⟩ : ∃ m : Nat, i + 1 = m := ⟨_, rfl⟩
            rw [hi1] at HS2 HD2
            have hwi : IntKind.i64.wrap ((i : Int) + 1) = (i1 : Int) := by rw [i64_w, show (i : Int) + 1 = (i1 : Int) by omega]; exact wrap64_id _ (by omega)
            have HI1 := Lib.hid hi1
            clear hx hm1 hS2 HM hi1 hdd hd2
            have hB2 : Below wr.heap.size wr (wr.alloc (.cells #[.bool true, .slice B1 m1 c1, .slice B2 0 c2, .int .i64 0, .int .i64 0, .int .i64 0] 113)) := by exact below_alloc1 (Below.refl _ _) _
            have hx2 : (wr.alloc (.cells #[.bool true, .slice B1 m1 c1, .slice B2 0 c2, .int .i64 0, .int .i64 0, .int .i64 0] 113)).heap[wr.heap.size]? = some (.cells #[.bool true, .slice B1 m1 c1, .slice B2 0 c2, .int .i64 0, .int .i64 0, .int .i64 0] 113 (0, 0)) := by exact heap_alloc_new _ _
            have hy0 := HY.out pre ((i : Int), (d : Int)) wr (wr.alloc (.cells #[.bool true, .slice B1 m1 c1, .slice B2 0 c2, .int .i64 0, .int .i64 0, .int .i64 0] 113)) HJS.out (Only.of_below hB2) (by rw [HPL.out]; exact hlt) (by rw [HPL.out, hgd])
            obtain ⟨fn, tmps, assign, body, hy, hR⟩ := hy0
            have HRR := Lib.hid hR
            have HO2b := Lib.hid (HO2.out.keep hB2)
            have HX2 := Lib.hid hx2
            have HB2 := Lib.hid hB2
            clear hR hx2 hB2
            gi_wp2
            clear q0 q1 q2 q3 q4 q5
            refine ⟨(fun h => by cases h), HRR.out.mono ?_⟩
            rintro e W3 (⟨rfl, hJ3, hk3⟩ | ⟨rfl, hJx3, hk3⟩)
            rotate_left
            · have HJ3 := Lib.hid hJx3
              clear hJx3 hk3
              gi_wp2
              refine bodyPost_ret (results_none rfl _ _ _) rfl ?_
              exact ⟨⟨_, rfl⟩, .inr ⟨_, trivial, HJ3.out⟩⟩
            · have hx3 := KpW.cells hk3 HX2.out (fun h => by have := hC _ h; omega)
              have HO3 := Lib.hid (KpW.own hk3 HO2b.out (fun k h => by have := hC _ h; omega))
              have HON3 := Lib.hid (show Only (fun k => C k ∨ w0.heap.size ≤ k) w0 W3 from HON.out.trans ((Only.of_below HB2.out).trans (Only.mono hk3 fun k _ h => h.elim .inl fun h => .inr (by have := h.1; have := hw.size; omega))))
              have hz3 : W.heap.size ≤ W3.heap.size := by have h1 := HB2.out.size; have h2 := Only.size hk3; omega
              have x0 : W3.cell? ⟨wr.heap.size, 0, none⟩ = some (.bool true) := by simp [World.cell?, hx3]
              have x5 : W3.cell? ⟨wr.heap.size, 5, none⟩ = some (.int .i64 0) := by simp [World.cell?, hx3]
              have HJ3 := Lib.hid hJ3
              clear hx3 hJ3 hk3 hy HRR HO2b HX2 HB2
              gi_wp2
              go_roundw
              case rel => exact ⟨i1, r, true, (d : Int), ([] : List (Int × Int)), pre ++ [((i : Int), (d : Int))], by have := HI1.out; omega, rfl, rfl, HO3.out, by have := hrl0.out; have := HI1.out; omega, HS2.out, HD2.out, by rw [List.length_append, HPL.out, ← HI1.out]; rfl, HJ3.out, HON3.out, hz3⟩
              case measure => have := HI1.out; simp [intOf]; omega
          | split ns off l q =>
            obtain ⟨hx, hS2⟩ := HM.out.split
            obtain ⟨g', B1, c1, B2, c2, hg', _, q0, q1, q2, q3, q4, q5, _, _⟩ := (HN.out.only HON.out (fun b h => h)).at_ i hx
            injection hg' with hg'
            injection hg' with hg'
            subst hg'
            have HS2 := Lib.hid hS2
            dsimp only at q0 q1 q2 q3 q4 q5
            obtain ⟨m2, hm2⟩ : ∃ m, ns.length = m := ⟨_, rfl⟩
            rw [hm2] at q2
            simp only [List.length_nil] at q1
            have hdd := HDS.out
            rw [depthsS_split] at hdd
            obtain ⟨hgd, hd2⟩ := depths_next hdd
            have HD2 := Lib.hid hd2
            obtain ⟨rt, hrt⟩ : ∃ m : Nat, i + 1 + l.size = m := ⟨_, rfl⟩
            obtain ⟨i1, hi1⟩ : ∃ m : Nat, i + 1 = m := ⟨_, rfl⟩
            obtain ⟨d1, hd1⟩ : ∃ m : Nat, d + 1 = m := ⟨_, rfl⟩
            rw [hrt] at q5 HS2
            rw [hi1] at q4 HS2 HD2
            rw [hd1] at HS2 HD2
            have hwi : IntKind.i64.wrap ((i : Int) + 1) = (i1 : Int) := by rw [i64_w, show (i : Int) + 1 = (i1 : Int) by omega]; exact wrap64_id _ (by omega)
            have hwd : IntKind.i64.wrap ((d : Int) + 1) = (d1 : Int) := by rw [i64_w, show (d : Int) + 1 = (d1 : Int) by omega]; exact wrap64_id _ (by have := hd64; omega)
            have HI1 := Lib.hid hi1
            clear hx hm2 hS2 HM hrt hi1 hd1 hdd hd2
            have hB2 : Below wr.heap.size wr (wr.alloc (.cells #[.bool false, .slice B1 0 c1, .slice B2 m2 c2, .int .i64 off, .int .i64 (i1 : Int), .int .i64 (rt : Int)] 113)) := by exact below_alloc1 (Below.refl _ _) _
            have hx2 : (wr.alloc (.cells #[.bool false, .slice B1 0 c1, .slice B2 m2 c2, .int .i64 off, .int .i64 (i1 : Int), .int .i64 (rt : Int)] 113)).heap[wr.heap.size]? = some (.cells #[.bool false, .slice B1 0 c1, .slice B2 m2 c2, .int .i64 off, .int .i64 (i1 : Int), .int .i64 (rt : Int)] 113 (0, 0)) := by exact heap_alloc_new _ _
            have hy0 := HY.out pre ((i : Int), (d : Int)) wr (wr.alloc (.cells #[.bool false, .slice B1 0 c1, .slice B2 m2 c2, .int .i64 off, .int .i64 (i1 : Int), .int .i64 (rt : Int)] 113)) HJS.out (Only.of_below hB2) (by rw [HPL.out]; exact hlt) (by rw [HPL.out, hgd])
            obtain ⟨fn, tmps, assign, body, hy, hR⟩ := hy0
            have HRR := Lib.hid hR
            have HO2b := Lib.hid (HO2.out.keep hB2)
            have HX2 := Lib.hid hx2
            have HB2 := Lib.hid hB2
            clear hR hx2 hB2
            gi_wp2
            clear q0 q1 q2 q3 q4 q5
            refine ⟨(fun h => by cases h), HRR.out.mono ?_⟩
            rintro e W3 (⟨rfl, hJ3, hk3⟩ | ⟨rfl, hJx3, hk3⟩)
            rotate_left
            · have HJ3 := Lib.hid hJx3
              clear hJx3 hk3
              gi_wp2
              refine bodyPost_ret (results_none rfl _ _ _) rfl ?_
              exact ⟨⟨_, rfl⟩, .inr ⟨_, trivial, HJ3.out⟩⟩
            · have hx3 := KpW.cells hk3 HX2.out (fun h => by have := hC _ h; omega)
              have HO3 := Lib.hid (KpW.own hk3 HO2b.out (fun k h => by have := hC _ h; omega))
              have HON3 := Lib.hid (show Only (fun k => C k ∨ w0.heap.size ≤ k) w0 W3 from HON.out.trans ((Only.of_below HB2.out).trans (Only.mono hk3 fun k _ h => h.elim .inl fun h => .inr (by have := h.1; have := hw.size; omega))))
              have hz3 : W.heap.size ≤ W3.heap.size := by have h1 := HB2.out.size; have h2 := Only.size hk3; omega
              have x0 : W3.cell? ⟨wr.heap.size, 0, none⟩ = some (.bool false) := by simp [World.cell?, hx3]
              have x5 : W3.cell? ⟨wr.heap.size, 5, none⟩ = some (.int .i64 (rt : Int)) := by simp [World.cell?, hx3]
              have HJ3 := Lib.hid hJ3
              clear hx3 hJ3 hk3 hy HRR HO2b HX2 HB2
              gi_wp2_with (gi_at_builtin; refine wpListIn_app _ rfl (.tmp 47) (.tmp 52) 314 316 rfl (.agg #[.int .i64 0, .int .i64 0]) 2 16 Tryz.underlying314 infoW rfl (by omega) (by omega) W.heap.size (.slice Ao 0 co) 0 (([] : List (Int × Int)).flatMap twoW) rfl (some ⟨W3.heap.size, 0, none⟩) 1 1 rfl (own_alloc1 HO3.out _) (Nat.le_trans hz3 (by simp)) [.int .i64 (rt : Int), .int .i64 (d1 : Int)] rfl (RdC.two_atW _ _ _ _ _ rfl) (twoW_one ((rt : Int), (d1 : Int))) (by have := hrl0.out; omega) ?_; intro v6 W5 hown hgrow hat hnil; have HO6 := Lib.hid (show OwnF W5 W.heap.size 316 2 twoW v6 (([] : List (Int × Int)) ++ [((rt : Int), (d1 : Int))]) from by unfold OwnF; (try rw [List.flatMap_append, List.length_append, List.length_singleton]); exact hown); have HON6 := Lib.hid (HON3.out.trans ((Only.of_below (below_alloc1 (Below.refl _ _) _)).trans (hgrow.mono fun k _ h => .inr (by have := (HO3.out.lt _ h).1; have := hw.size; omega)))); have HBE := Lib.hid (show Only (fun k => False ∨ W.heap.size ≤ k) W3 W5 from (Only.of_below (below_alloc1 (Below.refl _ _) _)).trans (hgrow.mono fun k _ h => .inr (HO3.out.lt _ h).1)); have hz6 : W.heap.size ≤ W5.heap.size := Nat.le_trans hz3 (Nat.le_trans (by simp) hgrow.size); obtain ⟨A6, c6, hv6, _⟩ := HO6.out.shape; subst hv6; clear hown hgrow hat hnil)
              go_roundw
              case rel => exact ⟨i1, (l, d1) :: (q, d1) :: r, false, (d1 : Int), ([] : List (Int × Int)) ++ [((rt : Int), (d1 : Int))], pre ++ [((i : Int), (d : Int))], by have := HI1.out; omega, rfl, rfl, (by have h := HO6.out; first | exact h | (rw [List.length_append, List.length_singleton] at h; exact h) | (simp only [List.length_append, List.length_singleton, List.length_cons, List.length_nil, Nat.zero_add] at h ⊢; exact h)), by have := hrl0.out; have := HI1.out; rw [List.length_append, List.length_singleton]; omega, HS2.out, HD2.out, by rw [List.length_append, HPL.out, ← HI1.out]; rfl, HJ.out _ _ _ HJ3.out HBE.out, HON6.out, hz6⟩
              case measure => have := HI1.out; simp [intOf]; omega
        · subst hR
          obtain ⟨k, hk⟩ : ∃ k, R'.length = k := ⟨_, rfl⟩
          obtain ⟨j, hj⟩ : ∃ j, i + t1.size = j := ⟨_, rfl⟩
          have hsz := t1.size_pos
          have hlen : (R' ++ [((j : Int), d')]).length = k + 1 := by rw [List.length_append, hk]; rfl
          have HRE := Lib.hid hlen
          rw [hj] at HO HM HO2 hrl0 hoc hRl hM ⊢
          rw [hlen] at HO hoc ⊢
          obtain ⟨gR, xr, rfl, _, hgl, hxr, hcr, _, _⟩ := HO.out.at_ twoW_q k (by omega) (by omega)
          have hxr' : xr = ((j : Int), d') := by rw [← hk] at hxr; simpa using hxr.symm
          subst hxr'
          have r0 : wr.cell? ⟨gR, k * 2, none⟩ = some (.int .i64 (j : Int)) := hcr 0 (by omega)
          have ar0 : ∀ b, (wr.alloc b).cell? ⟨gR, k * 2, none⟩ = some (.int .i64 (j : Int)) := fun b => (World.cell?_alloc_lt (o := b) wr _ (World.block_lt_of_cell? _ _ r0)).trans r0
          obtain ⟨K, hK⟩ : ∃ K, k + 1 = K := ⟨_, rfl⟩
          rw [hK] at HRE ⊢
          have HO2 := Lib.hid (show OwnF wr W.heap.size 316 2 twoW (.slice (some ⟨gR, 0, none⟩) K co) (R' ++ [((j : Int), d')]) from hK ▸ HO.out)
          have hrl0 := Lib.hid (show K ≤ i by rw [← hK, ← hlen]; exact hRl)
          have bk : (k : Int) < (K : Int) := by omega
          have hwk : IntKind.i64.wrap ((K : Int) - 1) = (k : Int) := by rw [i64_w, show (K : Int) - 1 = (k : Int) by omega]; exact wrap64_id _ (by omega)
          have hkl : decide ((0 : Int) ≤ (k : Int)) = true := decide_eq_true (by omega)
          have hne : ((j : Int) == (i : Int)) = false := by simp; omega
          have hne2 : ¬ (j : Int) = (i : Int) := by omega
          have HK := HRE
          clear hM hno hyes hRl hcr hxr hlen hK hk hj hsz HO
          cases t1 with
          | leaf ids =>
            obtain ⟨hx, hS2⟩ := HM.out.leaf (d : Int)
            obtain ⟨g', B1, c1, B2, c2, hg', _, q0, q1, q2, q3, q4, q5, _, _⟩ := (HN.out.only HON.out (fun b h => h)).at_ i hx
            injection hg' with hg'
            injection hg' with hg'
            subst hg'
            have HS2 := Lib.hid hS2
            dsimp only [leafN] at q0 q1 q2 q3 q4 q5
            obtain ⟨m1, hm1⟩ : ∃ m, ids.length = m := ⟨_, rfl⟩
            rw [hm1] at q1
            simp only [List.length_nil] at q2
            have hdd := HDS.out
            rw [depthsS_leaf] at hdd
            obtain ⟨hgd, hd2⟩ := depths_next hdd
            have HD2 := Lib.hid hd2
            obtain ⟨i1, hi1⟩ : ∃ m : Nat, i + 1 = m := ⟨_, rfl⟩
            rw [hi1] at HS2 HD2
            have hwi : IntKind.i64.wrap ((i : Int) + 1) = (i1 : Int) := by rw [i64_w, show (i : Int) + 1 = (i1 : Int) by omega]; exact wrap64_id _ (by omega)
            have HI1 := Lib.hid hi1
            clear hx hm1 hS2 HM hi1 hdd hd2
            have hB2 : Below wr.heap.size wr (wr.alloc (.cells #[.bool true, .slice B1 m1 c1, .slice B2 0 c2, .int .i64 0, .int .i64 0, .int .i64 0] 113)) := by exact below_alloc1 (Below.refl _ _) _
            have hx2 : (wr.alloc (.cells #[.bool true, .slice B1 m1 c1, .slice B2 0 c2, .int .i64 0, .int .i64 0, .int .i64 0] 113)).heap[wr.heap.size]? = some (.cells #[.bool true, .slice B1 m1 c1, .slice B2 0 c2, .int .i64 0, .int .i64 0, .int .i64 0] 113 (0, 0)) := by exact heap_alloc_new _ _
            have hy0 := HY.out pre ((i : Int), (d : Int)) wr (wr.alloc (.cells #[.bool true, .slice B1 m1 c1, .slice B2 0 c2, .int .i64 0, .int .i64 0, .int .i64 0] 113)) HJS.out (Only.of_below hB2) (by rw [HPL.out]; exact hlt) (by rw [HPL.out, hgd])
            obtain ⟨fn, tmps, assign, body, hy, hR⟩ := hy0
            have HRR := Lib.hid hR
            have HO2b := Lib.hid (HO2.out.keep hB2)
            have HX2 := Lib.hid hx2
            have HB2 := Lib.hid hB2
            clear hR hx2 hB2
            gi_wp2
            clear q0 q1 q2 q3 q4 q5
            refine ⟨(fun h => by cases h), HRR.out.mono ?_⟩
            rintro e W3 (⟨rfl, hJ3, hk3⟩ | ⟨rfl, hJx3, hk3⟩)
            rotate_left
            · have HJ3 := Lib.hid hJx3
              clear hJx3 hk3
              gi_wp2
              refine bodyPost_ret (results_none rfl _ _ _) rfl ?_
              exact ⟨⟨_, rfl⟩, .inr ⟨_, trivial, HJ3.out⟩⟩
            · have hx3 := KpW.cells hk3 HX2.out (fun h => by have := hC _ h; omega)
              have HO3 := Lib.hid (KpW.own hk3 HO2b.out (fun k h => by have := hC _ h; omega))
              have HON3 := Lib.hid (show Only (fun k => C k ∨ w0.heap.size ≤ k) w0 W3 from HON.out.trans ((Only.of_below HB2.out).trans (Only.mono hk3 fun k _ h => h.elim .inl fun h => .inr (by have := h.1; have := hw.size; omega))))
              have hz3 : W.heap.size ≤ W3.heap.size := by have h1 := HB2.out.size; have h2 := Only.size hk3; omega
              have x0 : W3.cell? ⟨wr.heap.size, 0, none⟩ = some (.bool true) := by simp [World.cell?, hx3]
              have x5 : W3.cell? ⟨wr.heap.size, 5, none⟩ = some (.int .i64 0) := by simp [World.cell?, hx3]
              have HJ3 := Lib.hid hJ3
              clear hx3 hJ3 hk3 hy HRR HO2b HX2 HB2
              gi_wp2
              go_roundw
              case rel => exact ⟨i1, r, true, (d : Int), (R' ++ [((j : Int), d')]), pre ++ [((i : Int), (d : Int))], by have := HI1.out; omega, rfl, rfl, HO3.out, by have := hrl0.out; have := HI1.out; have := HK.out; omega, HS2.out, HD2.out, by rw [List.length_append, HPL.out, ← HI1.out]; rfl, HJ3.out, HON3.out, hz3⟩
              case measure => have := HI1.out; simp [intOf]; omega
          | split ns off l q =>
            obtain ⟨hx, hS2⟩ := HM.out.split
            obtain ⟨g', B1, c1, B2, c2, hg', _, q0, q1, q2, q3, q4, q5, _, _⟩ := (HN.out.only HON.out (fun b h => h)).at_ i hx
            injection hg' with hg'
            injection hg' with hg'
            subst hg'
            have HS2 := Lib.hid hS2
            dsimp only at q0 q1 q2 q3 q4 q5
            obtain ⟨m2, hm2⟩ : ∃ m, ns.length = m := ⟨_, rfl⟩
            rw [hm2] at q2
            simp only [List.length_nil] at q1
            have hdd := HDS.out
            rw [depthsS_split] at hdd
            obtain ⟨hgd, hd2⟩ := depths_next hdd
            have HD2 := Lib.hid hd2
            obtain ⟨rt, hrt⟩ : ∃ m : Nat, i + 1 + l.size = m := ⟨_, rfl⟩
            obtain ⟨i1, hi1⟩ : ∃ m : Nat, i + 1 = m := ⟨_, rfl⟩
            obtain ⟨d1, hd1⟩ : ∃ m : Nat, d + 1 = m := ⟨_, rfl⟩
            rw [hrt] at q5 HS2
            rw [hi1] at q4 HS2 HD2
            rw [hd1] at HS2 HD2
            have hwi : IntKind.i64.wrap ((i : Int) + 1) = (i1 : Int) := by rw [i64_w, show (i : Int) + 1 = (i1 : Int) by omega]; exact wrap64_id _ (by omega)
            have hwd : IntKind.i64.wrap ((d : Int) + 1) = (d1 : Int) := by rw [i64_w, show (d : Int) + 1 = (d1 : Int) by omega]; exact wrap64_id _ (by have := hd64; omega)
            have HI1 := Lib.hid hi1
            clear hx hm2 hS2 HM hrt hi1 hd1 hdd hd2
            have hB2 : Below wr.heap.size wr (wr.alloc (.cells #[.bool false, .slice B1 0 c1, .slice B2 m2 c2, .int .i64 off, .int .i64 (i1 : Int), .int .i64 (rt : Int)] 113)) := by exact below_alloc1 (Below.refl _ _) _
            have hx2 : (wr.alloc (.cells #[.bool false, .slice B1 0 c1, .slice B2 m2 c2, .int .i64 off, .int .i64 (i1 : Int), .int .i64 (rt : Int)] 113)).heap[wr.heap.size]? = some (.cells #[.bool false, .slice B1 0 c1, .slice B2 m2 c2, .int .i64 off, .int .i64 (i1 : Int), .int .i64 (rt : Int)] 113 (0, 0)) := by exact heap_alloc_new _ _
            have hy0 := HY.out pre ((i : Int), (d : Int)) wr (wr.alloc (.cells #[.bool false, .slice B1 0 c1, .slice B2 m2 c2, .int .i64 off, .int .i64 (i1 : Int), .int .i64 (rt : Int)] 113)) HJS.out (Only.of_below hB2) (by rw [HPL.out]; exact hlt) (by rw [HPL.out, hgd])
            obtain ⟨fn, tmps, assign, body, hy, hR⟩ := hy0
            have HRR := Lib.hid hR
            have HO2b := Lib.hid (HO2.out.keep hB2)
            have HX2 := Lib.hid hx2
            have HB2 := Lib.hid hB2
            clear hR hx2 hB2
            gi_wp2
            clear q0 q1 q2 q3 q4 q5
            refine ⟨(fun h => by cases h), HRR.out.mono ?_⟩
            rintro e W3 (⟨rfl, hJ3, hk3⟩ | ⟨rfl, hJx3, hk3⟩)
            rotate_left
            · have HJ3 := Lib.hid hJx3
              clear hJx3 hk3
              gi_wp2
              refine bodyPost_ret (results_none rfl _ _ _) rfl ?_
              exact ⟨⟨_, rfl⟩, .inr ⟨_, trivial, HJ3.out⟩⟩
            · have hx3 := KpW.cells hk3 HX2.out (fun h => by have := hC _ h; omega)
              have HO3 := Lib.hid (KpW.own hk3 HO2b.out (fun k h => by have := hC _ h; omega))
              have HON3 := Lib.hid (show Only (fun k => C k ∨ w0.heap.size ≤ k) w0 W3 from HON.out.trans ((Only.of_below HB2.out).trans (Only.mono hk3 fun k _ h => h.elim .inl fun h => .inr (by have := h.1; have := hw.size; omega))))
              have hz3 : W.heap.size ≤ W3.heap.size := by have h1 := HB2.out.size; have h2 := Only.size hk3; omega
              have x0 : W3.cell? ⟨wr.heap.size, 0, none⟩ = some (.bool false) := by simp [World.cell?, hx3]
              have x5 : W3.cell? ⟨wr.heap.size, 5, none⟩ = some (.int .i64 (rt : Int)) := by simp [World.cell?, hx3]
              have HJ3 := Lib.hid hJ3
              clear hx3 hJ3 hk3 hy HRR HO2b HX2 HB2
              gi_wp2_with (gi_at_builtin; refine wpListIn_app _ rfl (.tmp 47) (.tmp 52) 314 316 rfl (.agg #[.int .i64 0, .int .i64 0]) 2 16 Tryz.underlying314 infoW rfl (by omega) (by omega) W.heap.size (.slice (some ⟨gR, 0, none⟩) K co) K ((R' ++ [((j : Int), d')]).flatMap twoW) rfl (some ⟨W3.heap.size, 0, none⟩) 1 1 rfl (by have h := own_alloc1 HO3.out (.cells #[.int .i64 (rt : Int), .int .i64 (d1 : Int)] 316); rw [HK.out] at h; exact h) (Nat.le_trans hz3 (by simp)) [.int .i64 (rt : Int), .int .i64 (d1 : Int)] rfl (RdC.two_atW _ _ _ _ _ rfl) (twoW_one ((rt : Int), (d1 : Int))) (by have := hrl0.out; have := HK.out; omega) ?_; intro v6 W5 hown hgrow hat hnil; have HO6 := Lib.hid (show OwnF W5 W.heap.size 316 2 twoW v6 ((R' ++ [((j : Int), d')]) ++ [((rt : Int), (d1 : Int))]) from by unfold OwnF; (try rw [List.flatMap_append, List.length_append, List.length_singleton, HK.out]); exact hown); have HON6 := Lib.hid (HON3.out.trans ((Only.of_below (below_alloc1 (Below.refl _ _) _)).trans (hgrow.mono fun k _ h => .inr (by have := (HO3.out.lt _ h).1; have := hw.size; omega)))); have HBE := Lib.hid (show Only (fun k => False ∨ W.heap.size ≤ k) W3 W5 from (Only.of_below (below_alloc1 (Below.refl _ _) _)).trans (hgrow.mono fun k _ h => .inr (HO3.out.lt _ h).1)); have hz6 : W.heap.size ≤ W5.heap.size := Nat.le_trans hz3 (Nat.le_trans (by simp) hgrow.size); obtain ⟨A6, c6, hv6, _⟩ := HO6.out.shape; subst hv6; clear hown hgrow hat hnil)
              go_roundw
              case rel => exact ⟨i1, (l, d1) :: (q, d1) :: r, false, (d1 : Int), (R' ++ [((j : Int), d')]) ++ [((rt : Int), (d1 : Int))], pre ++ [((i : Int), (d : Int))], by have := HI1.out; omega, rfl, rfl, (by have h := HO6.out; first | exact h | (rw [List.length_append, List.length_singleton] at h; exact h) | (simp only [List.length_append, List.length_singleton, List.length_cons, List.length_nil, Nat.zero_add] at h ⊢; exact h)), by have := hrl0.out; have := HI1.out; rw [List.length_append, List.length_singleton, HK.out]; omega, HS2.out, HD2.out, by rw [List.length_append, HPL.out, ← HI1.out]; rfl, HJ.out _ _ _ HJ3.out HBE.out, HON6.out, hz6⟩
              case measure => have := HI1.out; simp [intOf]; omega
      | true =>
        obtain ⟨h0, R', hR, hM⟩ := hyes rfl
        have HM := Lib.hid hM
        have hd64 := hM.depth
        subst hR
        obtain ⟨k, hk⟩ : ∃ k, R'.length = k := ⟨_, rfl⟩
        have hlen : (R' ++ [((i : Int), (d : Int))]).length = k + 1 := by rw [List.length_append, hk]; rfl
        rw [hlen] at HO hoc hRl ⊢
        have HO20 := Lib.hid (OwnF.pop twoW_q HO.out)
        obtain ⟨gR, xr, rfl, _, hgl, hxr, hcr, _, _⟩ := HO.out.at_ twoW_q k (by omega) (by omega)
        have hxr' : xr = ((i : Int), (d : Int)) := by rw [← hk] at hxr; simpa using hxr.symm
        subst hxr'
        have r0 : wr.cell? ⟨gR, k * 2, none⟩ = some (.int .i64 (i : Int)) := hcr 0 (by omega)
        have r1 : wr.cell? ⟨gR, k * 2 + 1, none⟩ = some (.int .i64 (d : Int)) := hcr 1 (by omega)
        have ar : ∀ j o, wr.cell? ⟨gR, j, none⟩ = some o → ∀ b, (wr.alloc b).cell? ⟨gR, j, none⟩ = some o := fun j o h b => (World.cell?_alloc_lt (o := b) wr _ (World.block_lt_of_cell? _ _ h)).trans h
        have ar0 := ar _ _ r0
        have ar1 := ar _ _ r1
        have hkl : decide ((0 : Int) ≤ (k : Int)) = true := decide_eq_true (by omega)
        have hkc : k ≤ co := by omega
        have hrl0 := Lib.hid (show k ≤ i by omega)
        have HK := Lib.hid hk
        have HO2 := Lib.hid (show OwnF wr W.heap.size 316 2 twoW (.slice (some ⟨gR, 0, none⟩) k co) R' from HO20.out)
        obtain ⟨K, hK⟩ : ∃ K, k + 1 = K := ⟨_, rfl⟩
        rw [hK]
        have bk : (k : Int) < (K : Int) := by omega
        have hwk : IntKind.i64.wrap ((K : Int) - 1) = (k : Int) := by rw [i64_w, show (K : Int) - 1 = (k : Int) by omega]; exact wrap64_id _ (by omega)
        have hkK : k ≤ K := by omega
        clear hM hno hyes hRl hcr hxr hlen ar hK hk HO HO20 h0
        cases t1 with
        | leaf ids =>
          obtain ⟨hx, hS2⟩ := HM.out.leaf (d : Int)
          obtain ⟨g', B1, c1, B2, c2, hg', _, q0, q1, q2, q3, q4, q5, _, _⟩ := (HN.out.only HON.out (fun b h => h)).at_ i hx
          injection hg' with hg'
          injection hg' with hg'
          subst hg'
          have HS2 := Lib.hid hS2
          dsimp only [leafN] at q0 q1 q2 q3 q4 q5
          obtain ⟨m1, hm1⟩ : ∃ m, ids.length = m := ⟨_, rfl⟩
          rw [hm1] at q1
          simp only [List.length_nil] at q2
          have hdd := HDS.out
          rw [depthsS_leaf] at hdd
          obtain ⟨hgd, hd2⟩ := depths_next hdd
          have HD2 := Lib.hid hd2
          obtain ⟨i1, hi1⟩ : ∃ m : Nat, i + 1 = m := ⟨_, rfl⟩
          rw [hi1] at HS2 HD2
          have hwi : IntKind.i64.wrap ((i : Int) + 1) = (i1 : Int) := by rw [i64_w, show (i : Int) + 1 = (i1 : Int) by omega]; exact wrap64_id _ (by omega)
          have HI1 := Lib.hid hi1
          clear hx hm1 hS2 HM hi1 hdd hd2
          gi_wp2
          gi_quiet (fail)
          obtain ⟨W2, hW2⟩ : ∃ Z, ((wr.alloc (.cells #[.bool true, .slice B1 m1 c1, .slice B2 0 c2, .int .i64 0, .int .i64 0, .int .i64 0] 113)).drewN nq) = Z := ⟨_, rfl⟩
          have hB2 : Below wr.heap.size wr W2 := by rw [← hW2]; exact below_drewN (below_alloc1 (Below.refl _ _) _) _
          have hx2 : W2.heap[wr.heap.size]? = some (.cells #[.bool true, .slice B1 m1 c1, .slice B2 0 c2, .int .i64 0, .int .i64 0, .int .i64 0] 113 (0, 0)) := by rw [← hW2]; exact obj_below (below_drewN_self _ _) (heap_alloc_new _ _) (by simp)
          rw [hW2]
          clear hW2
          have hy0 := HY.out pre ((i : Int), (d : Int)) wr W2 HJS.out (Only.of_below hB2) (by rw [HPL.out]; exact hlt) (by rw [HPL.out, hgd])
          obtain ⟨fn, tmps, assign, body, hy, hR⟩ := hy0
          have HRR := Lib.hid hR
          have HO2b := Lib.hid (HO2.out.keep hB2)
          have HX2 := Lib.hid hx2
          have HB2 := Lib.hid hB2
          clear hR hx2 hB2
          gi_wp2
          clear q0 q1 q2 q3 q4 q5
          refine ⟨(fun h => by cases h), HRR.out.mono ?_⟩
          rintro e W3 (⟨rfl, hJ3, hk3⟩ | ⟨rfl, hJx3, hk3⟩)
          rotate_left
          · have HJ3 := Lib.hid hJx3
            clear hJx3 hk3
            gi_wp2
            refine bodyPost_ret (results_none rfl _ _ _) rfl ?_
            exact ⟨⟨_, rfl⟩, .inr ⟨_, trivial, HJ3.out⟩⟩
          · have hx3 := KpW.cells hk3 HX2.out (fun h => by have := hC _ h; omega)
            have HO3 := Lib.hid (KpW.own hk3 HO2b.out (fun k h => by have := hC _ h; omega))
            have HON3 := Lib.hid (show Only (fun k => C k ∨ w0.heap.size ≤ k) w0 W3 from HON.out.trans ((Only.of_below HB2.out).trans (Only.mono hk3 fun k _ h => h.elim .inl fun h => .inr (by have := h.1; have := hw.size; omega))))
            have hz3 : W.heap.size ≤ W3.heap.size := by have h1 := HB2.out.size; have h2 := Only.size hk3; omega
            have x0 : W3.cell? ⟨wr.heap.size, 0, none⟩ = some (.bool true) := by simp [World.cell?, hx3]
            have x5 : W3.cell? ⟨wr.heap.size, 5, none⟩ = some (.int .i64 0) := by simp [World.cell?, hx3]
            have HJ3 := Lib.hid hJ3
            clear hx3 hJ3 hk3 hy HRR HO2b HX2 HB2
            gi_wp2
            go_roundw
            case rel => exact ⟨i1, r, true, (d : Int), R', pre ++ [((i : Int), (d : Int))], by have := HI1.out; omega, rfl, rfl, HO3.out, by have := hrl0.out; have := HI1.out; have := HK.out; omega, HS2.out, HD2.out, by rw [List.length_append, HPL.out, ← HI1.out]; rfl, HJ3.out, HON3.out, hz3⟩
            case measure => have := HI1.out; simp [intOf]; omega
        | split ns off l q =>
          obtain ⟨hx, hS2⟩ := HM.out.split
          obtain ⟨g', B1, c1, B2, c2, hg', _, q0, q1, q2, q3, q4, q5, _, _⟩ := (HN.out.only HON.out (fun b h => h)).at_ i hx
          injection hg' with hg'
          injection hg' with hg'
          subst hg'
          have HS2 := Lib.hid hS2
          dsimp only at q0 q1 q2 q3 q4 q5
          obtain ⟨m2, hm2⟩ : ∃ m, ns.length = m := ⟨_, rfl⟩
          rw [hm2] at q2
          simp only [List.length_nil] at q1
          have hdd := HDS.out
          rw [depthsS_split] at hdd
          obtain ⟨hgd, hd2⟩ := depths_next hdd
          have HD2 := Lib.hid hd2
          obtain ⟨rt, hrt⟩ : ∃ m : Nat, i + 1 + l.size = m := ⟨_, rfl⟩
          obtain ⟨i1, hi1⟩ : ∃ m : Nat, i + 1 = m := ⟨_, rfl⟩
          obtain ⟨d1, hd1⟩ : ∃ m : Nat, d + 1 = m := ⟨_, rfl⟩
          rw [hrt] at q5 HS2
          rw [hi1] at q4 HS2 HD2
          rw [hd1] at HS2 HD2
          have hwi : IntKind.i64.wrap ((i : Int) + 1) = (i1 : Int) := by rw [i64_w, show (i : Int) + 1 = (i1 : Int) by omega]; exact wrap64_id _ (by omega)
          have hwd : IntKind.i64.wrap ((d : Int) + 1) = (d1 : Int) := by rw [i64_w, show (d : Int) + 1 = (d1 : Int) by omega]; exact wrap64_id _ (by have := hd64; omega)
          have HI1 := Lib.hid hi1
          clear hx hm2 hS2 HM hrt hi1 hd1 hdd hd2
          gi_wp2
          gi_quiet (fail)
          obtain ⟨W2, hW2⟩ : ∃ Z, ((wr.alloc (.cells #[.bool false, .slice B1 0 c1, .slice B2 m2 c2, .int .i64 off, .int .i64 (i1 : Int), .int .i64 (rt : Int)] 113)).drewN nq) = Z := ⟨_, rfl⟩
          have hB2 : Below wr.heap.size wr W2 := by rw [← hW2]; exact below_drewN (below_alloc1 (Below.refl _ _) _) _
          have hx2 : W2.heap[wr.heap.size]? = some (.cells #[.bool false, .slice B1 0 c1, .slice B2 m2 c2, .int .i64 off, .int .i64 (i1 : Int), .int .i64 (rt : Int)] 113 (0, 0)) := by rw [← hW2]; exact obj_below (below_drewN_self _ _) (heap_alloc_new _ _) (by simp)
          rw [hW2]
          clear hW2
          have hy0 := HY.out pre ((i : Int), (d : Int)) wr W2 HJS.out (Only.of_below hB2) (by rw [HPL.out]; exact hlt) (by rw [HPL.out, hgd])
          obtain ⟨fn, tmps, assign, body, hy, hR⟩ := hy0
          have HRR := Lib.hid hR
          have HO2b := Lib.hid (HO2.out.keep hB2)
          have HX2 := Lib.hid hx2
          have HB2 := Lib.hid hB2
          clear hR hx2 hB2
          gi_wp2
          clear q0 q1 q2 q3 q4 q5
          refine ⟨(fun h => by cases h), HRR.out.mono ?_⟩
          rintro e W3 (⟨rfl, hJ3, hk3⟩ | ⟨rfl, hJx3, hk3⟩)
          rotate_left
          · have HJ3 := Lib.hid hJx3
            clear hJx3 hk3
            gi_wp2
            refine bodyPost_ret (results_none rfl _ _ _) rfl ?_
            exact ⟨⟨_, rfl⟩, .inr ⟨_, trivial, HJ3.out⟩⟩
          · have hx3 := KpW.cells hk3 HX2.out (fun h => by have := hC _ h; omega)
            have HO3 := Lib.hid (KpW.own hk3 HO2b.out (fun k h => by have := hC _ h; omega))
            have HON3 := Lib.hid (show Only (fun k => C k ∨ w0.heap.size ≤ k) w0 W3 from HON.out.trans ((Only.of_below HB2.out).trans (Only.mono hk3 fun k _ h => h.elim .inl fun h => .inr (by have := h.1; have := hw.size; omega))))
            have hz3 : W.heap.size ≤ W3.heap.size := by have h1 := HB2.out.size; have h2 := Only.size hk3; omega
            have x0 : W3.cell? ⟨wr.heap.size, 0, none⟩ = some (.bool false) := by simp [World.cell?, hx3]
            have x5 : W3.cell? ⟨wr.heap.size, 5, none⟩ = some (.int .i64 (rt : Int)) := by simp [World.cell?, hx3]
            have HJ3 := Lib.hid hJ3
            clear hx3 hJ3 hk3 hy HRR HO2b HX2 HB2
            gi_wp2_with (gi_at_builtin; refine wpListIn_app _ rfl (.tmp 47) (.tmp 52) 314 316 rfl (.agg #[.int .i64 0, .int .i64 0]) 2 16 Tryz.underlying314 infoW rfl (by omega) (by omega) W.heap.size (.slice (some ⟨gR, 0, none⟩) k co) k (R'.flatMap twoW) rfl (some ⟨W3.heap.size, 0, none⟩) 1 1 rfl (by have h := own_alloc1 HO3.out (.cells #[.int .i64 (rt : Int), .int .i64 (d1 : Int)] 316); rw [HK.out] at h; exact h) (Nat.le_trans hz3 (by simp)) [.int .i64 (rt : Int), .int .i64 (d1 : Int)] rfl (RdC.two_atW _ _ _ _ _ rfl) (twoW_one ((rt : Int), (d1 : Int))) (by have := hrl0.out; have := HK.out; omega) ?_; intro v6 W5 hown hgrow hat hnil; have HO6 := Lib.hid (show OwnF W5 W.heap.size 316 2 twoW v6 (R' ++ [((rt : Int), (d1 : Int))]) from by unfold OwnF; (try rw [List.flatMap_append, List.length_append, List.length_singleton, HK.out]); exact hown); have HON6 := Lib.hid (HON3.out.trans ((Only.of_below (below_alloc1 (Below.refl _ _) _)).trans (hgrow.mono fun k _ h => .inr (by have := (HO3.out.lt _ h).1; have := hw.size; omega)))); have HBE := Lib.hid (show Only (fun k => False ∨ W.heap.size ≤ k) W3 W5 from (Only.of_below (below_alloc1 (Below.refl _ _) _)).trans (hgrow.mono fun k _ h => .inr (HO3.out.lt _ h).1)); have hz6 : W.heap.size ≤ W5.heap.size := Nat.le_trans hz3 (Nat.le_trans (by simp) hgrow.size); obtain ⟨A6, c6, hv6, _⟩ := HO6.out.shape; subst hv6; clear hown hgrow hat hnil)
            go_roundw
            case rel => exact ⟨i1, (l, d1) :: (q, d1) :: r, false, (d1 : Int), R' ++ [((rt : Int), (d1 : Int))], pre ++ [((i : Int), (d : Int))], by have := HI1.out; omega, rfl, rfl, (by have h := HO6.out; first | exact h | (rw [List.length_append, List.length_singleton] at h; exact h) | (simp only [List.length_append, List.length_singleton, List.length_cons, List.length_nil, Nat.zero_add] at h ⊢; exact h)), by have := hrl0.out; have := HI1.out; rw [List.length_append, List.length_singleton, HK.out]; omega, HS2.out, HD2.out, by rw [List.length_append, HPL.out, ← HI1.out]; rfl, HJ.out _ _ _ HJ3.out HBE.out, HON6.out, hz6⟩
            case measure => have := HI1.out; simp [intOf]; omega
    · obtain rfl : i = n := by omega
      have hltd : decide ((i : Int) < (i : Int)) = false := decide_eq_false (by omega)
      gi_wp2
      go_end0
      exact ⟨⟨_, rfl⟩, .inl ⟨_, HPL.out, HJS.out⟩⟩
end Go.Proofs.YticdmglondpgaaaGreat

/-! ## Shape8: Package shape: Depth: the greatest one. Conditions: the nodes read as a tree laid from place 0, no deeper than 64. -/
namespace Go.Proofs.YticdmglondpgaaaGreat
open Go.RowKit
set_option linter.unusedVariables false
set_option maxRecDepth 100000
set_option linter.unusedSimpArgs false

attribute [local go_sem] Oper.semAt_some

theorem max2_runD (P : Program) (w : World) (k k' : IntKind) (x y : Int) : (Builtin.max2 (.int k x) (.int k' y)).run P w = .ok (.int k (if x < y then y else x)) w := rfl
attribute [local go_sem] max2_runD
/-- Between two rounds: the cell holds the greatest one so far. -/
def DI (w : World) (ds : List Nat) (k : Nat) (W : World) : Prop := Below w.heap.size w W ∧ W.heap[w.heap.size]? = some (.cells #[.int .i64 (((ds.take k).foldl max 0 : Nat) : Int)] 3 (0, 0))
theorem RdN.nowhere {w : World} {P : Nat → Prop} {v : Value} {N : List NodeV} (h : RdN w P v N) : RdN w (fun b => b = w.heap.size) v N := by
  obtain ⟨A, c, al, h1, h2, h3, h4, h5, h6⟩ := h.freshW
  exact ⟨A, c, al, h1, h2, h3, h4, fun hl => by obtain ⟨g, e, h7, h8⟩ := h5 hl; exact ⟨g, e, fun h => h7 (.inr (by omega)), h8⟩, fun a ha => by
    have key : ∀ {k : IntKind} {A : Option Addr} {c : Nat} {xs : List Int}, Lies w 0 k A c xs (fun b => P b ∨ w.heap.size ≤ b) → Lies w 0 k A c xs (fun b => b = w.heap.size) := fun h => ⟨h.1, h.2.1, fun ad hl e => ⟨Nat.zero_le _, fun hp => (h.2.2 ad hl e).2 (.inr (by omega))⟩⟩
    exact ⟨key (h6 a ha).1, key (h6 a ha).2⟩⟩
set_option maxHeartbeats 6400000 in
set_option maxRecDepth 1000000 in
theorem Depth_calls (A : Option Addr) (c : Nat) (t : Tr) (P : Nat → Prop) (w : World) (hN : RdN w P (.slice A (t.lay 0).length c) (t.lay 0)) (hl : t.size ≤ 1000000) (hd : t.depth ≤ 64) :
    Calls Tryz.prog 125 #[.slice A t.size c] w fun e w' => e = .returned (.int .i64 t.depth) ∧ Below w.heap.size w w' := by
  have HN := Lib.hid hN.nowhere
  have hlen : (t.lay 0).length = t.size := Tr.lay_length _ _
  have HLEN := Lib.hid hlen
  have hdl : (t.depths 0).length = t.size := Tr.depths_length _ _
  have HDL := Lib.hid hdl
  have HDM := Lib.hid t.depth_max
  clear hN hlen hdl
  refine (callsIn_wide (n := 5)).1 ?_
  refine callsIn_of_wp_marks Tryz.func125 rfl trivial ?_ rfl
  refine wpIn_wide.2 ?_
  simp only [Tryz.ntmps125, List.size_toArray, List.length_cons, List.length_nil, Nat.reduceAdd, Nat.reduceSub, Array.replicate_succ, Array.replicate_zero, List.push_toArray, List.append_toArray, List.nil_append, List.cons_append]
  go_wp2_with fail
  obtain ⟨w1, aW⟩ : ∃ W, w.alloc (.cells #[.int .i64 0] 3) = W := ⟨_, rfl⟩
  have ab : Below w.heap.size w w1 := by rw [← aW]; exact below_alloc1 (Below.refl _ _) _
  have ax : w1.heap[w.heap.size]? = some (.cells #[.int .i64 0] 3 (0, 0)) := by rw [← aW]; exact heap_alloc_new _ _
  rw [aW]
  clear aW
  refine (Walk_calls A t.size c w1).mono ?_
  rintro e w2 ⟨he, hw2⟩
  subst he
  have hb2 : Below w1.heap.size w1 w2 := by rw [hw2]; exact below_alloc1 (Below.refl _ _) _
  have hx2 : w2.heap[w1.heap.size]? = some (.cells #[.slice A (t.lay 0).length c] 48 (0, 0)) := by rw [hw2, HLEN.out]; exact heap_alloc_new _ _
  have hz1 := ab.size
  have hz2 := hb2.size
  have hzw : w.heap.size < w1.heap.size := obj_lt ax
  have hx2l := obj_lt hx2
  have HB2 := Lib.hid (ab.trans (hb2.mono hz1))
  have HX2 := Lib.hid hx2
  have HI0 := Lib.hid (show DI w (t.depths 0) 0 w2 from ⟨ab.trans (hb2.mono hz1), obj_below hb2 ax (obj_lt ax)⟩)
  clear hw2 hb2 hx2 ab ax
  go_wp2_with fail
  refine (wpIn_wide (n := 5)).1 ?_
  refine wpIn_rangeF rfl (by omega) (gf := 218) (lb := #[.pointer (some ⟨w1.heap.size, 0, none⟩)]) rfl trivial (enters_of Tryz.func218 (by kernel_rfl) rfl)
    (walk_iter _ w1.heap.size A c t (fun b => b = w.heap.size) w w2 HB2.out HN.out hl hd (fun k h => by omega) HX2.out (by omega))
    (fun k h => h.elim) (fun h k => KpW.trans h k) (fun W l o o' hl ho hc => KpW.putObj hl ho hc) (fun pre x A0 W o' _ h => h)
    (fun xs A B h _ => h) (fun xs A B h _ => h) (fun _ => rfl)
    (fun pre W => DI w (t.depths 0) pre.length W)
    (fun c pre W => False)
    (fun pre A B h hs => by
      have hs' : Only (fun k => w2.heap.size + 1 ≤ k) A B := Only.mono hs fun k _ h => h.elim (fun h => h.elim) fun h => h
      exact ⟨h.1.trans (hs'.below h.1.size fun k hk h => by omega), hs'.obj h.2 (by omega)⟩) (fun c pre A B h hs => h) HI0.out ?a1 ?assign ?body ?done ?stop
  case assign =>
    intro l x W K hK
    gi_wp2
    exact hK
  case body =>
    clear HI0
    rintro l2 pre x A0 W hIW hlen hsz hIA hst' hx
    subst hx
    obtain ⟨i1, i2⟩ := hIW
    obtain ⟨a, ha⟩ : ∃ a, ((t.depths 0).take pre.length).foldl max 0 = a := ⟨_, rfl⟩
    obtain ⟨b, hb⟩ : ∃ b, (t.depths 0).getD pre.length 0 = b := ⟨_, rfl⟩
    have hnx : ((t.depths 0).take (pre.length + 1)).foldl max 0 = max a b := by
      rw [List.take_add_one, List.foldl_append, ha, ← hb]
      simp [List.getD, show pre.length < (t.depths 0).length by rw [HDL.out]; exact hlen]
    rw [ha] at i2
    rw [hb]
    have hcc : W.cell? ⟨w.heap.size, 0, none⟩ = some (.int .i64 (a : Int)) := by simp [World.cell?, i2]
    have hcf : W.frozen? ⟨w.heap.size, 0, none⟩ = false := by simp [World.frozen?, i2]
    have I1 := Lib.hid i1
    have I2 := Lib.hid i2
    have HNX := Lib.hid hnx
    clear i1 i2 hst' hIA ha hb hnx
    by_cases hab : a < b
    · have hab' : (a : Int) < (b : Int) := by omega
      have hmx : max a b = b := by omega
      have HMX := Lib.hid hmx
      clear hmx
      gi_wp2
      refine ⟨⟨by simp [World.setCell], fun k o hk hh hc => set_other hh _ _ (by omega)⟩, (only_set W _ _ _).mono fun k _ h => .inl h, below_set I1.out (Nat.le_refl _) _ _, ?_⟩
      rw [List.length_append, List.length_singleton, HNX.out, HMX.out]
      exact set_blk (cs := [_]) I2.out 0 _
    · have hab' : ¬ (a : Int) < (b : Int) := by omega
      have hmx : max a b = a := by omega
      have HMX := Lib.hid hmx
      clear hmx
      gi_wp2
      refine ⟨⟨by simp [World.setCell], fun k o hk hh hc => set_other hh _ _ (by omega)⟩, (only_set W _ _ _).mono fun k _ h => .inl h, below_set I1.out (Nat.le_refl _) _ _, ?_⟩
      rw [List.length_append, List.length_singleton, HNX.out, HMX.out]
      exact set_blk (cs := [_]) I2.out 0 _
  case done =>
    rintro _ ps W rfl hps hIW hK
    clear HI0
    obtain ⟨i1, i20⟩ := hIW
    have i2 : W.heap[w.heap.size]? = some (.cells #[.int .i64 (t.depth : Int)] 3 (0, 0)) := by
      have h3 : ps.length = (t.depths 0).length := by rw [HDL.out]; exact hps
      rw [← HDM.out]
      rw [h3, List.take_length] at i20
      exact i20
    obtain ⟨q, hq⟩ : ∃ q, t.depth = q := ⟨_, rfl⟩
    rw [hq] at i2
    have HQ := Lib.hid hq
    have hcc : W.cell? ⟨w.heap.size, 0, none⟩ = some (.int .i64 (q : Int)) := by simp [World.cell?, i2]
    have I1 := Lib.hid i1
    have HK := Lib.hid hK
    have hzW := i1.size
    clear i1 i2 i20 hK hps hq
    go_wp2_with fail
    exact ⟨by simp, .inl ⟨_, _, rfl, run_takeDeferred HK.out, _, results_tmp rfl _ _ _, by rw [HQ.out]; rfl, below_putObjW I1.out (by omega) _⟩⟩
  case stop =>
    rintro b cc pre W _ _ h
    exact h.elim
end Go.Proofs.YticdmglondpgaaaGreat

/-! ## Layout: Package layout: Check, of a forest that is grown. Conditions: the items, and the trees, read as the lists; each tree is one of all items. -/
namespace Go.Proofs.YticdmglondpgaaaGreat
open Go.RowKit
set_option linter.unusedVariables false
set_option maxRecDepth 100000
set_option linter.unusedSimpArgs false

attribute [local go_sem] Oper.semAt_some

/-- A row of trees: each a slice of nodes that reads as a tree laid from place 0. -/
def RdT (w : World) (A : Option Addr) (ts : List Tr) : Prop :=
  ∀ j t, ts[j]? = some t → ∃ ad B c, A = some ad ∧ w.cell? (ad.add j) = some (.slice B t.size c) ∧ RdN w (fun _ => False) (.slice B (t.lay 0).length c) (t.lay 0)
theorem RdT.below {w w1 : World} {A : Option Addr} {ts : List Tr} (h : RdT w A ts) (hb : Below w.heap.size w w1) : RdT w1 A ts := fun j t ht => by
  obtain ⟨ad, B, c, e, hc, hr⟩ := h j t ht
  exact ⟨ad, B, c, e, cell_below hb hc (World.block_lt_of_cell? _ _ hc), hr.below hb⟩
theorem RdT.nil (w : World) (A : Option Addr) : RdT w A [] := fun j t h => by simp at h
/-- A forest that is grown of items. -/
structure ForestG (ts : List Tr) (n dim lf dp : Nat) : Prop where
  g : ∀ t ∈ ts, Grown t n dim ∧ t.depth ≤ dp
  l1 : 1 ≤ lf
  l2 : lf ≤ 1024
  d : dp ≤ 64
  t1 : 1 ≤ ts.length
  t2 : ts.length ≤ 256
  n1 : 1 ≤ n
  n2 : n ≤ 64
set_option maxHeartbeats 6400000 in
set_option maxRecDepth 1000000 in
theorem LCheck_calls (bI dim : Nat) (rows : List (List Int)) (lf dp : Nat) (A : Option Addr) (c : Nat) (ts : List Tr) (w : World) (hI : It w bI dim rows) (hT : RdT w A ts) (hg : ForestG ts rows.length dim lf dp) :
    Calls Tryz.prog 94 #[.agg #[.pointer (some ⟨bI, 0, none⟩), .int .i64 lf, .int .i64 dp, .slice A ts.length c]] w fun e w' => e = .returned (.int .i64 0) ∧ Below w.heap.size w w' := by
  have HI := Lib.hid hI
  have HT := Lib.hid hT
  have HG := Lib.hid hg
  obtain ⟨T, hTe⟩ : ∃ T, ts.length = T := ⟨_, rfl⟩
  have ET := Lib.hid hTe
  obtain ⟨n, hn⟩ : ∃ n, rows.length = n := ⟨_, rfl⟩
  have EN := Lib.hid hn
  obtain ⟨_, l1, l2, d1, t1, t2, n1, n2⟩ := hg
  rw [hTe] at t1 t2 ⊢
  rw [hn] at n1 n2
  have hlen := fun W (h : Below w.heap.size w W) => hn ▸ Len_calls bI dim rows W (HI.out.below h)
  have HLEN := Lib.hid hlen
  have c1 : decide ((lf : Int) < 1) = false := decide_eq_false (by omega)
  have c2 : decide (1024 < (lf : Int)) = false := decide_eq_false (by omega)
  have c3 : decide ((dp : Int) < 0) = false := decide_eq_false (by omega)
  have c4 : decide (64 < (dp : Int)) = false := decide_eq_false (by omega)
  have c5 : decide ((T : Int) < 1) = false := decide_eq_false (by omega)
  have c6 : decide (256 < (T : Int)) = false := decide_eq_false (by omega)
  have c7 : ((n : Int) == 0) = false := by simp; omega
  have c70 : ¬ (n : Int) = 0 := by omega
  have c71 : ¬ n = 0 := by omega
  clear hI hT hTe hn hlen
  go_enter Tryz.func94, Tryz.ntmps94
  go_wp2_with fail
  obtain ⟨w1, aW⟩ : ∃ W, w.alloc (.cells #[.pointer (some ⟨bI, 0, none⟩), .int .i64 lf, .int .i64 dp, .slice A T c] 61) = W := ⟨_, rfl⟩
  have ab : Below w.heap.size w w1 := by rw [← aW]; exact below_alloc1 (Below.refl _ _) _
  have ax : w1.heap[w.heap.size]? = some (.cells #[.pointer (some ⟨bI, 0, none⟩), .int .i64 lf, .int .i64 dp, .slice A T c] 61 (0, 0)) := by rw [← aW]; exact heap_alloc_new _ _
  rw [aW]
  clear aW
  refine (HLEN.out w1 ab).mono ?_
  rintro e _ ⟨he, q, rfl⟩
  subst he
  obtain ⟨w2, hw2⟩ : ∃ W, w1.drewN q = W := ⟨_, rfl⟩
  have hb2 : Below w1.heap.size w1 w2 := by rw [← hw2]; exact below_drewN_self _ _
  rw [hw2]
  have HX2 := Lib.hid (obj_below hb2 ax (obj_lt ax))
  have HB2 := Lib.hid (ab.trans (hb2.mono ab.size))
  have x0 : w2.cell? ⟨w.heap.size, 0, none⟩ = some (.pointer (some ⟨bI, 0, none⟩)) := by have h := HX2.out; simp [World.cell?, h]
  have x1 : w2.cell? ⟨w.heap.size, 1, none⟩ = some (.int .i64 lf) := by have h := HX2.out; simp [World.cell?, h]
  have x2 : w2.cell? ⟨w.heap.size, 2, none⟩ = some (.int .i64 dp) := by have h := HX2.out; simp [World.cell?, h]
  have x3 : w2.cell? ⟨w.heap.size, 3, none⟩ = some (.slice A T c) := by have h := HX2.out; simp [World.cell?, h]
  have hxl := obj_lt HX2.out
  clear hw2 hb2 ab ax
  go_wp2_with fail
  go_loopg [48] T (fun kq v48 w' => kq ≤ T ∧ v48 = .int .i64 ((T - kq : Nat) : Int) ∧ Below w2.heap.size w2 w')
  case atStart => exact ⟨Nat.le_refl _, by simp, Below.refl _ _⟩
  case round =>
    clear x0 x1 x2 x3
    obtain ⟨hk, rfl, hB⟩ := hrel
    have HB := Lib.hid hB
    have HBw := Lib.hid (HB2.out.trans (hB.mono HB2.out.size))
    clear hB
    cases gk with
    | zero =>
      simp only [Nat.sub_zero]
      go_wp2_with fail
      go_ret
      exact ⟨rfl, HBw.out⟩
    | succ k1 =>
      obtain ⟨i, hi⟩ : ∃ i, T - (k1 + 1) = i := ⟨_, rfl⟩
      have hi2 : T - k1 = i + 1 := by omega
      have HIi := Lib.hid hi2
      have hlt : i < T := by omega
      have hltI : (i : Int) < (T : Int) := by omega
      rw [hi]
      clear hi hi2
      obtain ⟨t, ht⟩ : ∃ t, ts[i]? = some t := ⟨ts[i]'(by rw [ET.out]; exact hlt), List.getElem?_eq_getElem _⟩
      obtain ⟨ad, B, cB, rfl, hca, hrn⟩ := (HT.out.below HBw.out) i t ht
      obtain ⟨hgr, hdp⟩ := HG.out.g t (List.mem_of_getElem? ht)
      rw [EN.out] at hgr
      have hdx : decide ((dp : Int) < (t.depth : Int)) = false := decide_eq_false (by omega)
      have hdxn : decide (dp < t.depth) = false := decide_eq_false (by omega)
      have hsc := fun W (h : Below wr.heap.size wr W) => SCheck_calls t n dim B cB (fun _ => False) W (hrn.below h) hgr
      have hde := fun W (h : Below wr.heap.size wr W) => Depth_calls B cB t (fun _ => False) W (hrn.below h) (by have := hgr.size_le; omega) hgr.deep
      have hlen := fun W (h : Below wr.heap.size wr W) => (show Calls Tryz.prog 46 #[.pointer (some ⟨bI, 0, none⟩)] W (fun e w' => e = .returned (.int .i64 (n : Int)) ∧ Below W.heap.size W w') from (HLEN.out W (HBw.out.trans (h.mono HBw.out.size))).mono fun e w' ⟨he, q, hq⟩ => ⟨he, by rw [hq]; exact below_drewN_self _ _⟩)
      have hdim := fun W (h : Below wr.heap.size wr W) => (show Calls Tryz.prog 87 #[.pointer (some ⟨bI, 0, none⟩)] W (fun e w' => e = .returned (.int .i64 (dim : Int)) ∧ Below W.heap.size W w') from (Dim_calls bI dim rows W ((HI.out.below HBw.out).below h)).mono fun e w' ⟨he, hq⟩ => ⟨he, by rw [← hq]; exact Below.refl _ _⟩)
      have HSC := Lib.hid hsc
      have HDE := Lib.hid hde
      have HLN := Lib.hid hlen
      have HDI := Lib.hid hdim
      have hX := obj_below HB.out HX2.out hxl
      have x0 : wr.cell? ⟨w.heap.size, 0, none⟩ = some (.pointer (some ⟨bI, 0, none⟩)) := by simp [World.cell?, hX]
      have x2 : wr.cell? ⟨w.heap.size, 2, none⟩ = some (.int .i64 dp) := by simp [World.cell?, hX]
      have hxw : w.heap.size < wr.heap.size := obj_lt hX
      have hbs0 : Below wr.heap.size wr wr := Below.refl _ _
      obtain ⟨m, hm⟩ : ∃ m, t.size = m := ⟨_, rfl⟩
      obtain ⟨dt, hdt⟩ : ∃ m, t.depth = m := ⟨_, rfl⟩
      rw [hm] at hca HSC HDE
      rw [hdt] at hdx hdxn HDE
      clear hsc hde hlen hdim hX hrn hgr hdp ht hm hdt
      go_wp2_with fail
      go_region_held3 (fun w' => w'.cell? ⟨w.heap.size, 0, none⟩ = some (.pointer (some ⟨bI, 0, none⟩)) ∧ w'.cell? ⟨w.heap.size, 2, none⟩ = some (.int .i64 dp) ∧ Below wr.heap.size wr w')
        (first | exact ⟨cell_below (B := wr.heap.size) (w := wr) (by first | ((repeat (first | assumption | exact Below.refl _ _ | apply below_drew1 | apply below_alloc1)); done)) x0 hxw, cell_below (B := wr.heap.size) (w := wr) (by first | ((repeat (first | assumption | exact Below.refl _ _ | apply below_drew1 | apply below_alloc1)); done)) x2 hxw, (by first | ((repeat (first | assumption | exact Below.refl _ _ | apply below_drew1 | apply below_alloc1)); done))⟩ | go_keep)
        (first
          | (go_at_call 46; go_split_ands; (with_reducible refine Calls.mono (HLN.out _ ?_) ?_); (exact (by first | ((repeat (first | assumption | exact Below.refl _ _ | apply below_drew1 | apply below_alloc1)); done))); rintro e wa ⟨he, hbq⟩; subst he; have hBa : Below wr.heap.size wr wa := Below.after (by first | ((repeat (first | assumption | exact Below.refl _ _ | apply below_drew1 | apply below_alloc1)); done)) hbq)
          | (go_at_call 87; go_split_ands; (with_reducible refine Calls.mono (HDI.out _ ?_) ?_); (exact (by first | ((repeat (first | assumption | exact Below.refl _ _ | apply below_drew1 | apply below_alloc1)); done))); rintro e wb ⟨he, hbq⟩; subst he; have hBb : Below wr.heap.size wr wb := Below.after (by first | ((repeat (first | assumption | exact Below.refl _ _ | apply below_drew1 | apply below_alloc1)); done)) hbq)
          | (go_at_call 140; go_split_ands; (with_reducible refine Calls.mono (HSC.out _ ?_) ?_); (exact (by first | ((repeat (first | assumption | exact Below.refl _ _ | apply below_drew1 | apply below_alloc1)); done))); rintro e wc ⟨he, hbq⟩; subst he; have hBc : Below wr.heap.size wr wc := Below.after (by first | ((repeat (first | assumption | exact Below.refl _ _ | apply below_drew1 | apply below_alloc1)); done)) hbq)
          | (go_at_call 125; go_split_ands; (with_reducible refine Calls.mono (HDE.out _ ?_) ?_); (exact (by first | ((repeat (first | assumption | exact Below.refl _ _ | apply below_drew1 | apply below_alloc1)); done))); rintro e wd ⟨he, hbq⟩; subst he; have hBd : Below wr.heap.size wr wd := Below.after (by first | ((repeat (first | assumption | exact Below.refl _ _ | apply below_drew1 | apply below_alloc1)); done)) hbq))
      all_goals
        have HBd := Lib.hid (HB.out.trans (hBd.mono HB.out.size))
        go_wp2_with fail
        go_roundg k1
        case measure => omega
        case rel => exact ⟨by omega, by rw [HIi.out]; rfl, HBd.out⟩
end Go.Proofs.YticdmglondpgaaaGreat

/-! ## Forest1: Package forest: Check, bare; the trees of a forest, plain. No condition beyond the words. -/
namespace Go.Proofs.YticdmglondpgaaaGreat
open Go.RowKit
set_option linter.unusedVariables false
set_option maxRecDepth 100000
set_option linter.unusedSimpArgs false

attribute [local go_sem] Oper.semAt_some

/-- The trees of a forest, by definition. -/
def forestT (rows : List (List Int)) (dim leaf dp : Nat) (sc : Bool) (sd : Int) (ds : List Int) (T : Nat) : List Tr := (List.range T).map fun (k : Nat) => (growT rows dim leaf (offT sc sd ds k T) dp (upTo rows.length) 0).1
theorem forestT_length (rows : List (List Int)) (dim leaf dp : Nat) (sc : Bool) (sd : Int) (ds : List Int) (T : Nat) : (forestT rows dim leaf dp sc sd ds T).length = T := by simp [forestT]
theorem upTo_in {n : Nat} {x : Int} (h : x ∈ upTo n) : 0 ≤ x ∧ x < n := by
  simp only [upTo, List.mem_map, List.mem_range] at h
  obtain ⟨i, hi, rfl⟩ := h
  omega
theorem growT_grown {rows : List (List Int)} {dim leaf dp : Nat} (s : Nat → Int) (h1 : 1 ≤ dim) (h2 : dim ≤ 1024) (hr : ∀ r ∈ rows, B20 r ∧ r.length = dim) (hl : 1 ≤ leaf) (hd : dp ≤ 64) (n1 : 1 ≤ rows.length) (n2 : rows.length ≤ 64) :
    Grown (growT rows dim leaf s dp (upTo rows.length) 0).1 rows.length dim ∧ (growT rows dim leaf s dp (upTo rows.length) 0).1.depth ≤ dp :=
  ⟨⟨growT_ok h1 h2 hr leaf s dp _ 0 fun id hid => upTo_in hid, Nat.le_trans (growT_depth rows dim leaf s dp _ 0) hd, growT_ids rows dim leaf s dp _ 0, (growT_leaves rows dim s hl dp _ 0 (by rw [upTo_length]; exact n1)).1, n1, n2, h1, h2⟩, growT_depth rows dim leaf s dp _ 0⟩
theorem forestG {rows : List (List Int)} {dim leaf dp : Nat} (sc : Bool) (sd : Int) (ds : List Int) {T: Nat} (h1 : 1 ≤ dim) (h2 : dim ≤ 1024) (hr : ∀ r ∈ rows, B20 r ∧ r.length = dim) (hl : 1 ≤ leaf) (hl2 : leaf ≤ 1024) (hd : dp ≤ 64) (t1 : 1 ≤ T) (t2 : T ≤ 256) (n1 : 1 ≤ rows.length) (n2 : rows.length ≤ 64) :
    ForestG (forestT rows dim leaf dp sc sd ds T) rows.length dim leaf dp where
  g := fun t ht => by
    obtain ⟨k, _, rfl⟩ := List.mem_map.1 ht
    exact growT_grown _ h1 h2 hr hl hd n1 n2
  l1 := hl
  l2 := hl2
  d := hd
  t1 := by rw [forestT_length]; exact t1
  t2 := by rw [forestT_length]; exact t2
  n1 := n1
  n2 := n2
set_option maxHeartbeats 1600000 in
theorem FCheck_calls (bI dim : Nat) (rows : List (List Int)) (t l d : Int) (sc : Bool) (sd : Int) (DA : Option Addr) (dn dc : Nat) (w : World) (hI : It w bI dim rows) :
    Calls Tryz.prog 60 #[.pointer (some ⟨bI, 0, none⟩), .agg #[.int .i64 t, .int .i64 l, .int .i64 d, .bool sc, .int .u64 sd, .slice DA dn dc]] w fun e w' => e = .returned (.int .i64 (treeErr rows.length t l d)) ∧ Below w.heap.size w w' := by
  obtain ⟨n, hn⟩ : ∃ n, rows.length = n := ⟨_, rfl⟩
  have HLN := Lib.hid (fun W (h : Below w.heap.size w W) => hn ▸ Len_calls bI dim rows W (hI.below h))
  rw [hn]
  obtain ⟨f, hf⟩ : ∃ f, growErr t l d = f := ⟨_, rfl⟩
  have HF := Lib.hid hf
  clear hI hn hf
  go_enter Tryz.func60, Tryz.ntmps60
  go_wp2_with fail
  obtain ⟨w1, AW⟩ : ∃ W, w.alloc (.cells #[.int .i64 t, .int .i64 l, .int .i64 d, .bool sc, .int .u64 sd, .slice DA dn dc] 28) = W := ⟨_, rfl⟩
  have Ab : Below w.heap.size w w1 := by rw [← AW]; exact below_alloc1 (Below.refl _ _) _
  have Ax : w1.heap[w.heap.size]? = some (.cells #[.int .i64 t, .int .i64 l, .int .i64 d, .bool sc, .int .u64 sd, .slice DA dn dc] 28 (0, 0)) := by rw [← AW]; exact heap_alloc_new _ _
  rw [AW]
  clear AW
  refine (GCheck_calls t l d sc sd DA dn dc w1).mono ?_
  rintro e w2 ⟨he, hb2⟩
  rw [HF.out] at he
  subst he
  have AB2 := Lib.hid (Ab.trans (hb2.mono Ab.size))
  clear Ab Ax hb2
  by_cases hfz : f = 0
  · subst hfz
    go_wp2_with fail
    refine (HLN.out w2 AB2.out).mono ?_
    rintro e w3 ⟨he, nq, hw3⟩
    subst he
    have hb3 : Below w2.heap.size w2 w3 := by rw [hw3]; exact below_drewN_self _ _
    have AB3 := Lib.hid (AB2.out.trans (hb3.mono AB2.out.size))
    clear hw3 hb3
    by_cases hn : n = 0
    · subst hn
      go_wp2_with fail
      go_ret
      exact ⟨by unfold treeErr; rw [if_neg (by rw [HF.out]; simp), if_pos rfl]; rfl, AB3.out⟩
    · have hz : ((n : Int) == 0) = false := by simp; omega
      have hz2 : ¬ (n : Int) = 0 := by omega
      go_wp2_with fail
      go_ret
      exact ⟨by unfold treeErr; rw [if_neg (by rw [HF.out]; simp), if_neg hn]; rfl, AB3.out⟩
  · have hfz' : (f != 0) = true := by simp [hfz]
    go_wp2_with fail
    go_ret
    exact ⟨by unfold treeErr; rw [HF.out, if_pos hfz]; rfl, AB2.out⟩
theorem bare_calls (bI : Nat) (t l d : Int) (sc : Bool) (sd : Int) (DA : Option Addr) (dn dc : Nat) (w : World) :
    Calls Tryz.prog 63 #[.pointer (some ⟨bI, 0, none⟩), .agg #[.int .i64 t, .int .i64 l, .int .i64 d, .bool sc, .int .u64 sd, .slice DA dn dc]] w fun e w' => e = .returned (.agg #[.pointer (some ⟨bI, 0, none⟩), .int .i64 l, .int .i64 d, .slice none 0 0]) ∧ Below w.heap.size w w' := by
  go_enter Tryz.func63, Tryz.ntmps63
  go_wp2_with fail
  refine bodyPost_ret (v := .agg #[.pointer (some ⟨bI, 0, none⟩), .int .i64 l, .int .i64 d, .slice none 0 0]) ?_ rfl ?_
  · rw [results_cell1 rfl]
    go_simp
  · exact ⟨rfl, below_alloc1 (below_alloc1 (Below.refl _ _) _) _⟩
end Go.Proofs.YticdmglondpgaaaGreat

/-! ## Forest2: Package forest: Build. Conditions: the items, and the draws, read as the lists; no more than 400 items. -/
namespace Go.Proofs.YticdmglondpgaaaGreat
open Go.RowKit
set_option linter.unusedVariables false
set_option maxRecDepth 100000
set_option linter.unusedSimpArgs false

attribute [local go_sem] Oper.semAt_some

theorem RdN.weak {w : World} {P P' : Nat → Prop} {v : Value} {N : List NodeV} (h : RdN w P v N) (hp : ∀ b, b < w.heap.size → P' b → P b) : RdN w P' v N := by
  obtain ⟨A, c, al, h1, h2, h3, h4, h5, h6⟩ := h
  refine ⟨A, c, al, h1, h2, h3, h4, fun hl => ?_, fun a ha => ?_⟩
  · obtain ⟨g, e, hg, hlt⟩ := h5 hl
    exact ⟨g, e, fun h => hg (hp g hlt h), hlt⟩
  · obtain ⟨⟨a1, a2, a3⟩, ⟨b1, b2, b3⟩⟩ := h6 a ha
    exact ⟨⟨a1, a2, fun ad hl e => ⟨Nat.zero_le _, fun h => (a3 ad hl e).2 (hp _ (Rd.blk_lt a2 ad hl e) h)⟩⟩, ⟨b1, b2, fun ad hl e => ⟨Nat.zero_le _, fun h => (b3 ad hl e).2 (hp _ (Rd.blk_lt b2 ad hl e) h)⟩⟩⟩
/-- A row of trees that the call owns: its slices vs; the trees' blocks lie from b0 on, below H. -/
def OwnT (W : World) (b0 H : Nat) (v : Value) (vs : List Value) (ts : List Tr) : Prop :=
  vs.length = ts.length ∧ W.ownsRow b0 48 1 v ts.length vs ∧ (∀ k, v.ownBlock = some k → k < H) ∧ H ≤ W.heap.size ∧
    ∀ (j : Nat) (t : Tr), ts[j]? = some t → ∃ B c lo hi, vs[j]? = some (.slice B t.size c) ∧ RdN W (fun b => b < lo ∨ hi ≤ b) (.slice B (t.lay 0).length c) (t.lay 0) ∧ b0 ≤ lo ∧ hi ≤ H ∧ ∀ k, v.ownBlock = some k → k < lo ∨ hi ≤ k
theorem OwnT.nil (W : World) (b0 H : Nat) (h : H ≤ W.heap.size) : OwnT W b0 H (.slice none 0 0) [] [] :=
  ⟨rfl, World.ownsRow_nil _ _ _ _, fun k hk => by simp [Value.ownBlock] at hk, h, fun j t h => by simp at h⟩
theorem OwnT.only {W W' : World} {S : Nat → Prop} {b0 H : Nat} {v : Value} {vs : List Value} {ts : List Tr} (h : OwnT W b0 H v vs ts) (ho : Only S W W') (hs : ∀ k, b0 ≤ k → k < H → ¬ S k) : OwnT W' b0 H v vs ts := by
  obtain ⟨h1, h2, h3, h4, h5⟩ := h
  refine ⟨h1, row_only h2 ho fun k hk => hs k (own_base h2 k hk) (h3 k hk), h3, Nat.le_trans h4 ho.size, fun j t ht => ?_⟩
  obtain ⟨B, c, lo, hi, e1, e2, e3, e4, e5⟩ := h5 j t ht
  refine ⟨B, c, lo, hi, e1, e2.only ho fun b hb => ?_, e3, e4, e5⟩
  rcases Nat.lt_or_ge b lo with h | h
  · exact .inl h
  · rcases Nat.lt_or_ge b hi with h' | h'
    · exact absurd hb (hs b (by omega) (by omega))
    · exact .inr h'
theorem OwnT.wide {W : World} {b0 H H' : Nat} {v : Value} {vs : List Value} {ts : List Tr} (h : OwnT W b0 H v vs ts) (h1 : H ≤ H') (h2 : H' ≤ W.heap.size) : OwnT W b0 H' v vs ts := by
  obtain ⟨a1, a2, a3, a4, a5⟩ := h
  refine ⟨a1, a2, fun k hk => by have := a3 k hk; omega, h2, fun j t ht => ?_⟩
  obtain ⟨B, c, lo, hi, e1, e2, e3, e4, e5⟩ := a5 j t ht
  exact ⟨B, c, lo, hi, e1, e2, e3, by omega, e5⟩
theorem OwnT.push {W1 W2 : World} {b0 H lo hi k0 : Nat} {v v' : Value} {vs : List Value} {ts : List Tr} {t : Tr} {B : Option Addr} {c : Nat} (h : OwnT W1 b0 H v vs ts) (hH : H ≤ lo) (hN : RdN W1 (fun b => b < lo ∨ hi ≤ b) (.slice B (t.lay 0).length c) (t.lay 0)) (hlo : b0 ≤ lo) (hhi : hi ≤ W1.heap.size)
    (hrow : W2.ownsRow b0 48 1 v' (ts.length + 1) (vs ++ [.slice B t.size c])) (hob : Only (OwnB v) W1 W2) (hv : v'.ownBlock = v.ownBlock ∨ v'.ownBlock = some k0) (hk0 : W1.heap.size ≤ k0) : OwnT W2 b0 W2.heap.size v' (vs ++ [.slice B t.size c]) (ts ++ [t]) := by
  obtain ⟨h1, h2, h3, h4, h5⟩ := h
  have hz := hob.size
  have hvk : ∀ k, v'.ownBlock = some k → v.ownBlock = some k ∨ W1.heap.size ≤ k := fun k hk => by
    rcases hv with e | e
    · exact .inl (e ▸ hk)
    · rw [e] at hk; injection hk with hk; subst hk; exact .inr hk0
  refine ⟨by simp [h1], by rw [List.length_append]; exact hrow, fun k hk => ?_, Nat.le_refl _, fun j u hu => ?_⟩
  · exact row_lt hrow k hk
  · rcases Nat.lt_or_ge j ts.length with hj | hj
    · rw [List.getElem?_append_left hj] at hu
      obtain ⟨B', c', lo', hi', e1, e2, e3, e4, e5⟩ := h5 j u hu
      refine ⟨B', c', lo', hi', by rw [List.getElem?_append_left (by omega)]; exact e1, e2.only hob fun b hb => e5 b hb, e3, by omega, fun k hk => ?_⟩
      rcases hvk k hk with h | h
      · exact e5 k h
      · exact .inr (by omega)
    · have hj2 : j = ts.length := by
        have := (List.getElem?_eq_some_iff.1 hu).1
        simp at this; omega
      subst hj2
      rw [List.getElem?_append_right (Nat.le_refl _)] at hu
      simp at hu
      subst hu
      refine ⟨B, c, lo, hi, by rw [← h1, List.getElem?_append_right (Nat.le_refl _)]; simp, hN.only hob fun b hb => .inl (by have := h3 b hb; omega), hlo, by omega, fun k hk => ?_⟩
      rcases hvk k hk with h | h
      · exact .inl (by have := h3 k h; omega)
      · exact .inr (by omega)
theorem OwnT.shape {W : World} {b0 H : Nat} {v : Value} {vs : List Value} {ts : List Tr} (h : OwnT W b0 H v vs ts) : ∃ A c, v = .slice A ts.length c := by
  rcases h.2.1.2 with ⟨e, hn⟩ | ⟨g, cap, cur, e, _⟩
  · exact ⟨none, 0, by rw [e, hn]⟩
  · exact ⟨_, _, e⟩
theorem OwnT.rdt {W : World} {b0 H : Nat} {A : Option Addr} {c n : Nat} {vs : List Value} {ts : List Tr} (h : OwnT W b0 H (.slice A n c) vs ts) : RdT W A ts := by
  obtain ⟨h1, h2, h3, h4, h5⟩ := h
  intro j t ht
  obtain ⟨B, c', lo, hi, e1, e2, _⟩ := h5 j t ht
  have hj : j < ts.length := (List.getElem?_eq_some_iff.1 ht).1
  rcases h2.2 with ⟨e, hn⟩ | ⟨g, cap, cur, e, hb, hg, hc, hm, hsz, htk⟩
  · omega
  · injection e with e _ _
    subst e
    refine ⟨_, B, c', rfl, ?_, e2.weak fun b hlt hf => hf.elim⟩
    rw [add_plain, ← e1, ← htk]
    simp [World.cell?, hg, hj]
/-- What Build leaves. -/
def BuildPost (w : World) (bI dim : Nat) (rows : List (List Int)) (t l d : Int) (sc : Bool) (sd : Int) (ds : List Int) (e : Ending) (w' : World) : Prop :=
  ∃ fI TA tn tc, ∃ lf dp : Int, e = .returned (.tuple #[.agg #[.pointer fI, .int .i64 lf, .int .i64 dp, .slice TA tn tc], .int .i64 (treeErr rows.length t l d)]) ∧ Below w.heap.size w w' ∧
    (treeErr rows.length t l d ≠ 0 → fI = none ∧ lf = 0 ∧ dp = 0 ∧ TA = none ∧ tn = 0 ∧ tc = 0) ∧
    (treeErr rows.length t l d = 0 → fI = some ⟨bI, 0, none⟩ ∧ lf = l ∧ dp = d ∧ tn = t.toNat ∧ ∃ vs b0 H, w.heap.size ≤ b0 ∧ OwnT w' b0 H (.slice TA tn tc) vs (forestT rows dim l.toNat d.toNat sc sd ds t.toNat))
theorem treeErr_zero {n : Nat} {t l d : Int} (h : treeErr n t l d = 0) : 1 ≤ l ∧ l ≤ 1024 ∧ 0 ≤ d ∧ d ≤ 64 ∧ 1 ≤ t ∧ t ≤ 256 ∧ 1 ≤ n := by
  unfold treeErr at h
  split at h
  · omega
  · rename_i h1
    have := growErr_zero (Classical.not_not.1 h1)
    split at h <;> omega
theorem infoTs : (Tryz.prog.info? 48).map (fun i => (i.zero, i.size, i.bytes)) = some (some (.slice none 0 0), 1, 24) := by kernel_rfl
/-- Between two rounds of Build. -/
structure FB (w : World) (bI bQ bP bR bF b0 : Nat) (ps : Array Value) (l d : Int) (v : Value) (vs : List Value) (ts : List Tr) (W : World) : Prop where
  bel : Below w.heap.size w W
  bq : W.heap[bQ]? = some (.cells #[.pointer (some ⟨bI, 0, none⟩)] 34 (0, 0))
  bp : W.heap[bP]? = some (.cells ps 28 (0, 0))
  br : W.heap[bR]? = some (.cells #[.pointer none, .int .i64 0, .int .i64 0, .slice none 0 0] 61 (0, 0))
  bf : W.heap[bF]? = some (.cells #[.pointer (some ⟨bI, 0, none⟩), .int .i64 l, .int .i64 d, v] 61 (0, 0))
  own : OwnT W b0 W.heap.size v vs ts
theorem FB.only {w A B : World} {S : Nat → Prop} {bI bQ bP bR bF b0 : Nat} {ps : Array Value} {l d : Int} {v : Value} {vs : List Value} {ts : List Tr} (h : FB w bI bQ bP bR bF b0 ps l d v vs ts A) (ho : Only S A B) (h0 : ∀ k, k < w.heap.size ∨ k = bQ ∨ k = bP ∨ k = bR ∨ k = bF ∨ (b0 ≤ k ∧ k < A.heap.size) → ¬ S k) : FB w bI bQ bP bR bF b0 ps l d v vs ts B where
  bel := h.bel.trans (ho.below h.bel.size fun k hk => h0 k (.inl hk))
  bq := ho.obj h.bq (h0 _ (.inr (.inl rfl)))
  bp := ho.obj h.bp (h0 _ (.inr (.inr (.inl rfl))))
  br := ho.obj h.br (h0 _ (.inr (.inr (.inr (.inl rfl)))))
  bf := ho.obj h.bf (h0 _ (.inr (.inr (.inr (.inr (.inl rfl))))))
  own := (h.own.only ho fun k h1 h2 => h0 k (.inr (.inr (.inr (.inr (.inr ⟨h1, h2⟩)))))).wide ho.size (Nat.le_refl _)
set_option maxHeartbeats 6400000 in
set_option maxRecDepth 100000 in
theorem Build_calls (bI dim : Nat) (rows : List (List Int)) (t l d : Int) (sc : Bool) (sd : Int) (DA : Option Addr) (dc : Nat) (ds : List Int) (w : World) (hI : It w bI dim rows) (hr : ∀ r ∈ rows, R32 r) (hlen : rows.length ≤ 400) (hD : Rd w .u64 DA ds) (hu : U64 ds) (hdl : ds.length ≤ 1000000) :
    Calls Tryz.prog 31 #[.pointer (some ⟨bI, 0, none⟩), .agg #[.int .i64 t, .int .i64 l, .int .i64 d, .bool sc, .int .u64 sd, .slice DA ds.length dc]] w (BuildPost w bI dim rows t l d sc sd ds) := by
  have HI := Lib.hid hI
  have HR := Lib.hid hr
  have HD := Lib.hid hD
  have HU := Lib.hid hu
  obtain ⟨m, hm⟩ : ∃ m, ds.length = m := ⟨_, rfl⟩
  have HM := Lib.hid hm
  obtain ⟨f, hf⟩ : ∃ f, treeErr rows.length t l d = f := ⟨_, rfl⟩
  have HF := Lib.hid hf
  have HFC := Lib.hid (fun W (h : Below w.heap.size w W) => hf ▸ hm ▸ FCheck_calls bI dim rows t l d sc sd DA ds.length dc W (hI.below h))
  have HLEN := Lib.hid hlen
  rw [hm] at hdl ⊢
  clear hI hr hD hu hm hf hlen
  refine (callsIn_wide (n := 5)).1 ?_
  refine callsIn_of_wp_marks Tryz.func31 rfl trivial ?_ rfl
  refine wpIn_wide.2 ?_
  simp only [Tryz.ntmps31, List.size_toArray, List.length_cons, List.length_nil, Nat.reduceAdd, Nat.reduceSub, Array.replicate_succ, Array.replicate_zero, List.push_toArray, List.append_toArray, List.nil_append, List.cons_append]
  go_wp2_with fail
  obtain ⟨w1, hw1⟩ : ∃ W, (((w.alloc (.cells #[.pointer (some ⟨bI, 0, none⟩)] 34)).alloc (.cells #[.int .i64 t, .int .i64 l, .int .i64 d, .bool sc, .int .u64 sd, .slice DA m dc] 28)).alloc (.cells #[.pointer none, .int .i64 0, .int .i64 0, .slice none 0 0] 61)) = W := ⟨_, rfl⟩
  have hb1 : Below w.heap.size w w1 := by rw [← hw1]; exact below_alloc1 (below_alloc1 (below_alloc1 (Below.refl _ _) _) _) _
  have hz1 : w1.heap.size = w.heap.size + 3 := by rw [← hw1]; simp
  have x1 : w1.heap[w.heap.size]? = some (.cells #[.pointer (some ⟨bI, 0, none⟩)] 34 (0, 0)) := by
    have h := heap_alloc_new w (.cells #[.pointer (some ⟨bI, 0, none⟩)] 34)
    rw [← hw1]; exact obj_below (B := w.heap.size + 1) (((Below.refl _ _).alloc (by simp) _).alloc (by simp) _) h (by omega)
  have x2 : w1.heap[w.heap.size + 1]? = some (.cells #[.int .i64 t, .int .i64 l, .int .i64 d, .bool sc, .int .u64 sd, .slice DA m dc] 28 (0, 0)) := by
    have h := heap_alloc_new (w.alloc (.cells #[.pointer (some ⟨bI, 0, none⟩)] 34)) (.cells #[.int .i64 t, .int .i64 l, .int .i64 d, .bool sc, .int .u64 sd, .slice DA m dc] 28)
    rw [World.size_alloc] at h
    rw [← hw1]; exact obj_below (B := w.heap.size + 2) ((Below.refl _ _).alloc (by simp) _) h (by omega)
  have x3 : w1.heap[w.heap.size + 1 + 1]? = some (.cells #[.pointer none, .int .i64 0, .int .i64 0, .slice none 0 0] 61 (0, 0)) := by
    have h := heap_alloc_new ((w.alloc (.cells #[.pointer (some ⟨bI, 0, none⟩)] 34)).alloc (.cells #[.int .i64 t, .int .i64 l, .int .i64 d, .bool sc, .int .u64 sd, .slice DA m dc] 28)) (.cells #[.pointer none, .int .i64 0, .int .i64 0, .slice none 0 0] 61)
    rw [World.size_alloc, World.size_alloc] at h
    rw [← hw1]; exact h
  rw [hw1]
  clear hw1
  refine (HFC.out w1 hb1).mono ?_
  rintro e w2 ⟨he, hb2⟩
  subst he
  have B2 := Lib.hid (hb1.trans (hb2.mono hb1.size))
  have X1 := Lib.hid (obj_below hb2 x1 (obj_lt x1))
  have X2 := Lib.hid (obj_below hb2 x2 (obj_lt x2))
  have X3 := Lib.hid (obj_below hb2 x3 (obj_lt x3))
  have hz2 : w.heap.size + 3 ≤ w2.heap.size := by have := hb2.size; omega
  clear hb1 hb2 x1 x2 x3 hz1 HFC
  by_cases hfz : f = 0
  case neg =>
    have hfz' : (f != 0) = true := by simp [hfz]
    have c3 : ∀ i, w2.frozen? ⟨w.heap.size + 1 + 1, i, none⟩ = false := fun i => by have h := X3.out; simp [World.frozen?, h]
    have c30 : w2.cell? ⟨w.heap.size + 1 + 1, 0, none⟩ = some (.pointer none) := by have h := X3.out; simp [World.cell?, h]
    have c31 : w2.cell? ⟨w.heap.size + 1 + 1, 1, none⟩ = some (.int .i64 0) := by have h := X3.out; simp [World.cell?, h]
    have c32 : w2.cell? ⟨w.heap.size + 1 + 1, 2, none⟩ = some (.int .i64 0) := by have h := X3.out; simp [World.cell?, h]
    have c33 : w2.cell? ⟨w.heap.size + 1 + 1, 3, none⟩ = some (.slice none 0 0) := by have h := X3.out; simp [World.cell?, h]
    go_wp2_with fail
    refine ⟨.tuple #[.agg #[.pointer none, .int .i64 0, .int .i64 0, .slice none 0 0], .int .i64 f], ?_, ?_⟩
    · rw [results_cell_tmp rfl]
      go_simp
    · unfold BuildPost; rw [HF.out]
      exact ⟨none, none, 0, 0, 0, 0, rfl, below_set (below_set (below_set (below_set B2.out (by omega) _ _) (by omega) _ _) (by omega) _ _) (by omega) _ _, fun _ => ⟨rfl, rfl, rfl, rfl, rfl, rfl⟩, fun h => absurd h hfz⟩
  subst hfz
  have hpar := treeErr_zero HF.out
  have c1 : w2.cell? ⟨w.heap.size, 0, none⟩ = some (.pointer (some ⟨bI, 0, none⟩)) := by have h := X1.out; simp [World.cell?, h]
  have p0 : w2.cell? ⟨w.heap.size + 1, 0, none⟩ = some (.int .i64 t) := by have h := X2.out; simp [World.cell?, h]
  have p1 : w2.cell? ⟨w.heap.size + 1, 1, none⟩ = some (.int .i64 l) := by have h := X2.out; simp [World.cell?, h]
  have p2 : w2.cell? ⟨w.heap.size + 1, 2, none⟩ = some (.int .i64 d) := by have h := X2.out; simp [World.cell?, h]
  have p3 : w2.cell? ⟨w.heap.size + 1, 3, none⟩ = some (.bool sc) := by have h := X2.out; simp [World.cell?, h]
  have p4 : w2.cell? ⟨w.heap.size + 1, 4, none⟩ = some (.int .u64 sd) := by have h := X2.out; simp [World.cell?, h]
  have p5 : w2.cell? ⟨w.heap.size + 1, 5, none⟩ = some (.slice DA m dc) := by have h := X2.out; simp [World.cell?, h]
  go_wp2_with fail
  refine (bare_calls bI t l d sc sd DA m dc w2).mono ?_
  rintro e w3 ⟨he, hb3⟩
  subst he
  have B3 := Lib.hid (B2.out.trans (hb3.mono B2.out.size))
  have X13 := Lib.hid (obj_below hb3 X1.out (obj_lt X1.out))
  have X23 := Lib.hid (obj_below hb3 X2.out (obj_lt X2.out))
  have X33 := Lib.hid (obj_below hb3 X3.out (obj_lt X3.out))
  have hz3 : w.heap.size + 3 ≤ w3.heap.size := by have := hb3.size; omega
  clear hb3 c1 p0 p1 p2 p3 p4 p5 X1 X2 X3 B2 hz2
  have p0 : ∀ o, (w3.alloc o).cell? ⟨w.heap.size + 1, 0, none⟩ = some (.int .i64 t) := fun o => by
    have h := X23.out
    exact (World.cell?_alloc_lt (o := o) w3 _ (by simp only; omega)).trans (by simp [World.cell?, h])
  have p3 : ∀ o, (w3.alloc o).cell? ⟨w.heap.size + 1, 3, none⟩ = some (.bool sc) := fun o => by
    have h := X23.out
    exact (World.cell?_alloc_lt (o := o) w3 _ (by simp only; omega)).trans (by simp [World.cell?, h])
  have p4 : ∀ o, (w3.alloc o).cell? ⟨w.heap.size + 1, 4, none⟩ = some (.int .u64 sd) := fun o => by
    have h := X23.out
    exact (World.cell?_alloc_lt (o := o) w3 _ (by simp only; omega)).trans (by simp [World.cell?, h])
  have p5 : ∀ o, (w3.alloc o).cell? ⟨w.heap.size + 1, 5, none⟩ = some (.slice DA m dc) := fun o => by
    have h := X23.out
    exact (World.cell?_alloc_lt (o := o) w3 _ (by simp only; omega)).trans (by simp [World.cell?, h])
  go_wp2_with fail
  obtain ⟨w4, hw4⟩ : ∃ W, w3.alloc (.cells #[.pointer (some ⟨bI, 0, none⟩), .int .i64 l, .int .i64 d, .slice none 0 0] 61) = W := ⟨_, rfl⟩
  have hb4 : Below w3.heap.size w3 w4 := by rw [← hw4]; exact below_alloc1 (Below.refl _ _) _
  have hz4 : w4.heap.size ≤ w3.heap.size + 1 ∧ w3.heap.size + 1 ≤ w4.heap.size := by rw [← hw4]; simp
  have x4 : w4.heap[w3.heap.size]? = some (.cells #[.pointer (some ⟨bI, 0, none⟩), .int .i64 l, .int .i64 d, .slice none 0 0] 61 (0, 0)) := by rw [← hw4]; exact heap_alloc_new _ _
  rw [hw4]
  have B4 := Lib.hid (B3.out.trans (hb4.mono B3.out.size))
  have X14 := Lib.hid (obj_below hb4 X13.out (obj_lt X13.out))
  have X24 := Lib.hid (obj_below hb4 X23.out (obj_lt X23.out))
  have X34 := Lib.hid (obj_below hb4 X33.out (obj_lt X33.out))
  have X44 := Lib.hid x4
  clear hw4 hb4 x4 p0 p3 p4 p5 X13 X23 X33
  refine (All_calls sc sd DA m dc t w4).mono ?_
  rintro e w5 ⟨he, hw5⟩
  subst he
  have hb5 : Below w4.heap.size w4 w5 := by rw [hw5]; exact below_alloc1 (below_alloc1 (Below.refl _ _) _) _
  have hz5 : w5.heap.size ≤ w4.heap.size + 2 ∧ w4.heap.size + 2 ≤ w5.heap.size := by rw [hw5]; simp
  have xD : w5.heap[w4.heap.size]? = some (.cells #[.bool sc, .int .u64 sd, .slice DA m dc] 26 (0, 0)) := by
    rw [hw5]; exact obj_below ((Below.refl _ _).alloc (Nat.le_refl _) _) (heap_alloc_new w4 _) (by simp)
  have xT : w5.heap[w4.heap.size + 1]? = some (.cells #[.int .i64 t] 3 (0, 0)) := by
    have h := heap_alloc_new (w4.alloc (.cells #[.bool sc, .int .u64 sd, .slice DA m dc] 26)) (.cells #[.int .i64 t] 3)
    rw [World.size_alloc] at h
    rw [hw5]; exact h
  have B5 := Lib.hid (B4.out.trans (hb5.mono B4.out.size))
  have HI0 := Lib.hid (show FB w bI w.heap.size (w.heap.size + 1) (w.heap.size + 1 + 1) w3.heap.size (w5.heap.size + 2) #[.int .i64 t, .int .i64 l, .int .i64 d, .bool sc, .int .u64 sd, .slice DA m dc] l d (.slice none 0 0) [] [] w5 from
    ⟨B5.out, obj_below hb5 X14.out (obj_lt X14.out), obj_below hb5 X24.out (obj_lt X24.out), obj_below hb5 X34.out (obj_lt X34.out), obj_below hb5 X44.out (obj_lt X44.out), OwnT.nil _ _ _ (Nat.le_refl _)⟩)
  have XD := Lib.hid xD
  have XT := Lib.hid xT
  clear hw5 hb5 xD xT X14 X24 X34 X44 B4
  obtain ⟨AI, cI, hitv⟩ := HI.out.v
  have HIT := Lib.hid hitv
  have hblk := fun k hk => hitv.blk k hk
  clear hitv
  obtain ⟨ts, hts⟩ : ∃ ts, forestT rows dim l.toNat d.toNat sc sd ds t.toNat = ts := ⟨_, rfl⟩
  have htl : ts.length = t.toNat := by rw [← hts, forestT_length]
  have HTS := Lib.hid hts
  have HTL := Lib.hid htl
  clear hts htl
  go_wp2_with fail
  refine (wpIn_wide (n := 5)).1 ?_
  refine wpIn_rangeD2 rfl (by omega) (gf := 118) (lb := #[.pointer (some ⟨w4.heap.size + 1, 0, none⟩), .pointer (some ⟨w4.heap.size, 0, none⟩)]) rfl trivial (enters_of Tryz.func118 (by kernel_rfl) rfl)
    (all_iter _ w4.heap.size (w4.heap.size + 1) sc sd DA dc ds t t.toNat w w5 rfl (by omega) B5.out HD.out HU.out (by rw [HM.out]; exact hdl) (by rw [HM.out]; exact XD.out) XT.out)
    (fun k h => h.elim) (fun h k => Only.trans h k) (fun W l o o' hl _ _ => KpB.putObj (by omega) (by omega) (by omega)) XS.putObj
    (fun xs A B h _ => h) (fun xs A B h _ => h) (fun _ => rfl)
    (fun pre W => ∃ v vs, FB w bI w.heap.size (w.heap.size + 1) (w.heap.size + 1 + 1) w3.heap.size (w5.heap.size + 2) #[.int .i64 t, .int .i64 l, .int .i64 d, .bool sc, .int .u64 sd, .slice DA m dc] l d v vs (ts.take pre.length) W)
    (fun c pre W => False) ?hI (fun c pre A B h hs => h) ⟨_, _, HI0.out⟩ ?a1 ?assign ?body ?done ?stop
  case hI =>
    rintro pre A B ⟨v, vs, h⟩ hs
    have hs' : Only (fun k => k = w5.heap.size + 1) A B := Only.mono hs fun k _ h => h.elim (fun h => h.elim) fun h => h
    exact ⟨v, vs, h.only hs' fun k hk e => by omega⟩
  case assign =>
    intro l x W K hK
    gi_wp2
    exact hK
  case body =>
    clear HI0 XD XT
    rintro l2 pre ⟨x1, T, a⟩ A0 W _ hlen hsz ⟨v, vs, q⟩ hst ⟨hx1, lo', hi', hlo, hhi, hat⟩
    have hs' : Only (fun k => k = w5.heap.size + 1) A0 W := Only.mono hst fun k _ h => h.elim (fun h => h.elim) fun h => h
    have r := q.only hs' fun k hk e => by omega
    have hown := q.own.only hs' fun k h1 h2 e => by omega
    simp only at hx1 hat
    subst hx1
    have hplt : pre.length < ts.length := by rw [HTL.out]; exact hlen
    obtain ⟨A1, cc1, rfl⟩ := hown.shape
    obtain ⟨n, hn⟩ : ∃ n, (ts.take pre.length).length = n := ⟨_, rfl⟩
    have hn2 : n = pre.length := by rw [← hn, List.length_take]; omega
    rw [hn] at hown r
    have htc := Tree_calls bI dim rows AI cI t l d sc sd DA m dc lo' hi' (.iface T (.pointer (some a))) (offT sc sd ds pre.length t) 0 W (HIT.out.only (S := fun _ => False) (Only.of_below r.bel) fun _ _ h => h) HR.out hat (by omega) HLEN.out
      (fun k hk h => by have := (hblk k hk).2; have := h.1; omega) hhi
    have hn256 : n ≤ 256 := by omega
    clear hn2
    have HTC := Lib.hid htc
    have HOWN := Lib.hid hown
    have R := Lib.hid r
    have HN := Lib.hid hn
    have c1 : W.cell? ⟨w.heap.size, 0, none⟩ = some (.pointer (some ⟨bI, 0, none⟩)) := by simp [World.cell?, r.bq]
    have hbp := r.bp
    have p0 : W.cell? ⟨w.heap.size + 1, 0, none⟩ = some (.int .i64 t) := by simp [World.cell?, hbp]
    have p1 : W.cell? ⟨w.heap.size + 1, 1, none⟩ = some (.int .i64 l) := by simp [World.cell?, hbp]
    have p2 : W.cell? ⟨w.heap.size + 1, 2, none⟩ = some (.int .i64 d) := by simp [World.cell?, hbp]
    have p3 : W.cell? ⟨w.heap.size + 1, 3, none⟩ = some (.bool sc) := by simp [World.cell?, hbp]
    have p4 : W.cell? ⟨w.heap.size + 1, 4, none⟩ = some (.int .u64 sd) := by simp [World.cell?, hbp]
    have p5 : W.cell? ⟨w.heap.size + 1, 5, none⟩ = some (.slice DA m dc) := by simp [World.cell?, hbp]
    clear htc hown hat r hst hs' q hn hbp
    gi_wp2
    refine ⟨trivial, (CallsIn.inRound l2 (callsIn_wide.2 HTC.out)).mono ?_⟩
    rintro e W1 ⟨vN, he, _, hgood⟩
    rw [HF.out] at he
    subst he
    obtain ⟨ho1, _, hon⟩ := hgood HF.out
    rw [growF_lay] at ho1
    dsimp only at ho1
    obtain ⟨tr, htr⟩ : ∃ tr, (growT rows dim l.toNat (offT sc sd ds pre.length t) d.toNat (upTo rows.length) 0).1 = tr := ⟨_, rfl⟩
    rw [htr] at ho1
    have htj : ts[pre.length]? = some tr := by
      rw [← HTS.out, ← htr]
      unfold forestT
      rw [List.getElem?_map, List.getElem?_range hlen, Option.map_some, show ((t.toNat : Nat) : Int) = t by omega]
    have htk : ts.take (pre.length + 1) = ts.take pre.length ++ [tr] := by rw [List.take_add_one, htj]; rfl
    obtain ⟨B, cB, rfl, hcB⟩ := ho1.shape
    have hlay : (tr.lay 0).length = tr.size := Tr.lay_length tr 0
    have hrd := (RdN.of_own ho1 (P := fun b => b < W.heap.size) (fun b h => h)).weak (P' := fun b => b < W.heap.size ∨ W1.heap.size ≤ b) (fun b hlt h => h.elim id fun h => by omega)
    have own1 := HOWN.out.only hon (fun k h1 h2 h => by have := h.1; omega)
    have hrow1 : W1.ownsRow (w5.heap.size + 2) 48 1 (.slice A1 n cc1) n vs := HN.out ▸ own1.2.1
    have bf1 := hon.obj R.out.bf fun h => by have := h.1; omega
    have hcf : W1.cell? ⟨w3.heap.size, 3, none⟩ = some (.slice A1 n cc1) := by simp [World.cell?, bf1]
    have HCX := Lib.hid (obj_below ((Below.refl W1.heap.size W1).alloc (Nat.le_refl _) (.cells #[.slice B tr.size cB] 48)) bf1 (obj_lt bf1))
    have hz1 := hon.size
    have hbz : w5.heap.size + 2 ≤ (W1.alloc (.cells #[.slice B tr.size cB] 48)).heap.size := by rw [World.size_alloc]; omega
    have hne : ¬ OwnB (.slice A1 n cc1) w3.heap.size := fun h => by have := own_base hrow1 _ h; omega
    have HRD := Lib.hid hrd
    have OWN1 := Lib.hid own1
    have HTK := Lib.hid htk
    have HROW1 := Lib.hid hrow1
    have HON := Lib.hid hon
    rw [hlay]
    clear ho1 htr htj hrd own1 bf1 hgood c1 p0 p1 p2 p3 p4 p5 HTC hrow1 hon htk
    gi_wp2_with (gi_at_builtin; refine wpListIn_app _ rfl (.tmp 37) (.tmp 39) 59 48 rfl (.slice none 0 0) 1 24 Tryz.underlying59 infoTs rfl (by omega) (by omega) (w5.heap.size + 2) (.slice A1 n cc1) n vs rfl (some ⟨W1.heap.size, 0, none⟩) 1 1 rfl (own_alloc1 HROW1.out _) hbz [.slice B tr.size cB] rfl (RdC.one _ _ _) (by intro u hu; rw [List.mem_singleton.1 hu]; rfl) (by omega) ?_; intro v1 W2 hrow hob hv hnil; obtain ⟨A2, c2, hv2, _⟩ := own_shape hrow; subst hv2; have HROW := Lib.hid hrow; have HOB := Lib.hid hob; have HV := Lib.hid hv; have hfz : W2.frozen? ⟨w3.heap.size, 3, none⟩ = false := free_blk (hob.obj HCX.out hne) 3; have hcw : W2.cell? ⟨w3.heap.size, 3, none⟩ = some (.slice A1 n cc1) := cell_blk (cs := [_, _, _, _]) (hob.obj HCX.out hne) 3; clear hrow hob hv hnil)
    obtain ⟨WE, hWE⟩ : ∃ WE, W2.setCell ⟨w3.heap.size, 3, none⟩ (.slice A2 (n + 1) c2) = WE := ⟨_, rfl⟩
    rw [hWE]
    have hW : Only (fun _ => False) W1 (W1.alloc (.cells #[.slice B tr.size cB] 48)) := Only.of_below (below_alloc1 (Below.refl _ _) _)
    have hset : Only (fun b => b = w3.heap.size) W2 WE := by rw [← hWE]; exact only_set _ _ _ _
    have hob5 : ∀ b, OwnB (.slice A1 n cc1) b → w5.heap.size + 2 ≤ b := fun b h => own_base HROW1.out b h
    have hall : Only (fun b => Within lo' hi' b ∨ OwnB (.slice A1 n cc1) b ∨ b = w3.heap.size) W WE :=
      ((HON.out.mono fun _ _ h => .inl h).trans (hW.mono fun _ _ h => h.elim)).trans ((HOB.out.mono fun _ _ h => .inr (.inl h)).trans (hset.mono fun _ _ h => .inr (.inr h)))
    have hnot : ∀ k, k < w5.heap.size + 2 → k ≠ w3.heap.size → ¬ (Within lo' hi' k ∨ OwnB (.slice A1 n cc1) k ∨ k = w3.heap.size) := fun k h1 h2 h => by
      rcases h with h | h | h
      · have := h.1; omega
      · have := hob5 k h; omega
      · exact h2 h
    have hzE := hall.size
    refine ⟨Keeps2.of_only hall (hnot _ (by omega) (by omega)) (hnot _ (by omega) (by omega)), hall.mono fun k _ h he => ?_, ?_⟩
    · rcases he with he | he | he <;> exact hnot k (by omega) (by omega) h
    · refine ⟨.slice A2 (n + 1) c2, vs ++ [.slice B tr.size cB], ?_⟩
      rw [List.length_append, List.length_singleton, HTK.out]
      refine ⟨R.out.bel.trans (hall.below R.out.bel.size fun k hk => hnot k (by omega) (by omega)), hall.obj R.out.bq (hnot _ (by omega) (by omega)), hall.obj R.out.bp (hnot _ (by omega) (by omega)), hall.obj R.out.br (hnot _ (by omega) (by omega)), ?_, ?_⟩
      · rw [← hWE]
        exact set_blk (cs := [_, _, _, _]) (HOB.out.obj HCX.out hne) 3 _
      · have hp := OwnT.push (W1 := W1.alloc (.cells #[.slice B tr.size cB] 48)) (W2 := W2) (lo := W.heap.size) (hi := W1.heap.size) (k0 := W1.heap.size + 1) (t := tr) (OWN1.out.only hW fun k _ _ h => h) hsz.2 (HRD.out.only hW fun b h => h.elim) (by omega) (by rw [World.size_alloc]; omega) (by rw [HN.out]; exact HROW.out) HOB.out (by
          have h := HV.out
          rw [World.size_alloc] at h
          exact h) (by simp)
        exact (hp.only hset fun k h1 h2 h => by omega).wide hset.size (Nat.le_refl _)
  case done =>
    rintro _ xs W rfl hxs ⟨v, vs, q⟩ hK
    clear HI0 XD XT
    rw [hxs, ← HTL.out, List.take_length] at q
    obtain ⟨A1, cc1, rfl⟩ := q.own.shape
    have Q := Lib.hid q
    have HK := Lib.hid hK
    have hbf := q.bf
    have hbr := q.br
    have f0 : W.cell? ⟨w3.heap.size, 0, none⟩ = some (.pointer (some ⟨bI, 0, none⟩)) := by simp [World.cell?, hbf]
    have f1 : W.cell? ⟨w3.heap.size, 1, none⟩ = some (.int .i64 l) := by simp [World.cell?, hbf]
    have f2 : W.cell? ⟨w3.heap.size, 2, none⟩ = some (.int .i64 d) := by simp [World.cell?, hbf]
    have f3 : W.cell? ⟨w3.heap.size, 3, none⟩ = some (.slice A1 ts.length cc1) := by simp [World.cell?, hbf]
    have r0 : W.cell? ⟨w.heap.size + 1 + 1, 0, none⟩ = some (.pointer none) := by simp [World.cell?, hbr]
    have r1 : W.cell? ⟨w.heap.size + 1 + 1, 1, none⟩ = some (.int .i64 0) := by simp [World.cell?, hbr]
    have r2 : W.cell? ⟨w.heap.size + 1 + 1, 2, none⟩ = some (.int .i64 0) := by simp [World.cell?, hbr]
    have r3 : W.cell? ⟨w.heap.size + 1 + 1, 3, none⟩ = some (.slice none 0 0) := by simp [World.cell?, hbr]
    have rf : ∀ i, W.frozen? ⟨w.heap.size + 1 + 1, i, none⟩ = false := fun i => by simp [World.frozen?, hbr]
    clear q hK hbf hbr hxs
    have BR := Lib.hid Q.out.br
    go_wp2_with fail
    obtain ⟨WE, hWE⟩ : ∃ X, ((((W.setCell ⟨w.heap.size + 1 + 1, 0, none⟩ (.pointer (some ⟨bI, 0, none⟩))).setCell ⟨w.heap.size + 1 + 1, 1, none⟩ (.int .i64 l)).setCell ⟨w.heap.size + 1 + 1, 2, none⟩ (.int .i64 d)).setCell ⟨w.heap.size + 1 + 1, 3, none⟩ (.slice A1 ts.length cc1)) = X := ⟨_, rfl⟩
    have hon : Only (fun k => k = w.heap.size + 1 + 1) W WE := by
      rw [← hWE]; exact (((only_set _ _ _ _).trans (only_set _ _ _ _)).trans (only_set _ _ _ _)).trans (only_set _ _ _ _)
    have hbE : WE.heap[w.heap.size + 1 + 1]? = some (.cells #[.pointer (some ⟨bI, 0, none⟩), .int .i64 l, .int .i64 d, .slice A1 ts.length cc1] 61 (0, 0)) := by
      rw [← hWE]
      exact set_blk (cs := [_, _, _, _]) (set_blk (cs := [_, _, _, _]) (set_blk (cs := [_, _, _, _]) (set_blk (cs := [_, _, _, _]) BR.out 0 _) 1 _) 2 _) 3 _
    have hK := hon.obj HK.out (by omega)
    rw [hWE]
    obtain ⟨WF, hWF⟩ : ∃ X, WE.putObj w5.heap.size (.deferred none) = X := ⟨_, rfl⟩
    have hon2 : Only (fun k => k = w.heap.size + 1 + 1 ∨ k = w5.heap.size) W WF := by
      rw [← hWF]; exact (hon.mono fun _ _ h => .inl h).trans ((only_putObj _ _ _).mono fun _ _ h => .inr h)
    have hbF : WF.heap[w.heap.size + 1 + 1]? = some (.cells #[.pointer (some ⟨bI, 0, none⟩), .int .i64 l, .int .i64 d, .slice A1 ts.length cc1] 61 (0, 0)) := by
      rw [← hWF]; exact (World.putObj_heap_other (by omega)).trans hbE
    have g0 : WF.cell? ⟨w.heap.size + 1 + 1, 0, none⟩ = some (.pointer (some ⟨bI, 0, none⟩)) := by simp [World.cell?, hbF]
    have g1 : WF.cell? ⟨w.heap.size + 1 + 1, 1, none⟩ = some (.int .i64 l) := by simp [World.cell?, hbF]
    have g2 : WF.cell? ⟨w.heap.size + 1 + 1, 2, none⟩ = some (.int .i64 d) := by simp [World.cell?, hbF]
    have g3 : WF.cell? ⟨w.heap.size + 1 + 1, 3, none⟩ = some (.slice A1 ts.length cc1) := by simp [World.cell?, hbF]
    have hrun := run_takeDeferred (P := Tryz.prog) hK
    rw [hWF] at hrun
    refine ⟨by simp, .inl ⟨_, _, rfl, hrun, .tuple #[.agg #[.pointer (some ⟨bI, 0, none⟩), .int .i64 l, .int .i64 d, .slice A1 ts.length cc1], .int .i64 0], ?_, ?_⟩⟩
    · rw [results_cell_tmp rfl]
      clear hon2 hbF hbE hon hWE hrun hK HI
      go_simp
    · unfold BuildPost
      rw [HF.out]
      exact ⟨_, _, _, _, _, _, rfl, Q.out.bel.trans (hon2.below Q.out.bel.size fun k hk h => by omega), fun h => absurd rfl h, fun _ => ⟨rfl, rfl, rfl, HTL.out, vs, w5.heap.size + 2, W.heap.size, by omega, HTS.out ▸ (Q.out.own.only hon2 fun k h1 h2 h => by omega)⟩⟩
  case stop =>
    rintro b cc pre W _ _ h
    exact h.elim
end Go.Proofs.YticdmglondpgaaaGreat

/-! ## Index1: Package index: New, Add, build (alone), Build. Conditions: the cells are as the words say. -/
namespace Go.Proofs.YticdmglondpgaaaGreat
open Go.RowKit
set_option linter.unusedVariables false
set_option maxRecDepth 100000
set_option linter.unusedSimpArgs false

attribute [local go_sem] Oper.semAt_some

/-- The cells of an index. -/
def ixC (dim : Nat) (bI : Nat) (fI : Option Addr) (lf dp : Int) (vT : Value) (st : Bool) : Array Value := #[.int .i64 dim, .pointer (some ⟨bI, 0, none⟩), .pointer fI, .int .i64 lf, .int .i64 dp, vT, .bool st]
/-- An index of items, without a forest. -/
def Ix0 (w : World) (b dim bI : Nat) (rows : List (List Int)) (A : Option Addr) (c : Nat) : Prop :=
  w.heap[b]? = some (.cells (ixC dim bI none 0 0 (.slice none 0 0) false) 97 (0, 0)) ∧ ItV w bI dim rows A c ∧ ¬ ItB bI A rows.flatten.length c b
/-- The blocks of an index without a forest. -/
def Ix0B (b bI : Nat) (rows : List (List Int)) (A : Option Addr) (c : Nat) (k : Nat) : Prop := k = b ∨ ItB bI A rows.flatten.length c k
theorem Ix0.only {w w' : World} {S : Nat → Prop} {b dim bI : Nat} {rows : List (List Int)} {A : Option Addr} {c : Nat} (h : Ix0 w b dim bI rows A c) (ho : Only S w w') (hs : ∀ k, Ix0B b bI rows A c k → ¬ S k) : Ix0 w' b dim bI rows A c :=
  ⟨ho.obj h.1 (hs b (.inl rfl)), h.2.1.only ho fun k hk => hs k (.inr hk), h.2.2⟩
theorem INew_none (dim : Int) (w : World) (h : dim < 1 ∨ 1024 < dim) :
    Calls Tryz.prog 40 #[.int .i64 dim] w fun e w' => e = .returned (.tuple #[.pointer none, .int .i64 1]) ∧ w = w' := by
  have hn := New_none dim w h
  go_enter Tryz.func40, Tryz.ntmps40
  go_wp2_with fail
  refine hn.mono ?_
  rintro e w1 ⟨he, hw⟩
  subst he hw
  go_wp2_with fail
  go_ret2
  exact ⟨rfl, rfl⟩
theorem INew_calls (dim : Nat) (w : World) (h1 : 1 ≤ dim) (h2 : dim ≤ 1024) :
    Calls Tryz.prog 40 #[.int .i64 dim] w fun e w' => ∃ b bI A c, e = .returned (.tuple #[.pointer (some ⟨b, 0, none⟩), .int .i64 0]) ∧ Ix0 w' b dim bI [] A c ∧ (∀ k, Ix0B b bI [] A c k → w.heap.size ≤ k) ∧ Below w.heap.size w w' := by
  have hn := New_calls dim w h1 h2
  go_enter Tryz.func40, Tryz.ntmps40
  go_wp2_with fail
  refine hn.mono ?_
  rintro e w1 ⟨he, hit, hb1⟩
  subst he
  obtain ⟨A, c, hv⟩ := hit.v
  have HV := Lib.hid hv
  have HB1 := Lib.hid hb1
  clear hit hb1 hv
  go_wp2_with fail
  go_ret2
  have hb2 : Below w1.heap.size w1 (w1.alloc (.cells (ixC dim w.heap.size none 0 0 (.slice none 0 0) false) 97)) := below_alloc1 (Below.refl _ _) _
  have hv := HV.out.only (S := fun _ => False) (Only.of_below hb2) fun _ _ h => h
  have hbk := fun k hk => HV.out.blk k hk
  refine ⟨_, _, A, c, rfl, ⟨heap_alloc_new _ _, hv, fun hk => by have := (hbk _ hk).2; omega⟩, fun k hk => ?_, HB1.out.trans (hb2.mono HB1.out.size)⟩
  rcases hk with h | h
  · have := HB1.out.size; omega
  · exact (hbk k h).1
set_option maxHeartbeats 1600000 in
theorem IAdd_calls (b dim bI : Nat) (rows : List (List Int)) (A : Option Addr) (c : Nat) (B : Option Addr) (e : Nat) (ys : List Int) (w : World) (h : Ix0 w b dim bI rows A c) (hb : Rd w .i32 B ys) (hf : checkV ys dim = 0) (hn : rows.length < 1048576) :
    Calls Tryz.prog 41 #[.pointer (some ⟨b, 0, none⟩), .slice B ys.length e] w fun e w' => (∃ v, e = .returned v) ∧ ∃ A' c', Ix0 w' b dim bI (rows ++ [ys]) A' c' ∧ Only (Ix0B b bI rows A c) w w' ∧ ∀ k, Ix0B b bI (rows ++ [ys]) A' c' k → Ix0B b bI rows A c k ∨ w.heap.size ≤ k := by
  have hbk := h.1
  have c1 : w.cell? ⟨b, 1, none⟩ = some (.pointer (some ⟨bI, 0, none⟩)) := by simp [World.cell?, hbk, ixC]
  have c6 : w.cell? ⟨b, 6, none⟩ = some (.bool false) := by simp [World.cell?, hbk, ixC]
  have hadd := AddV_calls bI dim rows A c B e ys w h.2.1 hb hf hn
  have HA := Lib.hid hadd
  have H := Lib.hid h
  clear hadd h hb hbk hf
  go_enter Tryz.func41, Tryz.ntmps41
  go_wp2_with fail
  refine HA.out.mono ?_
  rintro e w1 ⟨he, A', c', hit, hon, hnew⟩
  subst he
  have HIT := Lib.hid hit
  have HON := Lib.hid hon
  have HNEW := Lib.hid hnew
  clear hit hon hnew
  go_wp2_with fail
  go_ret2
  have hlt := obj_lt H.out.1
  refine ⟨⟨_, rfl⟩, A', c', ⟨HON.out.obj H.out.1 H.out.2.2, HIT.out, fun hk => ?_⟩, HON.out.mono fun k _ h => .inr h, fun k hk => ?_⟩
  · rcases HNEW.out b hk with h | h
    · exact H.out.2.2 h
    · omega
  · rcases hk with h | h
    · exact .inl (.inl h)
    · exact (HNEW.out k h).imp .inr id
set_option maxHeartbeats 3200000 in
theorem Ibuild0_calls (b dim bI : Nat) (rows : List (List Int)) (A : Option Addr) (c : Nat) (t l d : Int) (sc : Bool) (sd : Int) (DA : Option Addr) (dc : Nat) (ds : List Int) (PI : Value) (w : World) (h : Ix0 w b dim bI rows A c) (hr : ∀ r ∈ rows, R32 r) (hlen : rows.length ≤ 400) (hD : Rd w .u64 DA ds) (hu : U64 ds) (hdl : ds.length ≤ 1000000) :
    Calls Tryz.prog 84 #[.pointer (some ⟨b, 0, none⟩), .agg #[.int .i64 t, .int .i64 l, .int .i64 d, .bool sc, .int .u64 sd, .slice DA ds.length dc], .int .i64 0, PI] w (BuildPost w bI dim rows t l d sc sd ds) := by
  have hbk := h.1
  have hbl := obj_lt hbk
  obtain ⟨m, hm⟩ : ∃ m, ds.length = m := ⟨_, rfl⟩
  have HM := Lib.hid hm
  have HB := Lib.hid (fun W (hb : Below w.heap.size w W) => hm ▸ Build_calls bI dim rows t l d sc sd DA dc ds W (h.2.1.it.below hb) hr hlen (hD.below hb) hu hdl)
  rw [hm]
  have HBK := Lib.hid hbk
  clear h hr hlen hD hu hdl hm hbk
  go_enter Tryz.func84, Tryz.ntmps84
  go_wp2_with fail
  obtain ⟨w1, hw1⟩ : ∃ W, ((w.alloc (.cells #[.int .i64 t, .int .i64 l, .int .i64 d, .bool sc, .int .u64 sd, .slice DA m dc] 28)).alloc (.cells #[.pointer none, .int .i64 0, .int .i64 0, .slice none 0 0] 61)) = W := ⟨_, rfl⟩
  have hb1 : Below w.heap.size w w1 := by rw [← hw1]; exact below_alloc1 (below_alloc1 (Below.refl _ _) _) _
  have x1 : w1.heap[w.heap.size]? = some (.cells #[.int .i64 t, .int .i64 l, .int .i64 d, .bool sc, .int .u64 sd, .slice DA m dc] 28 (0, 0)) := by
    have h := heap_alloc_new w (.cells #[.int .i64 t, .int .i64 l, .int .i64 d, .bool sc, .int .u64 sd, .slice DA m dc] 28)
    rw [← hw1]; exact obj_below (B := w.heap.size + 1) ((Below.refl _ _).alloc (by simp) _) h (by omega)
  have x2 : w1.heap[w.heap.size + 1]? = some (.cells #[.pointer none, .int .i64 0, .int .i64 0, .slice none 0 0] 61 (0, 0)) := by
    have h := heap_alloc_new (w.alloc (.cells #[.int .i64 t, .int .i64 l, .int .i64 d, .bool sc, .int .u64 sd, .slice DA m dc] 28)) (.cells #[.pointer none, .int .i64 0, .int .i64 0, .slice none 0 0] 61)
    rw [World.size_alloc] at h
    rw [← hw1]; exact h
  rw [hw1]
  have hz1 := obj_lt x2
  have xb := obj_below hb1 HBK.out hbl
  have cb0 : w1.cell? ⟨b, 1, none⟩ = some (.pointer (some ⟨bI, 0, none⟩)) := by simp [World.cell?, xb, ixC]
  have cb : w1.drew.cell? ⟨b, 1, none⟩ = some (.pointer (some ⟨bI, 0, none⟩)) := cb0
  have q0 : w1.cell? ⟨w.heap.size, 0, none⟩ = some (.int .i64 t) := by simp [World.cell?, x1]
  have p0 : w1.drew.cell? ⟨w.heap.size, 0, none⟩ = some (.int .i64 t) := q0
  have q1 : w1.cell? ⟨w.heap.size, 1, none⟩ = some (.int .i64 l) := by simp [World.cell?, x1]
  have p1 : w1.drew.cell? ⟨w.heap.size, 1, none⟩ = some (.int .i64 l) := q1
  have q2 : w1.cell? ⟨w.heap.size, 2, none⟩ = some (.int .i64 d) := by simp [World.cell?, x1]
  have p2 : w1.drew.cell? ⟨w.heap.size, 2, none⟩ = some (.int .i64 d) := q2
  have q3 : w1.cell? ⟨w.heap.size, 3, none⟩ = some (.bool sc) := by simp [World.cell?, x1]
  have p3 : w1.drew.cell? ⟨w.heap.size, 3, none⟩ = some (.bool sc) := q3
  have q4 : w1.cell? ⟨w.heap.size, 4, none⟩ = some (.int .u64 sd) := by simp [World.cell?, x1]
  have p4 : w1.drew.cell? ⟨w.heap.size, 4, none⟩ = some (.int .u64 sd) := q4
  have q5 : w1.cell? ⟨w.heap.size, 5, none⟩ = some (.slice DA m dc) := by simp [World.cell?, x1]
  have p5 : w1.drew.cell? ⟨w.heap.size, 5, none⟩ = some (.slice DA m dc) := q5
  have B1 : Below w.heap.size w w1.drew := below_drew1 hb1
  have X2 := Lib.hid (show w1.drew.heap[w.heap.size + 1]? = _ from x2)
  have hzd : w.heap.size + 1 < w1.drew.heap.size := hz1
  clear hw1 hb1 x1 x2 xb cb0 q0 q1 q2 q3 q4 q5
  go_region_with (go_at_call 31; refine Calls.mono (HB.out _ B1) ?_; rintro e w2 ⟨fI, TA, tn, tc, lf, dp, he, hb2, hbad, hgood⟩; subst he; have x2 := obj_below hb2 X2.out (obj_lt X2.out); have r0 : w2.cell? ⟨w.heap.size + 1, 0, none⟩ = some (.pointer none) := (by simp [World.cell?, x2]); have r1 : w2.cell? ⟨w.heap.size + 1, 1, none⟩ = some (.int .i64 0) := (by simp [World.cell?, x2]); have r2 : w2.cell? ⟨w.heap.size + 1, 2, none⟩ = some (.int .i64 0) := (by simp [World.cell?, x2]); have r3 : w2.cell? ⟨w.heap.size + 1, 3, none⟩ = some (.slice none 0 0) := (by simp [World.cell?, x2]); have rf : ∀ i, w2.frozen? ⟨w.heap.size + 1, i, none⟩ = false := (fun i => by simp [World.frozen?, x2]); have XR := Lib.hid x2; have HB2 := Lib.hid hb2; have HBAD := Lib.hid hbad; have HGOOD := Lib.hid hgood; clear x2 hb2 hbad hgood)
  all_goals
    go_wp2_with fail
    obtain ⟨WE, hWE⟩ : ∃ X, ((((w2.setCell ⟨w.heap.size + 1, 0, none⟩ (.pointer fI)).setCell ⟨w.heap.size + 1, 1, none⟩ (.int .i64 lf)).setCell ⟨w.heap.size + 1, 2, none⟩ (.int .i64 dp)).setCell ⟨w.heap.size + 1, 3, none⟩ (.slice TA tn tc)) = X := ⟨_, rfl⟩
    have hon : Only (fun k => k = w.heap.size + 1) w2 WE := by
      rw [← hWE]; exact (((only_set _ _ _ _).trans (only_set _ _ _ _)).trans (only_set _ _ _ _)).trans (only_set _ _ _ _)
    have hbE : WE.heap[w.heap.size + 1]? = some (.cells #[.pointer fI, .int .i64 lf, .int .i64 dp, .slice TA tn tc] 61 (0, 0)) := by
      rw [← hWE]
      exact set_blk (cs := [_, _, _, _]) (set_blk (cs := [_, _, _, _]) (set_blk (cs := [_, _, _, _]) (set_blk (cs := [_, _, _, _]) XR.out 0 _) 1 _) 2 _) 3 _
    (try rw [hWE])
    have g0 : WE.cell? ⟨w.heap.size + 1, 0, none⟩ = some (.pointer fI) := by simp [World.cell?, hbE]
    have g1 : WE.cell? ⟨w.heap.size + 1, 1, none⟩ = some (.int .i64 lf) := by simp [World.cell?, hbE]
    have g2 : WE.cell? ⟨w.heap.size + 1, 2, none⟩ = some (.int .i64 dp) := by simp [World.cell?, hbE]
    have g3 : WE.cell? ⟨w.heap.size + 1, 3, none⟩ = some (.slice TA tn tc) := by simp [World.cell?, hbE]
    refine bodyPost_ret (v := .tuple #[.agg #[.pointer fI, .int .i64 lf, .int .i64 dp, .slice TA tn tc], .int .i64 (treeErr rows.length t l d)]) ?_ rfl ?_
    · rw [results_cell_tmp rfl]
      clear hon hbE hWE
      go_simp
    · have hb2 := B1.trans (HB2.out.mono B1.size)
      refine ⟨fI, TA, tn, tc, lf, dp, rfl, hb2.trans (hon.below hb2.size fun k hk h => by omega), HBAD.out, fun h => ?_⟩
      obtain ⟨a1, a2, a3, a4, vs, b0, H, hb0, hown⟩ := HGOOD.out h
      exact ⟨a1, a2, a3, a4, vs, b0, H, by have := B1.size; omega, hown.only hon fun k h1 h2 h => by omega⟩
end Go.Proofs.YticdmglondpgaaaGreat

/-! ## Index2: Package index: Build. Condition: the forest is built as the contract of build says. -/
namespace Go.Proofs.YticdmglondpgaaaGreat
open Go.RowKit
set_option linter.unusedVariables false
set_option maxRecDepth 100000
set_option linter.unusedSimpArgs false

attribute [local go_sem] Oper.semAt_some

/-- An index with a forest. -/
def IxU (w : World) (b dim bI : Nat) (rows : List (List Int)) (l d : Int) (ts : List Tr) : Prop :=
  ∃ TA tc, w.heap[b]? = some (.cells (ixC dim bI (some ⟨bI, 0, none⟩) l d (.slice TA ts.length tc) true) 97 (0, 0)) ∧ It w bI dim rows ∧ RdT w TA ts
theorem IxU.below {w w' : World} {b dim bI : Nat} {rows : List (List Int)} {l d : Int} {ts : List Tr} (h : IxU w b dim bI rows l d ts) (hb : Below w.heap.size w w') : IxU w' b dim bI rows l d ts := by
  obtain ⟨TA, tc, h1, h2, h3⟩ := h
  exact ⟨TA, tc, obj_below hb h1 (obj_lt h1), h2.below hb, h3.below hb⟩
set_option maxHeartbeats 3200000 in
theorem IBuild_calls (b dim bI : Nat) (rows : List (List Int)) (A : Option Addr) (c : Nat) (t l d : Int) (sc : Bool) (sd : Int) (DA : Option Addr) (dc : Nat) (ds : List Int) (wk : Int) (PI : Value) (w : World) (h : Ix0 w b dim bI rows A c)
    (hbu : ∀ W, Below w.heap.size w W → Calls Tryz.prog 84 #[.pointer (some ⟨b, 0, none⟩), .agg #[.int .i64 t, .int .i64 l, .int .i64 d, .bool sc, .int .u64 sd, .slice DA ds.length dc], .int .i64 wk, PI] W (BuildPost W bI dim rows t l d sc sd ds)) :
    Calls Tryz.prog 42 #[.pointer (some ⟨b, 0, none⟩), .agg #[.int .i64 t, .int .i64 l, .int .i64 d, .bool sc, .int .u64 sd, .slice DA ds.length dc], .int .i64 wk, PI] w fun e w' => e = .returned (.int .i64 (treeErr rows.length t l d)) ∧ Only (· = b) w w' ∧ (treeErr rows.length t l d = 0 → IxU w' b dim bI rows l d (forestT rows dim l.toNat d.toNat sc sd ds t.toNat)) := by
  have hbk := h.1
  have hbl := obj_lt hbk
  have hib := h.2.2
  have c6 : w.cell? ⟨b, 6, none⟩ = some (.bool false) := by simp [World.cell?, hbk, ixC]
  have c6a : ∀ o, (w.alloc o).cell? ⟨b, 6, none⟩ = some (.bool false) := fun o => (World.cell?_alloc_lt (o := o) w _ hbl).trans c6
  obtain ⟨m, hm⟩ : ∃ m, ds.length = m := ⟨_, rfl⟩
  rw [hm] at hbu ⊢
  have HM := Lib.hid hm
  have HBU := Lib.hid hbu
  have HBK := Lib.hid hbk
  have HIT := Lib.hid h.2.1
  obtain ⟨E, hE⟩ : ∃ E, treeErr rows.length t l d = E := ⟨_, rfl⟩
  have HE := Lib.hid hE
  rw [hE]
  clear h hbu hbk hm hE
  go_enter Tryz.func42, Tryz.ntmps42
  go_wp2_with fail
  obtain ⟨w1, AW⟩ : ∃ W, w.alloc (.cells #[.int .i64 t, .int .i64 l, .int .i64 d, .bool sc, .int .u64 sd, .slice DA m dc] 28) = W := ⟨_, rfl⟩
  have Ab : Below w.heap.size w w1 := by rw [← AW]; exact below_alloc1 (Below.refl _ _) _
  have Ax : w1.heap[w.heap.size]? = some (.cells #[.int .i64 t, .int .i64 l, .int .i64 d, .bool sc, .int .u64 sd, .slice DA m dc] 28 (0, 0)) := by rw [← AW]; exact heap_alloc_new _ _
  rw [AW]
  clear AW
  have hz1 := obj_lt Ax
  clear c6 c6a
  refine (HBU.out w1 Ab).mono ?_
  rintro e w2 ⟨fI, TA, tn, tc, lf, dp, he, hb2, hbad, hgood⟩
  rw [HE.out] at he hbad hgood
  subst he
  have B2 := Lib.hid (Ab.trans (hb2.mono Ab.size))
  have hbk2 := obj_below B2.out HBK.out hbl
  have hbl2 := obj_lt hbk2
  have HBK2 := Lib.hid hbk2
  have HBAD := Lib.hid hbad
  have HGOOD := Lib.hid hgood
  have hz2 := hb2.size
  clear Ab Ax hb2 hbad hgood hbk2
  by_cases hz : E = 0
  case neg =>
    have hz' : (E == 0) = false := by simp [hz]
    go_wp2_with fail
    go_ret
    exact ⟨rfl, Only.of_below (B2.out.trans ((below_alloc1 (Below.refl _ _) _).mono B2.out.size)), fun h => absurd h hz⟩
  subst hz
  obtain ⟨rfl, rfl, rfl, rfl, vs, b0, H, hb0, hown⟩ := HGOOD.out rfl
  have HOWN := Lib.hid hown
  clear hown
  have j2 : w2.cell? ⟨b, 2, none⟩ = some (.pointer none) := by have h := HBK2.out; simp [World.cell?, h, ixC]
  have k2 : ∀ o, (w2.alloc o).cell? ⟨b, 2, none⟩ = some (.pointer none) := fun o => (World.cell?_alloc_lt (o := o) w2 _ hbl2).trans j2
  have j3 : w2.cell? ⟨b, 3, none⟩ = some (.int .i64 0) := by have h := HBK2.out; simp [World.cell?, h, ixC]
  have k3 : ∀ o, (w2.alloc o).cell? ⟨b, 3, none⟩ = some (.int .i64 0) := fun o => (World.cell?_alloc_lt (o := o) w2 _ hbl2).trans j3
  have j4 : w2.cell? ⟨b, 4, none⟩ = some (.int .i64 0) := by have h := HBK2.out; simp [World.cell?, h, ixC]
  have k4 : ∀ o, (w2.alloc o).cell? ⟨b, 4, none⟩ = some (.int .i64 0) := fun o => (World.cell?_alloc_lt (o := o) w2 _ hbl2).trans j4
  have j5 : w2.cell? ⟨b, 5, none⟩ = some (.slice none 0 0) := by have h := HBK2.out; simp [World.cell?, h, ixC]
  have k5 : ∀ o, (w2.alloc o).cell? ⟨b, 5, none⟩ = some (.slice none 0 0) := fun o => (World.cell?_alloc_lt (o := o) w2 _ hbl2).trans j5
  have j6 : w2.cell? ⟨b, 6, none⟩ = some (.bool false) := by have h := HBK2.out; simp [World.cell?, h, ixC]
  have k6 : ∀ o, (w2.alloc o).cell? ⟨b, 6, none⟩ = some (.bool false) := fun o => (World.cell?_alloc_lt (o := o) w2 _ hbl2).trans j6
  have kf : ∀ i o, (w2.alloc o).frozen? ⟨b, i, none⟩ = false := fun i o => by
    have h := obj_below (below_alloc1 (Below.refl w2.heap.size w2) o) HBK2.out hbl2
    simp [World.frozen?, h]
  have kf2 : ∀ i, w2.frozen? ⟨b, i, none⟩ = false := fun i => by have h := HBK2.out; simp [World.frozen?, h]
  have hne : ¬ w2.heap.size = b := by omega
  have hne2 : ¬ b = w2.heap.size := by omega
  go_wp2_with fail
  go_ret
  obtain ⟨W3, hW3⟩ : ∃ X, (((((w2.setCell ⟨b, 2, none⟩ (.pointer (some ⟨bI, 0, none⟩))).setCell ⟨b, 3, none⟩ (.int .i64 lf)).setCell ⟨b, 4, none⟩ (.int .i64 dp)).setCell ⟨b, 5, none⟩ (.slice TA t.toNat tc)).setCell ⟨b, 6, none⟩ (.bool true)) = X := ⟨_, rfl⟩
  rw [hW3]
  have hon : Only (fun k => k = b) w2 W3 := by
    rw [← hW3]; exact ((((only_set _ _ _ _).trans (only_set _ _ _ _)).trans (only_set _ _ _ _)).trans (only_set _ _ _ _)).trans (only_set _ _ _ _)
  have hbE : W3.heap[b]? = some (.cells (ixC dim bI (some ⟨bI, 0, none⟩) lf dp (.slice TA t.toNat tc) true) 97 (0, 0)) := by
    rw [← hW3]
    exact set_blk (cs := [_, _, _, _, _, _, _]) (set_blk (cs := [_, _, _, _, _, _, _]) (set_blk (cs := [_, _, _, _, _, _, _]) (set_blk (cs := [_, _, _, _, _, _, _]) (set_blk (cs := [_, _, _, _, _, _, _]) HBK2.out 2 _) 3 _) 4 _) 5 _) 6 _
  have hit3 := ((HIT.out.only (S := fun _ => False) (Only.of_below B2.out) fun _ _ h => h).only hon fun k hk e => hib (e ▸ hk)).it
  have hrd3 := (HOWN.out.only hon fun k h1 h2 e => by have := hb0; omega).rdt
  obtain ⟨WE, hWE⟩ : ∃ X, W3.alloc (.cells #[.pointer (some ⟨bI, 0, none⟩), .int .i64 lf, .int .i64 dp, .slice TA t.toNat tc] 61) = X := ⟨_, rfl⟩
  have hb3 : Below W3.heap.size W3 WE := by rw [← hWE]; exact below_alloc1 (Below.refl _ _) _
  rw [hWE]
  have hux : IxU W3 b dim bI rows lf dp (forestT rows dim lf.toNat dp.toNat sc sd ds t.toNat) := ⟨TA, tc, by rw [forestT_length]; exact hbE, hit3, hrd3⟩
  exact ⟨rfl, ((Only.of_below B2.out).trans hon).trans (Only.of_below hb3), by first | exact hux.below hb3 | exact fun _ => hux.below hb3⟩
end Go.Proofs.YticdmglondpgaaaGreat
