/-
  Texts on the program, part 20: OfEach.
-/
import Derived.Test.YticdmglondpgaaaGreatQ07
import Derived.Test.YticdmglondpgaaaGreatQ08
import Derived.Test.YticdmglondpgaaaGreatQ09
import Derived.Test.YticdmglondpgaaaGreatQ13
import Derived.Test.YticdmglondpgaaaGreatQ19

/-! ## OfEach: The first few of many (topk.Of, over exact.Each). Condition: no more than a hundred thousand ids, each that of an item. -/
namespace Go.Proofs.YticdmglondpgaaaGreat
open Go.RowKit
set_option linter.unusedVariables false
set_option maxRecDepth 100000
set_option linter.unusedSimpArgs false

attribute [local go_sem] Oper.semAt_some

/-- Between two rounds: pre has come; bs, bx, bS: the selector's block, its closure's variable, its box. -/
def OC (w : World) (most : Int) (bs bx bS B : Nat) (pre : List (Int × Int)) (W : World) : Prop :=
  ∃ s L, Below w.heap.size w W ∧ SelE W s most pre.length L ∧ Keep aheadE most (ents pre) L ∧ s.bs = bs ∧ s.bx = bx ∧ (∀ k, SlB s k → w.heap.size ≤ k ∧ k ≠ bS ∧ (k < B ∨ B + 2 ≤ k)) ∧ W.heap[bS]? = some (.cells #[.pointer (some ⟨bs, 0, none⟩)] 229 (0, 0))
theorem own_typ {w : World} {base : Nat} {e : TypeId} {size n : Nat} {v : Value} {xs : List Value} (h : w.ownsRow base e size v n xs) (k : Nat) (hk : v.ownBlock = some k) : ∃ cs f, w.heap[k]? = some (.cells cs e f) := by
  rcases h.2 with ⟨rfl, _⟩ | ⟨g, cap, cur, rfl, hb, hg, _⟩
  · simp [Value.ownBlock] at hk
  · obtain rfl : g = k := by simpa [Value.ownBlock] using hk
    exact ⟨_, _, hg⟩
set_option maxHeartbeats 6400000 in
set_option maxRecDepth 1000000 in
theorem OfEach_calls (most : Int) (bI dim q b1 b2 b3 : Nat) (rows : List (List Int)) (VA : Option Addr) (vc : Nat) (ys : List Int) (A : Option Addr) (c : Nat) (M : List Int) (w : World) (hI : It w bI dim rows) (hM : Rd w .i64 A M)
    (hr : ∀ x ∈ M, 0 ≤ x ∧ x < (rows.length : Int)) (hrr : ∀ r ∈ rows, R32 r) (hV : Rd w .i32 VA ys) (ry : R32 ys) (hq : w.heap[q]? = some (.cells #[.slice A M.length c] 64 (0, 0)))
    (h1 : w.heap[b1]? = some (.cells #[.func (.func 139) #[] #[.pointer (some ⟨q, 0, none⟩)]] 138 (0, 0))) (h2 : w.heap[b2]? = some (.cells #[.pointer (some ⟨bI, 0, none⟩)] 34 (0, 0))) (h3 : w.heap[b3]? = some (.cells #[.slice VA ys.length vc] 29 (0, 0))) (hl : M.length ≤ 100000) :
    Calls Tryz.prog 90 #[.func (.func 91) #[] #[], .int .i64 most, .func (.func 137) #[] #[.pointer (some ⟨b1, 0, none⟩), .pointer (some ⟨b2, 0, none⟩), .pointer (some ⟨b3, 0, none⟩)]] w fun e w' => ∃ vO, e = .returned vO ∧ OwnF w' w.heap.size 90 2 twoR vO ((sortI ltR (0, 0) (eachL rows ys M)).take most.toNat) ∧ Below w.heap.size w w' := by
  have HI := Lib.hid hI
  have HM := Lib.hid hM
  have HR := Lib.hid hr
  have HRR := Lib.hid hrr
  have HV := Lib.hid hV
  have HRY := Lib.hid ry
  have HQ := Lib.hid hq
  have H1 := Lib.hid h1
  have H2 := Lib.hid h2
  have H3 := Lib.hid h3
  obtain ⟨xs, hxs⟩ : ∃ xs, eachL rows ys M = xs := ⟨_, rfl⟩
  have hxl : xs.length = M.length := by rw [← hxs]; simp [eachL]
  rw [hxs]
  rw [← hxl] at hl
  have HXS := Lib.hid hxs
  have HXL := Lib.hid hxl
  clear hI hM hr hrr hV ry hq h1 h2 h3 hxs hxl
  refine (callsIn_wide (n := 5)).1 ?_
  refine callsIn_of_wp_marks Tryz.func90 rfl trivial ?_ rfl
  refine wpIn_wide.2 ?_
  simp only [Tryz.ntmps90, List.size_toArray, List.length_cons, List.length_nil, Nat.reduceAdd, Nat.reduceSub, Array.replicate_succ, Array.replicate_zero, List.push_toArray, List.append_toArray, List.nil_append, List.cons_append]
  go_wp2_with fail
  refine (SNewE_calls most w).mono ?_
  rintro e w1 ⟨⟨bs, bx, b, v⟩, he, hsel, hb1, hfr, hbx, hv⟩
  subst he
  obtain ⟨w2, hw2⟩ : ∃ W, w1.alloc (.cells #[.pointer (some ⟨bs, 0, none⟩)] 229) = W := ⟨_, rfl⟩
  have hbn2 : Below w1.heap.size w1 w2 := by rw [← hw2]; exact below_alloc1 (Below.refl _ _) _
  have hbS : w2.heap[w1.heap.size]? = some (.cells #[.pointer (some ⟨bs, 0, none⟩)] 229 (0, 0)) := by rw [← hw2]; exact heap_alloc_new w1 _
  have hz2 : w2.heap.size ≤ w1.heap.size + 1 ∧ w1.heap.size + 1 ≤ w2.heap.size := by rw [← hw2]; simp
  have hz1 := hb1.size
  have hb02 : Below w.heap.size w w2 := hb1.trans (hbn2.mono hz1)
  have hlt := hsel.lt
  have hbx1 : bx < w1.heap.size := hlt.2
  have hI0 : OC w most bs bx w1.heap.size w2.heap.size [] w2 := ⟨⟨bs, bx, b, v⟩, [], hb02, hsel.keep hbn2, Keep.nil _ _, rfl, rfl, fun k hk => by
    have h1 := hfr k hk
    have h2 := hlt.1 k hk
    exact ⟨h1, by omega, .inl (by omega)⟩, hbS⟩
  have hbs1 : bs < w1.heap.size := hlt.1 bs (.inl rfl)
  have HI0 := Lib.hid hI0
  have HB02 := Lib.hid hb02
  clear hsel hb1 hfr hv hlt hbn2 hbS hI0 hb02
  go_wp2_with fail
  (try rw [hw2])
  clear hw2
  refine (wpIn_wide (n := 5)).1 ?_
  refine wpIn_rangeAN rfl (by omega) (gf := 137) (lb := #[.pointer (some ⟨b1, 0, none⟩), .pointer (some ⟨b2, 0, none⟩), .pointer (some ⟨b3, 0, none⟩)]) rfl trivial (enters_of Tryz.func137 (by kernel_rfl) rfl)
    (each_iter _ bI dim q b1 b2 b3 w.heap.size (by omega) rows VA vc ys A c M w w2 HB02.out rfl HI.out HM.out HR.out HRR.out HV.out HRY.out HQ.out H1.out H2.out H3.out)
    (fun k h => h.elim) (fun h k => h.trans k) (fun W l o o' hl ho hc => by subst hl; exact KpU.putObj (by have := HB02.out.size; omega) ho hc)
    (fun ys A B h hk => h) (fun ys A B h hk => h) (fun _ => rfl)
    (fun pre W => OC w most bs bx w1.heap.size w2.heap.size pre W ∧ pre = xs.take pre.length)
    (fun c pre W => False)
    (fun pre A B h hs => by
      obtain ⟨⟨s, L, t1, t2, t3, t4, t5, t6, t7⟩, t8⟩ := h
      have hcl : ∀ k, SlB s k → ∃ cs t f, A.heap[k]? = some (.cells cs t f) := fun k hk => by
        rcases hk with hk | hk | hk
        · rw [hk]; exact ⟨_, _, _, t2.1⟩
        · rw [hk]; exact ⟨_, _, _, t2.2.2.1.1⟩
        · exact own_cells t2.2.2.1.2.1 k hk
      have hnc : ∀ k cs t f, A.heap[k]? = some (.cells cs t f) → ¬ (False ∨ (w2.heap.size + 1 ≤ k ∧ ∃ o, A.heap[k]? = some o ∧ o.isCells = false)) := fun k cs t f hk h => by
        rcases h with h | ⟨_, o, ho, hc⟩
        · exact h
        · rw [hk] at ho; injection ho with ho; subst ho; cases hc
      refine ⟨⟨s, L, t1.trans (Only.below hs t1.size fun k hk h => h.elim (fun h => h) fun h => by have := h.1; have := HB02.out.size; omega), t2.only hs (fun k hk h => ?_) (fun h => ?_), t3, t4, t5, t6, Only.obj hs t7 (hnc _ _ _ _ t7)⟩, t8⟩
      · obtain ⟨cs, t, f, e⟩ := hcl k hk
        exact hnc k cs t f e h
      · rw [t5] at h
        rcases h with h | h
        · exact h
        · have := h.1; omega) (fun c pre A B h hs => h) ⟨HI0.out, rfl⟩ ?a1 (fun x W => W.alloc (.cells #[.int .i64 x.1, .int .i64 x.2] 90)) (fun x W => below_alloc1 (Below.refl _ _) _) (fun x W => KpU.of_below (below_alloc1 (Below.refl _ _) _)) ?assign ?body ?done ?stop
  case assign =>
    intro l x W K hK
    gi_wp2
    exact hK
  case body =>
    clear HI0
    rintro l2 pre ⟨x0, x1⟩ A0 W0 W o' hW ⟨⟨s, L, t1, t2, t3, t4, t5, t6, t7⟩, t8⟩ hlen hsz _ _ hxx
    have hbx9 : W.heap[W0.heap.size]? = some (.cells #[.int .i64 x0, .int .i64 x1] 90 (0, 0)) := by
      rw [hW]; exact (World.putObj_heap_other (by omega)).trans (heap_alloc_new W0 _)
    obtain ⟨bB, hbB⟩ : ∃ bB, W0.heap.size = bB := ⟨_, rfl⟩
    have hWW : W0.heap.size ≤ W.heap.size := by have := obj_lt hbx9; omega
    rw [hbB] at hbx9 hWW ⊢
    subst t4
    have hcs : W.cell? ⟨w1.heap.size, 0, none⟩ = some (.pointer (some ⟨s.bs, 0, none⟩)) := by simp [World.cell?, t7]
    have hcb0 : W.cell? ⟨bB, 0, none⟩ = some (.int .i64 x0) := by simp [World.cell?, hbx9]
    have hcb1 : W.cell? ⟨bB, 1, none⟩ = some (.int .i64 x1) := by simp [World.cell?, hbx9]
    have hLl : L.length ≤ 100000 := by have h := t3.length; rw [ents_length] at h; have := HXL.out; omega
    have HT8 := Lib.hid t8
    have HXX := Lib.hid (show (x0, x1) = xs.getD pre.length (0, 0) by rw [← HXS.out]; exact hxx)
    have HPL := Lib.hid (show pre.length < xs.length by rw [HXL.out]; exact hlen)
    have htyp : ∀ k, SlB s k → ¬ ∃ cs f, W.heap[k]? = some (.cells cs 231 f) := fun k hk ⟨cs, f, h⟩ => by
      rcases hk with hk | hk | hk
      · rw [hk, t2.1] at h; injection h with h; injection h with _ h; exact absurd h (by decide)
      · rw [hk, t2.2.2.1.1] at h; injection h with h; injection h with _ h; exact absurd h (by decide)
      · obtain ⟨cs2, f2, h2⟩ := own_typ t2.2.2.1.2.1 k hk
        rw [h2] at h; injection h with h; injection h with _ h; exact absurd h (by decide)
    have HTY := Lib.hid htyp
    have hcellsA : ∀ k, SlB s k → ∃ cs t f, W.heap[k]? = some (.cells cs t f) := fun k hk => by
      rcases hk with hk | hk | hk
      · rw [hk]; exact ⟨_, _, _, t2.1⟩
      · rw [hk]; exact ⟨_, _, _, t2.2.2.1.1⟩
      · exact own_cells t2.2.2.1.2.1 k hk
    have HCA := Lib.hid hcellsA
    have hcells : ∀ k, SlB s k → w2.heap.size ≤ k → ∃ cs t f, W.heap[k]? = some (.cells cs t f) := fun k hk h9 => by
      rcases hk with hk | hk | hk
      · rw [hk]; exact ⟨_, _, _, t2.1⟩
      · rw [hk]; exact ⟨_, _, _, t2.2.2.1.1⟩
      · exact own_cells t2.2.2.1.2.1 k hk
    have T1 := Lib.hid t1
    have T2 := Lib.hid t2
    have T3 := Lib.hid t3
    have T6 := Lib.hid t6
    have T7 := Lib.hid t7
    have HC := Lib.hid hcells
    have hzw := t1.size
    have hnb := t2.nbx
    clear t1 t2 t3 t6 t7 t8 hcells hcellsA htyp hW hbx9 hxx hlen
    gi_wp2
    refine ⟨trivial, (CallsIn.inRound l2 (callsIn_wide.2 (OfferE_calls s most pre.length L x0 x1 W T2.out hLl (by have := HPL.out; omega) (by have := HPL.out; omega)))).mono ?_⟩
    rintro e W2 ⟨s', L', ok, he, hs', hto, hon, hoff⟩
    subst he
    have hWE := hon.size
    have hkf : KeepsFrom w2.heap.size W W2 := ⟨hWE, fun k o hk hh hc => hon.obj hh fun h => by
      obtain ⟨cs, t, f, hcs⟩ := HC.out k h hk
      rw [hh] at hcs
      injection hcs with hcs
      rw [hcs] at hc
      cases hc⟩
    have hke0 : Below w.heap.size W W2 := hon.below hzw fun k hk h => by have := (T6.out k h).1; omega
    have hke : KpU w.heap.size (w2.heap.size + 1) W W2 := ⟨hon.mono fun k _ h hn => hn.elim (fun h2 => by have := (T6.out k h).1; omega) (HTY.out k h), fun k o _ hh hc => hon.obj hh fun h => by
      obtain ⟨cs, t, f, hcs⟩ := HCA.out k h
      rw [hh] at hcs
      injection hcs with hcs
      rw [hcs] at hc
      cases hc⟩
    have hIn : OC w most s.bs bx w1.heap.size w2.heap.size (pre ++ [(x0, x1)]) W2 ∧ (pre ++ [(x0, x1)]) = xs.take (pre ++ [(x0, x1)]).length := by
      refine ⟨?_, by
        rw [List.length_append, List.length_singleton, List.take_add_one, ← HT8.out, HXX.out]
        have := HPL.out
        simp [List.getD, this]⟩
      refine ⟨s', L', T1.out.trans hke0, ?_, T3.out.offE T2.out.2.2.2.1 hoff, hto.1, hto.2.1.trans t5, fun k hk => ?_, hon.obj T7.out fun h => (T6.out _ h).2.1 rfl⟩
      · rw [show ((pre ++ [(x0, x1)]).length : Int) = (pre.length : Int) + 1 by simp]
        exact hs'
      · by_cases hkW : k < W.heap.size
        · exact T6.out k (hto.mem hkW hk)
        · exact ⟨by omega, by omega, .inr (by omega)⟩
    have HIN := Lib.hid hIn
    have HKF := Lib.hid hkf
    have HKE := Lib.hid hke
    clear hs' hto hon hoff hkf hke hke0 hIn
    gi_wp2
    exact ⟨HKF.out, HKE.out, HIN.out⟩
  case done =>
    rintro _ pre W rfl hpl ⟨⟨s, L, t1, t2, t3, t4, t5, t6, t7⟩, t8⟩ hK
    obtain rfl : pre = xs := by rw [t8, hpl, ← HXL.out, List.take_length]
    clear t8 hpl
    subst t4
    have hcs : W.cell? ⟨w1.heap.size, 0, none⟩ = some (.pointer (some ⟨s.bs, 0, none⟩)) := by simp [World.cell?, t7]
    have hLl : L.length ≤ 100000 := by have h := t3.length; rw [ents_length] at h; omega
    have T1 := Lib.hid t1
    have T2 := Lib.hid t2
    have T3 := Lib.hid t3
    have T6 := Lib.hid t6
    have HK := Lib.hid hK
    have hzw := t1.size
    clear t1 t2 t3 t6 t7 hK HI0
    go_wp2_with fail
    refine (ListE_calls s most pre.length L W T2.out hLl).mono ?_
    rintro e W2 ⟨s', L', S, vO, he, _, _, _, hon, hp, hsr, hO, _⟩
    subst he
    have HO := Lib.hid hO
    have HP := Lib.hid hp
    have HSR := Lib.hid hsr
    have HBW := Lib.hid (T1.out.trans (hon.below hzw fun k hk h => by have := (T6.out k h).1; omega))
    have HK2 := Lib.hid (hon.obj HK.out fun h => by have := (T6.out _ h).2.2; omega)
    clear hO hp hsr hon
    go_wp2_with fail
    have hfin := keepE T3.out HP.out HSR.out
    refine ⟨by simp, .inl ⟨_, _, rfl, run_takeDeferred HK2.out, _, results_tmp rfl _ _ _, _, rfl, ?_, ?_⟩⟩
    · rw [← hfin]
      exact (HO.out.low hzw).only (only_putObj _ _ _) fun k hk h => by
        have := (HO.out.lt k hk).1
        have : k = w2.heap.size := h
        have := obj_lt HK.out
        omega
    · exact HBW.out.trans ⟨rfl, rfl, rfl, by simp, fun k hk => World.putObj_heap_other (by have := HB02.out.size; omega)⟩
  case stop =>
    rintro _ cc pre W rfl _ h hK
    exact h.elim
end Go.Proofs.YticdmglondpgaaaGreat
