
/-
  The first few of many (topk.Of, over api.Result): the library's Values as an iterator, Of. Condition: no more than a hundred thousand things.
-/
import Derived.Test.YtacgkoclammggaaLstE
import Derived.Test.YtacgkoclammggaaTwoP
import Derived.Test.YtacgkoclammggaaKeepE
namespace Go.Proofs.Ytacgkoclammggaa
open Go.RowKit
set_option linter.unusedVariables false
set_option maxRecDepth 100000
set_option linter.unusedSimpArgs false
attribute [local go_sem] Oper.semAt_some

theorem two_addO (ad : Addr) (i : Nat) (w : World) : w.cell? ⟨(ad.add (i * 2)).block, (ad.add (i * 2)).off + 1, none⟩ = w.cell? (ad.add (i * 2 + 1)) := by rw [← Addr.add_add]; rfl
theorem Values_calls (A : Option Addr) (n c : Nat) (w : World) :
    Calls Try.prog 43 #[.slice A n c] w fun e w' => e = .returned (.func (.func 81) #[] #[.pointer (some ⟨w.heap.size, 0, none⟩)]) ∧ w' = w.alloc (.cells #[.slice A n c] 49) := by
  go_enter Try.func43, Try.ntmps43
  go_wp2_with fail
  go_ret
  exact ⟨rfl, rfl⟩
theorem int_nat (k : Nat) : (intV (.int .i64 (k : Int))).toNat = k := by simp [intV]
set_option maxHeartbeats 1600000 in
theorem values_iter (m bv : Nat) (A : Option Addr) (n c : Nat) (xs : List (Int × Int)) (w0 w : World) (hw : Below w0.heap.size w0 w) (hb : w0.heap[bv]? = some (.cells #[.slice A n c] 49 (0, 0))) (ha : RdP w0 .i64 .i64 A xs) (hn : xs.length = n) (hl : n ≤ 1000000) :
    IterD Fence.wide m Try.prog 81 #[.pointer (some ⟨bv, 0, none⟩)] (fun x : Int × Int => #[.agg #[.int .i64 x.1, .int .i64 x.2]]) (fun _ => False) (Only fun k => w0.heap.size ≤ k) (fun pre x _ _ => pre ++ [x] = xs.take (pre.length + 1))
      (fun ys W => ys = xs) (fun ys W => True) n w := by
  intro lp J Jx W hW hJ hJx hY h0
  refine callsIn_of_wp Try.func81 rfl trivial ?_ rfl
  simp only [Try.ntmps81, List.size_toArray, List.length_cons, List.length_nil, Nat.reduceAdd, Nat.reduceSub, Array.replicate_succ, Array.replicate_zero, List.push_toArray, List.append_toArray, List.nil_append, List.cons_append]
  have hW0 : Below w0.heap.size w0 W := hw.trans (hW.mono hw.size)
  have hX0 := obj_below hW0 hb (obj_lt hb)
  have hx0 : W.cell? ⟨bv, 0, none⟩ = some (.slice A n c) := by simp [World.cell?, hX0]
  have KA := Lib.hid ha
  have HN := Lib.hid hn
  have HJ := Lib.hid hJ
  have HJX := Lib.hid hJx
  have HY := Lib.hid hY
  have H0 := Lib.hid h0
  have HW0 := Lib.hid hW0
  clear hJ hJx hY h0 hX0 ha hb hn hW0
  gi_wp2
  gi_loopw [7] (fun v7 wr => ∃ k : Nat, k ≤ n ∧ v7 = .int .i64 (k : Int) ∧ J (xs.take k) wr ∧ Below w0.heap.size w0 wr) (fun v7 _ => n - (intV v7).toNat)
  case atStart => exact ⟨0, Nat.zero_le _, rfl, H0.out, HW0.out⟩
  case round =>
    clear H0 HW0 hx0
    obtain ⟨k, hk, rfl, hJs, hbr⟩ := hrel
    have HJS := Lib.hid hJs
    have HBR := Lib.hid hbr
    clear hJs hbr
    by_cases hlt : k < n
    · obtain ⟨ad, rfl, hca0, hca1⟩ := KA.out.2 k (by rw [HN.out]; exact hlt)
      obtain ⟨⟨x0, x1⟩, hx⟩ : ∃ x, xs.getD k (0, 0) = x := ⟨_, rfl⟩
      rw [hx] at hca0 hca1
      have hbk := World.block_lt_of_cell? _ _ hca0
      have hd0 : wr.cell? (ad.add (k * 2)) = some (.int .i64 x0) := cell_below HBR.out hca0 hbk
      have hd1 : wr.cell? ⟨(ad.add (k * 2)).block, (ad.add (k * 2)).off + 1, none⟩ = some (.int .i64 x1) := (two_addO ad k wr).trans (cell_below HBR.out hca1 (World.block_lt_of_cell? _ _ hca1))
      have hpre : (xs.take k).length = k := by rw [List.length_take, HN.out]; omega
      have htk : xs.take k ++ [(x0, x1)] = xs.take (k + 1) := by rw [← hx, List.take_add_one, getF (d := (0, 0)) (by rw [HN.out]; exact hlt)]; rfl
      have hd : decide ((k : Int) < (n : Int)) = true := decide_eq_true (by omega)
      have ho2 : Only (fun _ => False) wr (wr.alloc (.cells #[.int .i64 x0, .int .i64 x1] 41)) := Only.of_below (below_alloc1 (Below.refl _ _) _)
      obtain ⟨fn, tmps, assign, body, hy, hR⟩ := HY.out (xs.take k) (x0, x1) wr _ HJS.out ho2 (by rw [hpre]; exact hlt) (by rw [hpre]; exact htk)
      have HRR := Lib.hid hR
      have HTK := Lib.hid htk
      have HBA := Lib.hid (below_alloc1 HBR.out (.cells #[.int .i64 x0, .int .i64 x1] 41))
      clear hca0 hca1 hx hbk hpre htk ho2 hR
      gi_wp2
      refine ⟨(fun h => by cases h), HRR.out.mono ?_⟩
      rintro e W3 (⟨rfl, hJ3, hk3⟩ | ⟨rfl, hJx3, hk3⟩)
      · rw [HTK.out] at hJ3
        have HJ3 := Lib.hid hJ3
        have HB3 := Lib.hid (HBA.out.trans (hk3.below HBA.out.size fun k hk h => by omega))
        clear hJ3 hk3
        gi_wp2
        go_roundw
        case rel => exact ⟨k + 1, by omega, by simp, HJ3.out, HB3.out⟩
        case measure => simp [intV]; omega
      · have HJ3 := Lib.hid hJx3
        clear hJx3 hk3
        gi_wp2
        refine bodyPost_ret (results_none rfl _ _ _) rfl ?_
        exact ⟨⟨_, rfl⟩, .inr ⟨_, trivial, HJ3.out⟩⟩
    · have hd : decide ((k : Int) < (n : Int)) = false := decide_eq_false (by omega)
      have hkn : k = n := by omega
      have hall : xs.take k = xs := by rw [hkn, ← HN.out]; exact List.take_length
      rw [hall] at HJS
      have HALL := Lib.hid hall
      clear hall
      gi_wp2
      go_end0
      exact ⟨⟨_, rfl⟩, .inl ⟨xs, rfl, HJS.out⟩⟩
/-- Between two rounds: pre has come; bs, bx, bS: the selector's block, its closure's variable, its box. -/
def OC (w : World) (most : Int) (bs bx bS B : Nat) (pre : List (Int × Int)) (W : World) : Prop :=
  ∃ s L, Below w.heap.size w W ∧ SelE W s most pre.length L ∧ Keep aheadE most (ents pre) L ∧ s.bs = bs ∧ s.bx = bx ∧ (∀ k, SlB s k → w.heap.size ≤ k ∧ k ≠ bS ∧ (k < B ∨ B + 2 ≤ k)) ∧ W.heap[bS]? = some (.cells #[.pointer (some ⟨bs, 0, none⟩)] 72 (0, 0))
set_option maxHeartbeats 6400000 in
set_option maxRecDepth 1000000 in
theorem Of_calls (most : Int) (bv : Nat) (A : Option Addr) (c : Nat) (xs : List (Int × Int)) (w : World) (hb : w.heap[bv]? = some (.cells #[.slice A xs.length c] 49 (0, 0))) (ha : RdP w .i64 .i64 A xs) (hl : xs.length ≤ 100000) :
    Calls Try.prog 42 #[.func (.func 29) #[] #[], .int .i64 most, .func (.func 81) #[] #[.pointer (some ⟨bv, 0, none⟩)]] w fun e w' => ∃ vO, e = .returned vO ∧ OwnF w' w.heap.size 41 2 twoR vO ((sortI ltR (0, 0) xs).take most.toNat) ∧ Below w.heap.size w w' := by
  have HB := Lib.hid hb
  have HA := Lib.hid ha
  clear hb ha
  refine (callsIn_wide (n := 5)).1 ?_
  refine callsIn_of_wp_marks Try.func42 rfl trivial ?_ rfl
  refine wpIn_wide.2 ?_
  simp only [Try.ntmps42, List.size_toArray, List.length_cons, List.length_nil, Nat.reduceAdd, Nat.reduceSub, Array.replicate_succ, Array.replicate_zero, List.push_toArray, List.append_toArray, List.nil_append, List.cons_append]
  go_wp2_with fail
  refine (SNewE_calls most w).mono ?_
  rintro e w1 ⟨⟨bs, bx, b, v⟩, he, hsel, hb1, hfr, hbx, hv⟩
  subst he
  obtain ⟨w2, hw2⟩ : ∃ W, w1.alloc (.cells #[.pointer (some ⟨bs, 0, none⟩)] 72) = W := ⟨_, rfl⟩
  have hbn2 : Below w1.heap.size w1 w2 := by rw [← hw2]; exact below_alloc1 (Below.refl _ _) _
  have hbS : w2.heap[w1.heap.size]? = some (.cells #[.pointer (some ⟨bs, 0, none⟩)] 72 (0, 0)) := by rw [← hw2]; exact heap_alloc_new w1 _
  have hz2 : w2.heap.size ≤ w1.heap.size + 1 ∧ w1.heap.size + 1 ≤ w2.heap.size := by rw [← hw2]; simp
  have hz1 := hb1.size
  have hb02 : Below w.heap.size w w2 := hb1.trans (hbn2.mono hz1)
  have hlt := hsel.lt
  have hbx1 : bx < w1.heap.size := hlt.2
  have hI0 : OC w most bs bx w1.heap.size w2.heap.size [] w2 := ⟨⟨bs, bx, b, v⟩, [], hb02, hsel.keep hbn2, Keep.nil _ _, rfl, rfl, fun k hk => by
    have h1 := hfr k hk
    have h2 := hlt.1 k hk
    exact ⟨h1, by omega, .inl (by omega)⟩, hbS⟩
  have hbs1 : bs < w1.heap.size := hlt.1 bs (.inl rfl)
  have HI0 := Lib.hid hI0
  have HB02 := Lib.hid hb02
  clear hsel hb1 hfr hv hlt hbn2 hbS hI0 hb02
  go_wp2_with fail
  (try rw [hw2])
  clear hw2
  refine (wpIn_wide (n := 5)).1 ?_
  refine wpIn_rangeA rfl (by omega) (gf := 81) (lb := #[.pointer (some ⟨bv, 0, none⟩)]) rfl trivial (enters_of Try.func81 (by kernel_rfl) rfl)
    (values_iter _ bv A xs.length c xs w w2 HB02.out HB.out HA.out rfl (by omega))
    (fun k h => h.elim) (fun h k => h.trans k) (fun W l o o' hl _ _ => ⟨rfl, rfl, rfl, by simp, fun k _ hk => World.putObj_heap_other fun e => hk (by have := HB02.out.size; omega)⟩)
    (fun ys A B h hk => h) (fun ys A B h hk => h) (fun _ => rfl)
    (fun pre W => OC w most bs bx w1.heap.size w2.heap.size pre W)
    (fun c pre W => False)
    (fun pre A B h hs => by
      obtain ⟨s, L, t1, t2, t3, t4, t5, t6, t7⟩ := h
      refine ⟨s, L, t1.trans (Only.below hs t1.size fun k hk h => h.elim (fun h => h) fun h => by omega), t2.only hs (fun k hk h => h.elim (fun h => h) fun h => by have := (t6 k hk).2.2; omega) (fun h => h.elim (fun h => h) fun h => by rw [t5] at h; omega), t3, t4, t5, t6, Only.obj hs t7 fun h => h.elim (fun h => h) fun h => by omega⟩) (fun c pre A B h hs => h) HI0.out ?a1 (fun x W => W.alloc (.cells #[.int .i64 x.1, .int .i64 x.2] 41)) (fun x W => below_alloc1 (Below.refl _ _) _) (fun x W => Only.of_below (below_alloc1 (Below.refl _ _) _)) ?assign ?body ?done ?stop
  case assign =>
    intro l x W K hK
    gi_wp2
    exact hK
  case body =>
    clear HI0
    rintro l2 pre ⟨x0, x1⟩ A0 W0 W o' hW ⟨s, L, t1, t2, t3, t4, t5, t6, t7⟩ hlen hsz _ _ _
    have hbx9 : W.heap[W0.heap.size]? = some (.cells #[.int .i64 x0, .int .i64 x1] 41 (0, 0)) := by
      rw [hW]; exact (World.putObj_heap_other (by omega)).trans (heap_alloc_new W0 _)
    obtain ⟨bB, hbB⟩ : ∃ bB, W0.heap.size = bB := ⟨_, rfl⟩
    have hWW : W0.heap.size ≤ W.heap.size := by have := obj_lt hbx9; omega
    rw [hbB] at hbx9 hWW ⊢
    subst t4
    have hcs : W.cell? ⟨w1.heap.size, 0, none⟩ = some (.pointer (some ⟨s.bs, 0, none⟩)) := by simp [World.cell?, t7]
    have hcb0 : W.cell? ⟨bB, 0, none⟩ = some (.int .i64 x0) := by simp [World.cell?, hbx9]
    have hcb1 : W.cell? ⟨bB, 1, none⟩ = some (.int .i64 x1) := by simp [World.cell?, hbx9]
    have hLl : L.length ≤ 100000 := by have h := t3.length; rw [ents_length] at h; omega
    have hcells : ∀ k, SlB s k → w2.heap.size ≤ k → ∃ cs t f, W.heap[k]? = some (.cells cs t f) := fun k hk h9 => by
      rcases hk with hk | hk | hk
      · rw [hk]; exact ⟨_, _, _, t2.1⟩
      · rw [hk]; exact ⟨_, _, _, t2.2.2.1.1⟩
      · exact own_cells t2.2.2.1.2.1 k hk
    have T1 := Lib.hid t1
    have T2 := Lib.hid t2
    have T3 := Lib.hid t3
    have T6 := Lib.hid t6
    have T7 := Lib.hid t7
    have HC := Lib.hid hcells
    have hzw := t1.size
    have hnb := t2.nbx
    clear t1 t2 t3 t6 t7 hcells hW hbx9
    gi_wp2
    refine ⟨trivial, (CallsIn.inRound l2 (callsIn_wide.2 (OfferE_calls s most pre.length L x0 x1 W T2.out hLl (by omega) (by omega)))).mono ?_⟩
    rintro e W2 ⟨s', L', ok, he, hs', hto, hon, hoff⟩
    subst he
    have hWE := hon.size
    have hkf : KeepsFrom w2.heap.size W W2 := ⟨hWE, fun k o hk hh hc => hon.obj hh fun h => by
      obtain ⟨cs, t, f, hcs⟩ := HC.out k h hk
      rw [hh] at hcs
      injection hcs with hcs
      rw [hcs] at hc
      cases hc⟩
    have hke0 : Below w.heap.size W W2 := hon.below hzw fun k hk h => by have := (T6.out k h).1; omega
    have hke : Only (fun k => w.heap.size ≤ k) W W2 := hon.mono fun k _ h => (T6.out k h).1
    have hIn : OC w most s.bs bx w1.heap.size w2.heap.size (pre ++ [(x0, x1)]) W2 := by
      refine ⟨s', L', T1.out.trans hke0, ?_, T3.out.offE T2.out.2.2.2.1 hoff, hto.1, hto.2.1.trans t5, fun k hk => ?_, hon.obj T7.out fun h => (T6.out _ h).2.1 rfl⟩
      · rw [show ((pre ++ [(x0, x1)]).length : Int) = (pre.length : Int) + 1 by simp]
        exact hs'
      · by_cases hkW : k < W.heap.size
        · exact T6.out k (hto.mem hkW hk)
        · exact ⟨by omega, by omega, .inr (by omega)⟩
    have HIN := Lib.hid hIn
    have HKF := Lib.hid hkf
    have HKE := Lib.hid hke
    clear hs' hto hon hoff hkf hke hke0 hIn
    gi_wp2
    exact ⟨HKF.out, HKE.out, HIN.out⟩
  case done =>
    rintro _ pre W rfl rfl ⟨s, L, t1, t2, t3, t4, t5, t6, t7⟩ hK
    subst t4
    have hcs : W.cell? ⟨w1.heap.size, 0, none⟩ = some (.pointer (some ⟨s.bs, 0, none⟩)) := by simp [World.cell?, t7]
    have hLl : L.length ≤ 100000 := by have h := t3.length; rw [ents_length] at h; omega
    have T1 := Lib.hid t1
    have T2 := Lib.hid t2
    have T3 := Lib.hid t3
    have T6 := Lib.hid t6
    have HK := Lib.hid hK
    have hzw := t1.size
    clear t1 t2 t3 t6 t7 hK HI0
    go_wp2_with fail
    refine (ListE_calls s most pre.length L W T2.out hLl).mono ?_
    rintro e W2 ⟨s', L', S, vO, he, _, _, _, hon, hp, hsr, hO, _⟩
    subst he
    have HO := Lib.hid hO
    have HP := Lib.hid hp
    have HSR := Lib.hid hsr
    have HBW := Lib.hid (T1.out.trans (hon.below hzw fun k hk h => by have := (T6.out k h).1; omega))
    have HK2 := Lib.hid (hon.obj HK.out fun h => by have := (T6.out _ h).2.2; omega)
    clear hO hp hsr hon
    go_wp2_with fail
    have hfin := keepE T3.out HP.out HSR.out
    refine ⟨by simp, .inl ⟨_, _, rfl, run_takeDeferred HK2.out, _, results_tmp rfl _ _ _, _, rfl, ?_, ?_⟩⟩
    · rw [← hfin]
      exact (HO.out.low hzw).only (only_putObj _ _ _) fun k hk h => by
        have := (HO.out.lt k hk).1
        have : k = w2.heap.size := h
        have := obj_lt HK.out
        omega
    · exact HBW.out.trans ⟨rfl, rfl, rfl, by simp, fun k hk => World.putObj_heap_other (by have := HB02.out.size; omega)⟩
  case stop =>
    rintro _ cc pre W rfl _ h hK
    exact h.elim
end Go.Proofs.Ytacgkoclammggaa
