
/-
  The statement HeapDrains: the walk. Conditions: the numbers lie in their kinds' ranges.
-/
import Derived.Test.YtacgkoclammggaaHeap6R
import Derived.Test.YtacgkoclammggaaRef4R
import Derived.Test.YtacgkoclammggaaTwoP
import Derived.Test.YtacgkoclammggaaRangeA
import Derived.Test.YtacgkoclammggaaLaw07
namespace Go.Proofs.Ytacgkoclammggaa
open Go.RowKit
set_option linter.unusedVariables false
set_option maxRecDepth 100000
set_option linter.unusedSimpArgs false
attribute [local go_sem] Oper.semAt_some

/-! ### the plain law -/
theorem ltR_anti (a b : Int × Int) (h1 : ltR a b = false) (h2 : ltR b a = false) : a = b := by
  rw [ltR_no] at h1 h2
  exact Prod.ext (by omega) (by omega)
theorem drn_sort {l pre L : List (Int × Int)} (h : Drn ltR l pre L) : sortI ltR (0, 0) l = pre ++ sortI ltR (0, 0) L := by
  obtain ⟨h1, h2, h3⟩ := h
  refine srt_uniq ltR_wo ltR_anti (sortI_srt ltR_wo l) ?_ ((sortI_perm l).trans (h1.symm.trans (List.Perm.append_left pre (sortI_perm L).symm)))
  unfold Srt
  rw [List.pairwise_append]
  exact ⟨h2, sortI_srt ltR_wo L, fun a ha b hb => h3 a ha b ((sortI_perm L).subset hb)⟩
theorem drn_take {l pre L : List (Int × Int)} (h : Drn ltR l pre L) : (sortI ltR (0, 0) l).take pre.length = pre := by rw [drn_sort h]; simp
theorem drn_at {l pre L : List (Int × Int)} {x : Int × Int} (h : Drn ltR l (pre ++ [x]) L) : (sortI ltR (0, 0) l)[pre.length]? = some x := by rw [drn_sort h]; simp
theorem below_putObj9 {B b : Nat} {w W : World} (h : Below B w W) (hb : B ≤ b) (o : Obj) : Below B w (W.putObj b o) := h.trans ⟨rfl, rfl, rfl, by simp, fun k hk => World.putObj_heap_other (by omega)⟩
/-- Between two rounds: pre has come; b0: stop's box, bO: the row's. -/
def DC (w : World) (stop : Int) (b0 bO base : Nat) (pre : List (Int × Int)) (W : World) : Prop :=
  Below w.heap.size w W ∧ W.heap[b0]? = some (.cells #[.int .i64 stop] 3 (0, 0)) ∧ ∃ v, W.heap[bO]? = some (.cells #[v] 49 (0, 0)) ∧ OwnF W base 41 2 twoR v pre
theorem DC.only {w A B : World} {stop : Int} {b0 bO base : Nat} {pre : List (Int × Int)} {S : Nat → Prop} (h : DC w stop b0 bO base pre A) (ho : Only S A B) (hs : ∀ k, S k → w.heap.size ≤ k ∧ k ≠ b0 ∧ k ≠ bO ∧ k < base) : DC w stop b0 bO base pre B := by
  obtain ⟨h1, h2, v, h3, h4⟩ := h
  exact ⟨h1.trans (ho.below h1.size fun k hk h => by have := (hs k h).1; omega), ho.obj h2 fun h => (hs _ h).2.1 rfl, v, ho.obj h3 fun h => (hs _ h).2.2.1 rfl, h4.only ho fun k hk h => by have := (hs _ h).2.2.2; have := (h4.lt k hk).1; omega⟩
theorem two_one (x0 x1 : Int) : ∀ u ∈ [Value.int .i64 x0, Value.int .i64 x1], u.oneCell' = true := twoR_one (x0, x1)
set_option maxHeartbeats 6400000 in
set_option maxRecDepth 100000 in
theorem HeapDrains_law (A : Option Addr) (c : Nat) (l : List (Int × Int)) (stop : Int) (w : World) (hcl : l.length ≤ c) (ha : RdP w .i64 .i64 A l) (hu : ∀ x ∈ l, (Lit.int .i64 x.1).wf = true ∧ (Lit.int .i64 x.2).wf = true) (hst : (Lit.int .i64 stop).wf = true) :
    Calls Try.prog 7 #[.slice A l.length c, .int .i64 stop] w fun e w' => e = .returned (.bool true) ∧ Below w.heap.size w w' := by
  have KA := Lib.hid ha
  replace hst := i64_of_wf hst
  obtain ⟨hst1, hst2⟩ := hst
  clear hu ha
  by_cases h0 : 100 < l.length
  · have h0' : decide (100 < (l.length : Int)) = true := by simp; omega
    have k_w : Below w.heap.size w w := Below.refl _ _
    go_enter Try.func7, Try.ntmps7
    go_wp2_with fail
    obtain ⟨w1, hw⟩ : ∃ W, w.alloc (.cells #[.int .i64 stop] 3) = W := ⟨_, rfl⟩
    rw [hw]
    have hbn : Below w.heap.size w w1 := by rw [← hw]; exact below_alloc1 (Below.refl _ _) _
    have b3 : w1.heap[w.heap.size]? = some (.cells #[.int .i64 stop] 3 (0, 0)) := by rw [← hw]; exact heap_alloc_new _ _
    clear hw
    have k_w_w1 : Below w.heap.size w w1 := k_w.trans (hbn.mono k_w.size)
    clear k_w
    clear hbn
    have b2 := b3
    clear b3
    have h_t0 : w1.cell? ⟨w.heap.size, 0, none⟩ = some (.int .i64 stop) := by simp [World.cell?, b2]
    have b_t := Lib.hid b2
    clear b2
    go_wp2_with fail
    refine (awake7_calls _  ).mono ?_
    rintro e w2 ⟨he, hbn⟩
    subst he
    have k_w_w2 : Below w.heap.size w w2 := k_w_w1.trans (hbn.mono k_w_w1.size)
    clear k_w_w1
    have b2 := obj_below hbn b_t.out (obj_lt b_t.out)
    clear b_t h_t0
    have h_t0 : w2.cell? ⟨w.heap.size, 0, none⟩ = some (.int .i64 stop) := by simp [World.cell?, b2]
    have b_t := Lib.hid b2
    clear b2
    clear hbn
    go_wp2_with fail
    go_ret
    exact ⟨rfl, k_w_w2⟩
  have h0' : decide (100 < (l.length : Int)) = false := by simp; omega
  replace h0 : l.length ≤ 100 := by omega
  have k_w : Below w.heap.size w w := Below.refl _ _
  refine (callsIn_wide (n := 5)).1 ?_
  refine callsIn_of_wp_marks Try.func7 rfl trivial ?_ rfl
  refine wpIn_wide.2 ?_
  simp only [Try.ntmps7, List.size_toArray, List.length_cons, List.length_nil, Nat.reduceAdd, Nat.reduceSub, Array.replicate_succ, Array.replicate_zero, List.push_toArray, List.append_toArray, List.nil_append, List.cons_append]
  go_wp2_with fail
  obtain ⟨w1, hw⟩ : ∃ W, w.alloc (.cells #[.int .i64 stop] 3) = W := ⟨_, rfl⟩
  rw [hw]
  have hbn : Below w.heap.size w w1 := by rw [← hw]; exact below_alloc1 (Below.refl _ _) _
  have b3 : w1.heap[w.heap.size]? = some (.cells #[.int .i64 stop] 3 (0, 0)) := by rw [← hw]; exact heap_alloc_new _ _
  clear hw
  have k_w_w1 : Below w.heap.size w w1 := k_w.trans (hbn.mono k_w.size)
  clear k_w
  clear hbn
  have b2 := b3
  clear b3
  have h_t0 : w1.cell? ⟨w.heap.size, 0, none⟩ = some (.int .i64 stop) := by simp [World.cell?, b2]
  have b_t := Lib.hid b2
  clear b2
  go_wp2_with fail
  refine (awake7_calls _  ).mono ?_
  rintro e w2 ⟨he, hbn⟩
  subst he
  have k_w_w2 : Below w.heap.size w w2 := k_w_w1.trans (hbn.mono k_w_w1.size)
  clear k_w_w1
  have b2 := obj_below hbn b_t.out (obj_lt b_t.out)
  clear b_t h_t0
  have h_t0 : w2.cell? ⟨w.heap.size, 0, none⟩ = some (.int .i64 stop) := by simp [World.cell?, b2]
  have b_t := Lib.hid b2
  clear b2
  clear hbn
  have hz2 := k_w_w2.size
  have hz1 := obj_lt b_t.out
  obtain ⟨N, hN⟩ : ∃ N, l.length = N := ⟨_, rfl⟩
  have HN := Lib.hid hN
  have hbw2 : Below w.heap.size w w2 := k_w_w2
  rw [hN] at h0' h0 hcl ⊢
  go_wp2_with fail
  refine (hN ▸ (NewR_calls A c l _ (KA.out.below hbw2) (by omega))).mono ?_
  rintro e w3 ⟨b, v, L, he, hlo, hH, hok, hpm, hbn⟩
  subst he
  have HH := Lib.hid hH
  have HOK := Lib.hid hok
  have HPM := Lib.hid hpm
  have hLN : L.length = N := by rw [hpm.length_eq, hN]
  have HLN := Lib.hid hLN
  clear hH hok hpm hN hLN hbw2
  have k_w_w3 : Below w.heap.size w w3 := k_w_w2.trans (hbn.mono k_w_w2.size)
  clear k_w_w2
  have b2 := obj_below hbn b_t.out (obj_lt b_t.out)
  clear b_t h_t0
  have h_t0 : w3.cell? ⟨w.heap.size, 0, none⟩ = some (.int .i64 stop) := by simp [World.cell?, b2]
  have b_t := Lib.hid b2
  clear b2
  clear hbn
  have hnn : ((N : Int) != (N : Int)) = false := by simp
  go_wp2_with fail
  refine (HLenR_calls b b v L _ HH.out).mono ?_
  rintro e _ ⟨he, q, rfl⟩
  rw [HLN.out] at he
  subst he
  obtain ⟨wq, hwq⟩ : ∃ W, w3.drewN q = W := ⟨_, rfl⟩
  have hbn : Below w3.heap.size w3 wq := by rw [← hwq]; exact below_drewN_self w3 q
  rw [hwq]
  clear hwq
  have HHq := Lib.hid (HH.out.keep hbn)
  have k_w_wq : Below w.heap.size w wq := k_w_w3.trans (hbn.mono k_w_w3.size)
  clear k_w_w3
  have b2 := obj_below hbn b_t.out (obj_lt b_t.out)
  clear b_t h_t0
  have h_t0 : wq.cell? ⟨w.heap.size, 0, none⟩ = some (.int .i64 stop) := by simp [World.cell?, b2]
  have b_t := Lib.hid b2
  clear b2
  clear hbn
  go_wp2_with fail
  obtain ⟨w4, hw4⟩ : ∃ W, wq.alloc (.cells #[.slice none 0 0] 49) = W := ⟨_, rfl⟩
  rw [hw4]
  have hbn4 : Below wq.heap.size wq w4 := by rw [← hw4]; exact below_alloc1 (Below.refl _ _) _
  have bo4 : w4.heap[wq.heap.size]? = some (.cells #[.slice none 0 0] 49 (0, 0)) := by rw [← hw4]; exact heap_alloc_new wq _
  have hz4 : w4.heap.size ≤ wq.heap.size + 1 ∧ wq.heap.size + 1 ≤ w4.heap.size := by rw [← hw4]; simp
  clear hw4
  refine (DrainR_calls b w4).mono ?_
  rintro e w5 ⟨he, hw5⟩
  subst he
  have hbn5 : Below w4.heap.size w4 w5 := by rw [hw5]; exact below_alloc1 (Below.refl _ _) _
  have bX5 : w5.heap[w4.heap.size]? = some (.cells #[.pointer (some ⟨b, 0, none⟩)] 50 (0, 0)) := by rw [hw5]; exact heap_alloc_new _ _
  have hz5 : w5.heap.size ≤ w4.heap.size + 1 ∧ w4.heap.size + 1 ≤ w5.heap.size := by rw [hw5]; simp
  have hbr5 : Below wq.heap.size wq w5 := hbn4.trans (hbn5.mono (by omega))
  have hwz := k_w_wq.size
  have hwb : w.heap.size < b := by omega
  have hI0 : DC w stop w.heap.size wq.heap.size (w5.heap.size + 2) [] w5 := ⟨k_w_wq.trans (hbr5.mono hwz), obj_below hbr5 b_t.out (obj_lt b_t.out), _, obj_below hbn5 bo4 (obj_lt bo4), OwnF.nil _ _ _⟩
  have HI0 := Lib.hid hI0
  have HH5 := Lib.hid (HHq.out.keep hbr5)
  have BX := Lib.hid bX5
  have hbb := HHq.out.lt
  have hLl : L.length ≤ 1000000 := by rw [HLN.out]; omega
  have hvo : ∀ k, OwnB v k → b ≤ k ∧ k < wq.heap.size := fun k hk => HHq.out.2.1.lt k hk
  have hDb : ∀ k, HpBR v b k → b ≤ k ∧ k < wq.heap.size := fun k h => h.elim (fun h => by omega) fun h => hvo k h
  have hrz := obj_lt b_t.out
  clear hbn4 hbn5 hw5 bX5 bo4 hI0
  go_wp2_with fail
  refine (wpIn_wide (n := 5)).1 ?_
  refine wpIn_rangeA rfl (by omega) (gf := 75) (lb := #[.pointer (some ⟨w4.heap.size, 0, none⟩)]) rfl trivial (enters_of Try.func75 (by kernel_rfl) rfl)
    (drainR_iter _ w4.heap.size b b v L w5 HH5.out HOK.out hLl BX.out (by omega) (fun k hk => by have := hvo k hk; omega))
    (fun k h => by have := hDb k h; omega) (fun h k => h.trans k) (fun W l o o' hl _ _ => KpH.putObj ⟨by omega, by omega, fun k hk => by have := hvo k hk; omega⟩ W l o' hl)
    (fun xs A B h hk => by obtain ⟨v', h1, h2, h3⟩ := h; exact ⟨v', h1.kp h3 hk, h2, h3⟩) (fun xs A B h hk => by obtain ⟨v', L, h1, h4, h2, h3⟩ := h; exact ⟨v', L, h1.kp h3 hk, h4, h2, h3⟩) (fun _ => rfl)
    (fun pre W => DC w stop w.heap.size wq.heap.size (w5.heap.size + 2) pre W ∧ ∀ j, 1 ≤ j → j ≤ pre.length → (j : Int) ≠ stop)
    (fun c pre W => c = .exit 0 ∧ DC w stop w.heap.size wq.heap.size (w5.heap.size + 2) pre W ∧ (pre.length : Int) = stop ∧ 1 ≤ pre.length)
    (fun pre A B h hs => ⟨h.1.only hs fun k hk => by
      rcases hk with hk | hk
      · have := hDb k hk; omega
      · omega, h.2⟩) (fun c pre A B h hs => ⟨h.1, h.2.1.only hs fun k hk => by
      rcases hk with hk | hk
      · have := hDb k hk; omega
      · omega, h.2.2⟩) ⟨HI0.out, fun j h1 h2 => by simp at h2; omega⟩ ?a1 (fun x W => W.alloc (.cells #[.int .i64 x.1, .int .i64 x.2] 41)) (fun x W => below_alloc1 (Below.refl _ _) _) (fun x W => Only.of_below (below_alloc1 (Below.refl _ _) _)) ?assign ?body ?done ?stop
  case assign =>
    intro l x W K hK
    gi_wp2
    exact hK
  case body =>
    clear HI0 HOK
    rintro l2 pre ⟨x1, x2⟩ A0 W0 W o' hW ⟨⟨t1, t2, v9, t3, t4⟩, hj⟩ hlen hsz _ _ _
    have hbx : W.heap[W0.heap.size]? = some (.cells #[.int .i64 x1, .int .i64 x2] 41 (0, 0)) := by
      rw [hW]; exact (World.putObj_heap_other (by omega)).trans (heap_alloc_new W0 _)
    obtain ⟨bB, hbB⟩ : ∃ bB, W0.heap.size = bB := ⟨_, rfl⟩
    have hbBn : w5.heap.size + 2 ≤ bB := by omega
    have hwW := t1.size
    rw [hbB] at hbx ⊢
    obtain ⟨A1, c1, rfl, hc1⟩ := t4.shape
    have hrow0 := t4
    unfold OwnF at hrow0
    obtain ⟨pn, hpn⟩ : ∃ pn, pre.length = pn := ⟨_, rfl⟩
    rw [hpn] at t3 hlen hj hrow0
    rw [HLN.out] at hlen
    have hct : W.cell? ⟨w.heap.size, 0, none⟩ = some (.int .i64 stop) := by simp [World.cell?, t2]
    have hco : W.cell? ⟨wq.heap.size, 0, none⟩ = some (.slice A1 pn c1) := by simp [World.cell?, t3]
    have hcb0 : W.cell? ⟨bB, 0, none⟩ = some (.int .i64 x1) := by simp [World.cell?, hbx]
    have hcb1 : W.cell? ⟨bB, 1, none⟩ = some (.int .i64 x2) := by simp [World.cell?, hbx]
    have hbWz := obj_lt hbx
    have hne : ¬ OwnB (.slice A1 pn c1) wq.heap.size := fun h => by have := own_base hrow0 _ h; omega
    have HW1 := Lib.hid (obj_below ((Below.refl W.heap.size W).alloc (Nat.le_refl _) (.cells #[.int .i64 x1, .int .i64 x2] 41)) t3 (obj_lt t3))
    have HWS := Lib.hid (obj_below ((Below.refl W.heap.size W).alloc (Nat.le_refl _) (.cells #[.int .i64 x1, .int .i64 x2] 41)) t2 (obj_lt t2))
    have hneS : ¬ OwnB (.slice A1 pn c1) w.heap.size := fun h => by have := own_base hrow0 _ h; omega
    have hbz : w5.heap.size + 2 ≤ (W.alloc (.cells #[.int .i64 x1, .int .i64 x2] 41)).heap.size := by rw [World.size_alloc]; omega
    have T1 := Lib.hid t1
    have T2 := Lib.hid t2
    have T4 := Lib.hid t4
    have HROW0 := Lib.hid hrow0
    have HPN := Lib.hid hpn
    have HJ := Lib.hid hj
    have hob5 : ∀ k, OwnB (.slice A1 pn c1) k → w5.heap.size + 2 ≤ k := fun k h => own_base hrow0 k h
    have hob6 : ∀ k, OwnB (.slice A1 pn c1) k → ∃ cs t f, W.heap[k]? = some (.cells cs t f) := fun k h => own_cells hrow0 k h
    have HOB6 := Lib.hid hob6
    have hpn6 : pn ≤ 1000000 := by omega
    clear t1 t2 t3 t4 hrow0 hj hW hbx hpn hob6
    by_cases hst : (pn : Int) + 1 = stop
    · have hst' : (((pn : Int) + 1) == stop) = true := by simp [hst]
      have HST := Lib.hid hst
      clear hst
      gi_wp2_with (gi_at_builtin; refine wpListIn_app _ rfl (.tmp 34) (.tmp 36) 49 41 rfl (.agg #[.int .i64 0, .int .i64 0]) 2 16 Try.underlying49 infoR rfl (by omega) (by omega) (w5.heap.size + 2) (.slice A1 pn c1) pn (pre.flatMap twoR) rfl (some ⟨W.heap.size, 0, none⟩) 1 1 rfl (own_alloc1 HROW0.out _) hbz [.int .i64 x1, .int .i64 x2] rfl (RdC.block (cs := #[.int .i64 x1, .int .i64 x2]) (heap_alloc_new _ _)) (two_one x1 x2) (by omega) ?_; intro v1 W2 hrow hob hv hnil; obtain ⟨A2, c2, hv2, _⟩ := own_shape hrow; subst hv2; have HROW := Lib.hid hrow; have HOB := Lib.hid hob; have hfz : W2.frozen? ⟨wq.heap.size, 0, none⟩ = false := free_blk (hob.obj HW1.out hne) 0; have hcw : W2.cell? ⟨wq.heap.size, 0, none⟩ = some (.slice A1 pn c1) := cell_blk (cs := [_]) (hob.obj HW1.out hne) 0; have hcs2 : W2.cell? ⟨w.heap.size, 0, none⟩ = some (.int .i64 stop) := cell_blk (cs := [_]) (hob.obj HWS.out hneS) 0; clear hrow hob hv hnil)
      obtain ⟨WE, hWE⟩ : ∃ WE, W2.setCell ⟨wq.heap.size, 0, none⟩ (.slice A2 (pn + 1) c2) = WE := ⟨_, rfl⟩
      rw [hWE]
      have hW : Only (fun _ => False) W (W.alloc (.cells #[.int .i64 x1, .int .i64 x2] 41)) := Only.of_below (below_alloc1 (Below.refl _ _) _)
      have hset : Only (fun b => b = wq.heap.size) W2 WE := by rw [← hWE]; exact only_set _ _ _ _
      have hall : Only (fun b => OwnB (.slice A1 pn c1) b ∨ b = wq.heap.size) W WE := ((hW.mono fun _ _ h => h.elim).trans (HOB.out.mono fun _ _ h => .inl h)).trans (hset.mono fun _ _ h => .inr h)
      have hkf : KeepsFrom w5.heap.size W WE := ⟨hall.size, fun k o hk hh hc => hall.obj hh fun h => by
        rcases h with h | h
        · obtain ⟨cs, t, f, hcs⟩ := HOB6.out k h
          rw [hh] at hcs
          injection hcs with hcs
          rw [hcs] at hc
          cases hc
        · omega⟩
      have hke : KpH v b w4.heap.size W WE := hall.mono fun k _ h he => by
        have h6 : w5.heap.size + 2 ≤ k ∨ k = wq.heap.size := h.imp (hob5 k) fun h => h
        rcases he with he | he | he
        · omega
        · have := hvo k he; omega
        · omega
      have hDC2 : DC w stop w.heap.size wq.heap.size (w5.heap.size + 2) (pre ++ [(x1, x2)]) WE := by
        refine ⟨T1.out.trans (hall.below T1.out.size fun k hk h => ?_), hall.obj T2.out fun h => ?_, _, by rw [← hWE]; exact set_blk (cs := [_]) (HOB.out.obj HW1.out hne) 0 _, ?_⟩
        · have h6 : w5.heap.size + 2 ≤ k ∨ k = wq.heap.size := h.imp (hob5 k) fun h => h
          omega
        · have h6 : w5.heap.size + 2 ≤ w.heap.size ∨ w.heap.size = wq.heap.size := h.imp (hob5 _) fun h => h
          omega
        · have h7 : OwnF W2 (w5.heap.size + 2) 41 2 twoR (.slice A2 (pn + 1) c2) (pre ++ [(x1, x2)]) := by
            have h8 := HROW.out
            unfold OwnF
            rw [show (pre ++ [(x1, x2)]).length = pn + 1 by simp [HPN.out]]
            simpa [twoR] using h8
          exact h7.only hset fun k hk e => by have := (h7.lt k hk).1; omega
      refine ⟨hkf, hke, rfl, hDC2, ?_⟩
      rw [← HST.out]
      exact ⟨by simp [HPN.out], by simp⟩
    · have hst' : (((pn : Int) + 1) == stop) = false := by simp [hst]
      have HST := Lib.hid hst
      clear hst
      gi_wp2_with (gi_at_builtin; refine wpListIn_app _ rfl (.tmp 34) (.tmp 36) 49 41 rfl (.agg #[.int .i64 0, .int .i64 0]) 2 16 Try.underlying49 infoR rfl (by omega) (by omega) (w5.heap.size + 2) (.slice A1 pn c1) pn (pre.flatMap twoR) rfl (some ⟨W.heap.size, 0, none⟩) 1 1 rfl (own_alloc1 HROW0.out _) hbz [.int .i64 x1, .int .i64 x2] rfl (RdC.block (cs := #[.int .i64 x1, .int .i64 x2]) (heap_alloc_new _ _)) (two_one x1 x2) (by omega) ?_; intro v1 W2 hrow hob hv hnil; obtain ⟨A2, c2, hv2, _⟩ := own_shape hrow; subst hv2; have HROW := Lib.hid hrow; have HOB := Lib.hid hob; have hfz : W2.frozen? ⟨wq.heap.size, 0, none⟩ = false := free_blk (hob.obj HW1.out hne) 0; have hcw : W2.cell? ⟨wq.heap.size, 0, none⟩ = some (.slice A1 pn c1) := cell_blk (cs := [_]) (hob.obj HW1.out hne) 0; have hcs2 : W2.cell? ⟨w.heap.size, 0, none⟩ = some (.int .i64 stop) := cell_blk (cs := [_]) (hob.obj HWS.out hneS) 0; clear hrow hob hv hnil)
      obtain ⟨WE, hWE⟩ : ∃ WE, W2.setCell ⟨wq.heap.size, 0, none⟩ (.slice A2 (pn + 1) c2) = WE := ⟨_, rfl⟩
      rw [hWE]
      have hW : Only (fun _ => False) W (W.alloc (.cells #[.int .i64 x1, .int .i64 x2] 41)) := Only.of_below (below_alloc1 (Below.refl _ _) _)
      have hset : Only (fun b => b = wq.heap.size) W2 WE := by rw [← hWE]; exact only_set _ _ _ _
      have hall : Only (fun b => OwnB (.slice A1 pn c1) b ∨ b = wq.heap.size) W WE := ((hW.mono fun _ _ h => h.elim).trans (HOB.out.mono fun _ _ h => .inl h)).trans (hset.mono fun _ _ h => .inr h)
      have hkf : KeepsFrom w5.heap.size W WE := ⟨hall.size, fun k o hk hh hc => hall.obj hh fun h => by
        rcases h with h | h
        · obtain ⟨cs, t, f, hcs⟩ := HOB6.out k h
          rw [hh] at hcs
          injection hcs with hcs
          rw [hcs] at hc
          cases hc
        · omega⟩
      have hke : KpH v b w4.heap.size W WE := hall.mono fun k _ h he => by
        have h6 : w5.heap.size + 2 ≤ k ∨ k = wq.heap.size := h.imp (hob5 k) fun h => h
        rcases he with he | he | he
        · omega
        · have := hvo k he; omega
        · omega
      have hDC2 : DC w stop w.heap.size wq.heap.size (w5.heap.size + 2) (pre ++ [(x1, x2)]) WE := by
        refine ⟨T1.out.trans (hall.below T1.out.size fun k hk h => ?_), hall.obj T2.out fun h => ?_, _, by rw [← hWE]; exact set_blk (cs := [_]) (HOB.out.obj HW1.out hne) 0 _, ?_⟩
        · have h6 : w5.heap.size + 2 ≤ k ∨ k = wq.heap.size := h.imp (hob5 k) fun h => h
          omega
        · have h6 : w5.heap.size + 2 ≤ w.heap.size ∨ w.heap.size = wq.heap.size := h.imp (hob5 _) fun h => h
          omega
        · have h7 : OwnF W2 (w5.heap.size + 2) 41 2 twoR (.slice A2 (pn + 1) c2) (pre ++ [(x1, x2)]) := by
            have h8 := HROW.out
            unfold OwnF
            rw [show (pre ++ [(x1, x2)]).length = pn + 1 by simp [HPN.out]]
            simpa [twoR] using h8
          exact h7.only hset fun k hk e => by have := (h7.lt k hk).1; omega
      refine ⟨hkf, hke, hDC2, fun j h1 h2 => ?_⟩
      by_cases hjm : j = pn + 1
      · rw [hjm]; exact HST.out
      · exact HJ.out j h1 (by simp [HPN.out] at h2; omega)
  case done =>
    rintro _ pre W rfl ⟨v', hH', hdr, hv'⟩ ⟨⟨t1, t2, v9, t3, t4⟩, hj⟩ hK
    clear HI0 HH5 BX HH HHq hbr5 k_w_wq h_t0 b_t
    have hpn : pre.length = N := by
      have h := hdr.len
      rw [HLN.out] at h
      simpa using h
    have hns : decide (0 < stop) = false ∨ (decide (0 < stop) = true ∧ decide (stop < (N : Int)) = false) := by
      by_cases h1 : 0 < stop
      · refine .inr ⟨decide_eq_true h1, decide_eq_false fun h2 => ?_⟩
        exact hj stop.toNat (by omega) (by omega) (by omega)
      · exact .inl (decide_eq_false h1)
    obtain ⟨Lr, hLr⟩ : ∃ Lr, ([] : List (Int × Int)) = Lr := ⟨_, rfl⟩
    have HOKR := Lib.hid (show HeapOk ltR Lr by rw [← hLr]; exact fun i a b h0 ha => by simp at ha)
    rw [hLr] at hH' hdr
    have HHW := Lib.hid hH'
    have HDR := Lib.hid (hdr.perm HPM.out)
    have HV := Lib.hid hv'
    have T1 := Lib.hid t1
    have T2 := Lib.hid t2
    have T3 := Lib.hid t3
    have T4 := Lib.hid t4
    have HPL := Lib.hid hpn
    have HK := Lib.hid hK
    have hct0 : W.cell? ⟨w.heap.size, 0, none⟩ = some (.int .i64 stop) := by simp [World.cell?, t2]
    clear hH' hdr hv' t1 t2 t3 t4 hj hpn hK hLr HOK HPM HLN hLl
    rcases hns with n1 | ⟨n1, n2⟩
    · skip
      have hpl : pre.length = N := HPL.out
      obtain ⟨Ap, cp, rfl, hcp⟩ := T4.out.shape
      have hrp := T4.out.rdp rfl
      have HRP := Lib.hid hrp
      have hfin : ∀ W', Below W.heap.size W W' → W'.heap[w5.heap.size]? = some (.deferred (some [])) := fun W' h => obj_below h HK.out (obj_lt HK.out)
      have HFIN := Lib.hid hfin
      have hbW := T1.out.size
      have hKz := obj_lt HK.out
      clear hpl hrp hfin
      go_wp2_with fail
      refine (HN.out ▸ (SortR_calls A c l W (KA.out.below T1.out) (by have := HN.out; omega))).mono ?_
      rintro e w7 ⟨vS, he, hOS, hb7⟩
      subst he
      obtain ⟨AS, cS, rfl, hcS⟩ := hOS.shape
      have hSl : (sortI ltR (0, 0) l).length = N := by rw [sortI_length, HN.out]
      rw [hSl] at hOS hcS ⊢
      have HOS := Lib.hid hOS
      have HSL := Lib.hid hSl
      have HB7 := Lib.hid hb7
      have hz7 := hb7.size
      have hp7 := HHW.out.keep hb7
      have HP7 := Lib.hid hp7
      have ht7 := obj_below hb7 T2.out (obj_lt T2.out)
      have ho7 := obj_below hb7 T3.out (obj_lt T3.out)
      have hct : w7.cell? ⟨w.heap.size, 0, none⟩ = some (.int .i64 stop) := by simp [World.cell?, ht7]
      have hco : w7.cell? ⟨wq.heap.size, 0, none⟩ = some (.slice Ap pre.length cp) := by simp [World.cell?, ho7]
      rw [HPL.out] at hco hcp
      have hLr : Lr.length + N = N := by
        have h := HDR.out.len
        rw [HPL.out, HN.out] at h
        omega
      obtain ⟨rn, hrn⟩ : ∃ rn, Lr.length = rn := ⟨_, rfl⟩
      have HRN := Lib.hid hrn
      have hrl : rn + N ≤ N ∧ N ≤ rn + N := by omega
      have hwr : IntKind.i64.wrap ((N : Int) - (N : Int)) = (rn : Int) := by rw [i64_w, show (N : Int) - (N : Int) = (rn : Int) by omega]; exact wrap64_id _ (by omega)
      have hr0 : ((rn : Int) != 0) = false := by rw [bne_eq_false_iff_eq]; omega
      have hrr : ((rn : Int) != (rn : Int)) = false := by simp
      have bpc : (N : Int) ≤ (cS : Int) := by omega
      have bp0 : (0 : Int) ≤ (N : Int) := by omega
      have HRS := Lib.hid (HOS.out.rdp rfl)
      have hSM : ∀ W', Below w7.heap.size w7 W' → Calls Try.prog 36 #[.slice Ap N cp, .slice AS N cS] W' fun e w' => e = .returned (.bool true) ∧ ∃ n, w' = W'.drewN n := fun W' hW' => by
        have h1 := HRP.out.below (hb7.trans (hW'.mono hz7))
        have h2 := (HRS.out.below hW').take N
        have htk := drn_take HDR.out
        rw [HPL.out] at htk
        rw [htk] at h2
        have h3 := SameR_calls Ap AS cp cS pre pre W' h1 h2
        rw [HPL.out] at h3
        simpa using h3
      have hLC : ∀ W', HpR W' b b v' Lr → Calls Try.prog 33 #[.pointer (some ⟨b, 0, none⟩)] W' fun e w' => e = .returned (.int .i64 rn) ∧ ∃ n, w' = W'.drewN n := fun W' h => by
        have h := HLenR_calls b b v' Lr W' h
        rw [HRN.out] at h
        exact h
      have HSM := Lib.hid hSM
      have HLC := Lib.hid hLC
      have hDq : ∀ k, HpBR v b k → k < wq.heap.size := fun k h => (hDb k h).2
      have hw7W := hb7
      clear hOS hSl hb7 hp7 ht7 ho7 hrn hSM hLC hw7W
      go_wp2_with fail
      go_quiet ((first | (go_at_call 36; exact Calls.quiet_of (HSM.out _ (below_drewN_self _ _))) | (go_at_call 33; exact Calls.quiet_of (HLC.out _ (HP7.out.keep (below_drewN_self _ _))))))
      obtain ⟨w8, hw8⟩ : ∃ w8, w7.drewN nq = w8 := ⟨_, rfl⟩
      have hb8 : Below w7.heap.size w7 w8 := by rw [← hw8]; exact below_drewN_self _ _
      rw [hw8]
      have HB8 := Lib.hid (HB7.out.trans (hb8.mono hz7))
      have HP8 := Lib.hid (HP7.out.keep hb8)
      have HO8 := Lib.hid (HOS.out.keep hb8)
      have hz8 := hb8.size
      clear hw8 hb8 hct hco
      go_wp2_with fail
      go_loopg [10] rn (fun kq v10 w' => ∃ p Lq vq, kq ≤ N ∧ v10 = .int .i64 ((N - kq : Nat) : Int) ∧ p.length = N - kq ∧ HpR w' b b vq Lq ∧ HeapOk ltR Lq ∧ Drn ltR l p Lq ∧ vq.ownBlock = v.ownBlock ∧ Only (HpBR v b) w8 w')
      case atStart => exact ⟨pre, Lr, v', by omega, by congr 2; omega, by rw [HPL.out]; omega, HP8.out, HOKR.out, HDR.out, HV.out, Only.refl _ _⟩
      case round =>
        clear HP8
        obtain ⟨p, Lq, vq, hk, rfl, hpl, hHq, hokq, hdrq, hvq, hon⟩ := hrel
        have HHQ := Lib.hid hHq
        have HOKQ := Lib.hid hokq
        have HDRQ := Lib.hid hdrq
        have HVQ := Lib.hid hvq
        have HON := Lib.hid hon
        have HPQ := Lib.hid hpl
        have hzr := hon.size
        have hlq : p.length + Lq.length = N := by rw [hdrq.len, HN.out]
        have hbelr : Below w.heap.size w wr := T1.out.trans ((HB8.out.mono hbW).trans (hon.below (by omega) fun k hk h => by have := hDb k h; omega))
        have hKr : wr.heap[w5.heap.size]? = some (.deferred (some [])) := hon.obj (HFIN.out _ HB8.out) fun h => by have := hDb _ h; omega
        have HBR := Lib.hid hbelr
        have HKR := Lib.hid hKr
        clear hHq hokq hdrq hvq hon hbelr hKr
        cases gk with
        | zero =>
          simp only [Nat.sub_zero] at hpl HPQ ⊢
          obtain rfl : Lq = [] := List.eq_nil_of_length_eq_zero (by omega)
          have hlt0 : ¬ ((N : Int) < (N : Int)) := by omega
          clear hpl hlq
          go_wp2_with fail
          refine (PopR_none b b vq _ HHQ.out).mono ?_
          rintro e w9 ⟨he, hb9⟩
          subst he
          have HB9 := Lib.hid hb9
          clear hb9
          go_wp2_with fail
          have hKF := obj_below (below_alloc1 HB9.out (.cells #[.int .i64 0, .int .i64 0] 41)) HKR.out (obj_lt HKR.out)
          exact ⟨by simp, .inl ⟨_, _, rfl, run_takeDeferred hKF, _, results_tmp rfl _ _ _, rfl, below_putObj9 (HBR.out.trans ((below_alloc1 HB9.out _).mono HBR.out.size)) (by omega) _⟩⟩
        | succ k1 =>
          obtain ⟨i, hi⟩ : ∃ i, N - (k1 + 1) = i := ⟨_, rfl⟩
          have hi2 : N - k1 = i + 1 := by omega
          have HI := Lib.hid hi2
          have hlt : i < N := by omega
          rw [hi] at hpl HPQ ⊢
          cases Lq with
          | nil => exact absurd hlq (by simp; omega)
          | cons x L0 =>
            obtain ⟨x0, x1⟩ := x
            have hL0 : L0.length ≤ 1000000 := by simp at hlq; omega
            clear hi hi2 hpl hlq
            go_wp2_with fail
            refine (PopR_some b b vq x0 x1 L0 _ HHQ.out HOKQ.out hL0).mono ?_
            rintro e w9 ⟨he, v2, L2, ⟨hH2, hok2, hon2, _⟩, hpm2, hv2⟩
            subst he
            have hdr2 := HDRQ.out.step ltR_wo HOKQ.out hpm2
            have hat := drn_at hdr2
            rw [HPQ.out] at hat
            have ho9 : Only (HpBR v b) wr w9 := hon2.mono fun k _ h => h.imp (fun h => h) fun h => by unfold OwnB at h ⊢; rw [← HVQ.out]; exact h
            have hoS : OwnF w9 W.heap.size 41 2 twoR (.slice AS N cS) (sortI ltR (0, 0) l) := (HO8.out.only (HON.out.trans ho9) fun k hk h => by have := hDq k h; have := (HO8.out.lt k hk).1; omega)
            obtain ⟨w10, hw10⟩ : ∃ W, w9.alloc (.cells #[.int .i64 x0, .int .i64 x1] 41) = W := ⟨_, rfl⟩
            have hb10 : Below w9.heap.size w9 w10 := by rw [← hw10]; exact below_alloc1 (Below.refl _ _) _
            have hx10 : w10.heap[w9.heap.size]? = some (.cells #[.int .i64 x0, .int .i64 x1] 41 (0, 0)) := by rw [← hw10]; exact heap_alloc_new _ _
            obtain ⟨g, y, hAS, _, _, hy, hcy, _, _⟩ := (hoS.keep hb10).at_ twoR_q i hlt (by omega)
            rw [hat] at hy
            injection hy with hy
            subst hy hAS
            have hy0 : w10.cell? ⟨g, i * 2, none⟩ = some (.int .i64 x0) := hcy 0 (by omega)
            have hy1 : w10.cell? ⟨g, i * 2 + 1, none⟩ = some (.int .i64 x1) := hcy 1 (by omega)
            have hb0 : w10.cell? ⟨w9.heap.size, 0, none⟩ = some (.int .i64 x0) := by simp [World.cell?, hx10]
            have hb1 : w10.cell? ⟨w9.heap.size, 1, none⟩ = some (.int .i64 x1) := by simp [World.cell?, hx10]
            have bi : (i : Int) < (N : Int) := by omega
            have H2 := Lib.hid (hH2.keep (hb10.trans ((below_drewN_self w10 0).mono hb10.size)))
            have HO2 := Lib.hid hok2
            have HD2 := Lib.hid hdr2
            have HV2 := Lib.hid (hv2.trans HVQ.out)
            have HN2 := Lib.hid ((HON.out.trans ho9).trans (Only.of_below hb10))
            clear hH2 hok2 hon2 hpm2 hv2 hdr2 hat ho9 hoS hb10 hx10 hcy
            go_wp2_with fail
            (try rw [hw10])
            clear hw10
            go_quiet (fail)
            go_wp2_with fail
            go_roundg k1
            case measure => omega
            case rel =>
              refine ⟨p ++ [(x0, x1)], L2, v2, by omega, by rw [HI.out]; rfl, by rw [HI.out]; simp [HPQ.out], H2.out.keep (below_drewN_self _ _), HO2.out, HD2.out, HV2.out, HN2.out.trans (Only.of_below (below_drewN_self _ _))⟩
    · skip
      have hpl : pre.length = N := HPL.out
      obtain ⟨Ap, cp, rfl, hcp⟩ := T4.out.shape
      have hrp := T4.out.rdp rfl
      have HRP := Lib.hid hrp
      have hfin : ∀ W', Below W.heap.size W W' → W'.heap[w5.heap.size]? = some (.deferred (some [])) := fun W' h => obj_below h HK.out (obj_lt HK.out)
      have HFIN := Lib.hid hfin
      have hbW := T1.out.size
      have hKz := obj_lt HK.out
      clear hpl hrp hfin
      go_wp2_with fail
      refine (HN.out ▸ (SortR_calls A c l W (KA.out.below T1.out) (by have := HN.out; omega))).mono ?_
      rintro e w7 ⟨vS, he, hOS, hb7⟩
      subst he
      obtain ⟨AS, cS, rfl, hcS⟩ := hOS.shape
      have hSl : (sortI ltR (0, 0) l).length = N := by rw [sortI_length, HN.out]
      rw [hSl] at hOS hcS ⊢
      have HOS := Lib.hid hOS
      have HSL := Lib.hid hSl
      have HB7 := Lib.hid hb7
      have hz7 := hb7.size
      have hp7 := HHW.out.keep hb7
      have HP7 := Lib.hid hp7
      have ht7 := obj_below hb7 T2.out (obj_lt T2.out)
      have ho7 := obj_below hb7 T3.out (obj_lt T3.out)
      have hct : w7.cell? ⟨w.heap.size, 0, none⟩ = some (.int .i64 stop) := by simp [World.cell?, ht7]
      have hco : w7.cell? ⟨wq.heap.size, 0, none⟩ = some (.slice Ap pre.length cp) := by simp [World.cell?, ho7]
      rw [HPL.out] at hco hcp
      have hLr : Lr.length + N = N := by
        have h := HDR.out.len
        rw [HPL.out, HN.out] at h
        omega
      obtain ⟨rn, hrn⟩ : ∃ rn, Lr.length = rn := ⟨_, rfl⟩
      have HRN := Lib.hid hrn
      have hrl : rn + N ≤ N ∧ N ≤ rn + N := by omega
      have hwr : IntKind.i64.wrap ((N : Int) - (N : Int)) = (rn : Int) := by rw [i64_w, show (N : Int) - (N : Int) = (rn : Int) by omega]; exact wrap64_id _ (by omega)
      have hr0 : ((rn : Int) != 0) = false := by rw [bne_eq_false_iff_eq]; omega
      have hrr : ((rn : Int) != (rn : Int)) = false := by simp
      have bpc : (N : Int) ≤ (cS : Int) := by omega
      have bp0 : (0 : Int) ≤ (N : Int) := by omega
      have HRS := Lib.hid (HOS.out.rdp rfl)
      have hSM : ∀ W', Below w7.heap.size w7 W' → Calls Try.prog 36 #[.slice Ap N cp, .slice AS N cS] W' fun e w' => e = .returned (.bool true) ∧ ∃ n, w' = W'.drewN n := fun W' hW' => by
        have h1 := HRP.out.below (hb7.trans (hW'.mono hz7))
        have h2 := (HRS.out.below hW').take N
        have htk := drn_take HDR.out
        rw [HPL.out] at htk
        rw [htk] at h2
        have h3 := SameR_calls Ap AS cp cS pre pre W' h1 h2
        rw [HPL.out] at h3
        simpa using h3
      have hLC : ∀ W', HpR W' b b v' Lr → Calls Try.prog 33 #[.pointer (some ⟨b, 0, none⟩)] W' fun e w' => e = .returned (.int .i64 rn) ∧ ∃ n, w' = W'.drewN n := fun W' h => by
        have h := HLenR_calls b b v' Lr W' h
        rw [HRN.out] at h
        exact h
      have HSM := Lib.hid hSM
      have HLC := Lib.hid hLC
      have hDq : ∀ k, HpBR v b k → k < wq.heap.size := fun k h => (hDb k h).2
      have hw7W := hb7
      clear hOS hSl hb7 hp7 ht7 ho7 hrn hSM hLC hw7W
      go_wp2_with fail
      go_quiet ((first | (go_at_call 36; exact Calls.quiet_of (HSM.out _ (below_drewN_self _ _))) | (go_at_call 33; exact Calls.quiet_of (HLC.out _ (HP7.out.keep (below_drewN_self _ _))))))
      obtain ⟨w8, hw8⟩ : ∃ w8, w7.drewN nq = w8 := ⟨_, rfl⟩
      have hb8 : Below w7.heap.size w7 w8 := by rw [← hw8]; exact below_drewN_self _ _
      rw [hw8]
      have HB8 := Lib.hid (HB7.out.trans (hb8.mono hz7))
      have HP8 := Lib.hid (HP7.out.keep hb8)
      have HO8 := Lib.hid (HOS.out.keep hb8)
      have hz8 := hb8.size
      clear hw8 hb8 hct hco
      go_wp2_with fail
      go_loopg [10] rn (fun kq v10 w' => ∃ p Lq vq, kq ≤ N ∧ v10 = .int .i64 ((N - kq : Nat) : Int) ∧ p.length = N - kq ∧ HpR w' b b vq Lq ∧ HeapOk ltR Lq ∧ Drn ltR l p Lq ∧ vq.ownBlock = v.ownBlock ∧ Only (HpBR v b) w8 w')
      case atStart => exact ⟨pre, Lr, v', by omega, by congr 2; omega, by rw [HPL.out]; omega, HP8.out, HOKR.out, HDR.out, HV.out, Only.refl _ _⟩
      case round =>
        clear HP8
        obtain ⟨p, Lq, vq, hk, rfl, hpl, hHq, hokq, hdrq, hvq, hon⟩ := hrel
        have HHQ := Lib.hid hHq
        have HOKQ := Lib.hid hokq
        have HDRQ := Lib.hid hdrq
        have HVQ := Lib.hid hvq
        have HON := Lib.hid hon
        have HPQ := Lib.hid hpl
        have hzr := hon.size
        have hlq : p.length + Lq.length = N := by rw [hdrq.len, HN.out]
        have hbelr : Below w.heap.size w wr := T1.out.trans ((HB8.out.mono hbW).trans (hon.below (by omega) fun k hk h => by have := hDb k h; omega))
        have hKr : wr.heap[w5.heap.size]? = some (.deferred (some [])) := hon.obj (HFIN.out _ HB8.out) fun h => by have := hDb _ h; omega
        have HBR := Lib.hid hbelr
        have HKR := Lib.hid hKr
        clear hHq hokq hdrq hvq hon hbelr hKr
        cases gk with
        | zero =>
          simp only [Nat.sub_zero] at hpl HPQ ⊢
          obtain rfl : Lq = [] := List.eq_nil_of_length_eq_zero (by omega)
          have hlt0 : ¬ ((N : Int) < (N : Int)) := by omega
          clear hpl hlq
          go_wp2_with fail
          refine (PopR_none b b vq _ HHQ.out).mono ?_
          rintro e w9 ⟨he, hb9⟩
          subst he
          have HB9 := Lib.hid hb9
          clear hb9
          go_wp2_with fail
          have hKF := obj_below (below_alloc1 HB9.out (.cells #[.int .i64 0, .int .i64 0] 41)) HKR.out (obj_lt HKR.out)
          exact ⟨by simp, .inl ⟨_, _, rfl, run_takeDeferred hKF, _, results_tmp rfl _ _ _, rfl, below_putObj9 (HBR.out.trans ((below_alloc1 HB9.out _).mono HBR.out.size)) (by omega) _⟩⟩
        | succ k1 =>
          obtain ⟨i, hi⟩ : ∃ i, N - (k1 + 1) = i := ⟨_, rfl⟩
          have hi2 : N - k1 = i + 1 := by omega
          have HI := Lib.hid hi2
          have hlt : i < N := by omega
          rw [hi] at hpl HPQ ⊢
          cases Lq with
          | nil => exact absurd hlq (by simp; omega)
          | cons x L0 =>
            obtain ⟨x0, x1⟩ := x
            have hL0 : L0.length ≤ 1000000 := by simp at hlq; omega
            clear hi hi2 hpl hlq
            go_wp2_with fail
            refine (PopR_some b b vq x0 x1 L0 _ HHQ.out HOKQ.out hL0).mono ?_
            rintro e w9 ⟨he, v2, L2, ⟨hH2, hok2, hon2, _⟩, hpm2, hv2⟩
            subst he
            have hdr2 := HDRQ.out.step ltR_wo HOKQ.out hpm2
            have hat := drn_at hdr2
            rw [HPQ.out] at hat
            have ho9 : Only (HpBR v b) wr w9 := hon2.mono fun k _ h => h.imp (fun h => h) fun h => by unfold OwnB at h ⊢; rw [← HVQ.out]; exact h
            have hoS : OwnF w9 W.heap.size 41 2 twoR (.slice AS N cS) (sortI ltR (0, 0) l) := (HO8.out.only (HON.out.trans ho9) fun k hk h => by have := hDq k h; have := (HO8.out.lt k hk).1; omega)
            obtain ⟨w10, hw10⟩ : ∃ W, w9.alloc (.cells #[.int .i64 x0, .int .i64 x1] 41) = W := ⟨_, rfl⟩
            have hb10 : Below w9.heap.size w9 w10 := by rw [← hw10]; exact below_alloc1 (Below.refl _ _) _
            have hx10 : w10.heap[w9.heap.size]? = some (.cells #[.int .i64 x0, .int .i64 x1] 41 (0, 0)) := by rw [← hw10]; exact heap_alloc_new _ _
            obtain ⟨g, y, hAS, _, _, hy, hcy, _, _⟩ := (hoS.keep hb10).at_ twoR_q i hlt (by omega)
            rw [hat] at hy
            injection hy with hy
            subst hy hAS
            have hy0 : w10.cell? ⟨g, i * 2, none⟩ = some (.int .i64 x0) := hcy 0 (by omega)
            have hy1 : w10.cell? ⟨g, i * 2 + 1, none⟩ = some (.int .i64 x1) := hcy 1 (by omega)
            have hb0 : w10.cell? ⟨w9.heap.size, 0, none⟩ = some (.int .i64 x0) := by simp [World.cell?, hx10]
            have hb1 : w10.cell? ⟨w9.heap.size, 1, none⟩ = some (.int .i64 x1) := by simp [World.cell?, hx10]
            have bi : (i : Int) < (N : Int) := by omega
            have H2 := Lib.hid (hH2.keep (hb10.trans ((below_drewN_self w10 0).mono hb10.size)))
            have HO2 := Lib.hid hok2
            have HD2 := Lib.hid hdr2
            have HV2 := Lib.hid (hv2.trans HVQ.out)
            have HN2 := Lib.hid ((HON.out.trans ho9).trans (Only.of_below hb10))
            clear hH2 hok2 hon2 hpm2 hv2 hdr2 hat ho9 hoS hb10 hx10 hcy
            go_wp2_with fail
            (try rw [hw10])
            clear hw10
            go_quiet (fail)
            go_wp2_with fail
            go_roundg k1
            case measure => omega
            case rel =>
              refine ⟨p ++ [(x0, x1)], L2, v2, by omega, by rw [HI.out]; rfl, by rw [HI.out]; simp [HPQ.out], H2.out.keep (below_drewN_self _ _), HO2.out, HD2.out, HV2.out, HN2.out.trans (Only.of_below (below_drewN_self _ _))⟩
  case stop =>
    rintro _ cc pre W rfl ⟨v', Lr, hH', hok', hdr, hv'⟩ ⟨rfl, ⟨t1, t2, v9, t3, t4⟩, hst, hp1⟩ hK
    clear HI0 HH5 BX HH HHq hbr5 k_w_wq h_t0 b_t
    refine wpIn_wide.2 ?_
    have hpN : pre.length ≤ N := by
      have h := hdr.len
      rw [HLN.out] at h
      omega
    obtain ⟨pn, hpn⟩ : ∃ pn, pre.length = pn := ⟨_, rfl⟩
    rw [hpn] at hst hpN hp1
    subst hst
    have HOKR := Lib.hid hok'
    have HHW := Lib.hid hH'
    have HDR := Lib.hid (hdr.perm HPM.out)
    have HV := Lib.hid hv'
    have T1 := Lib.hid t1
    have T2 := Lib.hid t2
    have T3 := Lib.hid t3
    have T4 := Lib.hid t4
    have HPL := Lib.hid hpn
    have HK := Lib.hid hK
    have hct0 : W.cell? ⟨w.heap.size, 0, none⟩ = some (.int .i64 pn) := by simp [World.cell?, t2]
    clear hH' hok' hdr hv' t1 t2 t3 t4 hpn hK HOK HPM HLN hLl
    have n1 : decide (0 < pn) = true := decide_eq_true (by omega)
    by_cases hlt9 : pn < N
    · have n2 : decide (pn < N) = true := decide_eq_true hlt9
      have hpl : pre.length = pn := HPL.out
      obtain ⟨Ap, cp, rfl, hcp⟩ := T4.out.shape
      have hrp := T4.out.rdp rfl
      have HRP := Lib.hid hrp
      have hfin : ∀ W', Below W.heap.size W W' → W'.heap[w5.heap.size]? = some (.deferred (some [])) := fun W' h => obj_below h HK.out (obj_lt HK.out)
      have HFIN := Lib.hid hfin
      have hbW := T1.out.size
      have hKz := obj_lt HK.out
      clear hpl hrp hfin
      go_wp2_with fail
      refine (HN.out ▸ (SortR_calls A c l W (KA.out.below T1.out) (by have := HN.out; omega))).mono ?_
      rintro e w7 ⟨vS, he, hOS, hb7⟩
      subst he
      obtain ⟨AS, cS, rfl, hcS⟩ := hOS.shape
      have hSl : (sortI ltR (0, 0) l).length = N := by rw [sortI_length, HN.out]
      rw [hSl] at hOS hcS ⊢
      have HOS := Lib.hid hOS
      have HSL := Lib.hid hSl
      have HB7 := Lib.hid hb7
      have hz7 := hb7.size
      have hp7 := HHW.out.keep hb7
      have HP7 := Lib.hid hp7
      have ht7 := obj_below hb7 T2.out (obj_lt T2.out)
      have ho7 := obj_below hb7 T3.out (obj_lt T3.out)
      have hct : w7.cell? ⟨w.heap.size, 0, none⟩ = some (.int .i64 (pn : Int)) := by simp [World.cell?, ht7]
      have hco : w7.cell? ⟨wq.heap.size, 0, none⟩ = some (.slice Ap pre.length cp) := by simp [World.cell?, ho7]
      rw [HPL.out] at hco hcp
      have hLr : Lr.length + pn = N := by
        have h := HDR.out.len
        rw [HPL.out, HN.out] at h
        omega
      obtain ⟨rn, hrn⟩ : ∃ rn, Lr.length = rn := ⟨_, rfl⟩
      have HRN := Lib.hid hrn
      have hrl : rn + pn ≤ N ∧ N ≤ rn + pn := by omega
      have hwr : IntKind.i64.wrap ((N : Int) - (pn : Int)) = (rn : Int) := by rw [i64_w, show (N : Int) - (pn : Int) = (rn : Int) by omega]; exact wrap64_id _ (by omega)
      have hrr : ((rn : Int) != (rn : Int)) = false := by simp
      have bpc : (pn : Int) ≤ (cS : Int) := by omega
      have bp0 : (0 : Int) ≤ (pn : Int) := by omega
      have HRS := Lib.hid (HOS.out.rdp rfl)
      have hSM : ∀ W', Below w7.heap.size w7 W' → Calls Try.prog 36 #[.slice Ap pn cp, .slice AS pn cS] W' fun e w' => e = .returned (.bool true) ∧ ∃ n, w' = W'.drewN n := fun W' hW' => by
        have h1 := HRP.out.below (hb7.trans (hW'.mono hz7))
        have h2 := (HRS.out.below hW').take pn
        have htk := drn_take HDR.out
        rw [HPL.out] at htk
        rw [htk] at h2
        have h3 := SameR_calls Ap AS cp cS pre pre W' h1 h2
        rw [HPL.out] at h3
        simpa using h3
      have hLC : ∀ W', HpR W' b b v' Lr → Calls Try.prog 33 #[.pointer (some ⟨b, 0, none⟩)] W' fun e w' => e = .returned (.int .i64 rn) ∧ ∃ n, w' = W'.drewN n := fun W' h => by
        have h := HLenR_calls b b v' Lr W' h
        rw [HRN.out] at h
        exact h
      have HSM := Lib.hid hSM
      have HLC := Lib.hid hLC
      have hDq : ∀ k, HpBR v b k → k < wq.heap.size := fun k h => (hDb k h).2
      have hw7W := hb7
      clear hOS hSl hb7 hp7 ht7 ho7 hrn hSM hLC hw7W
      go_wp2_with fail
      go_quiet ((first | (go_at_call 36; exact Calls.quiet_of (HSM.out _ (below_drewN_self _ _))) | (go_at_call 33; exact Calls.quiet_of (HLC.out _ (HP7.out.keep (below_drewN_self _ _))))))
      obtain ⟨w8, hw8⟩ : ∃ w8, w7.drewN nq = w8 := ⟨_, rfl⟩
      have hb8 : Below w7.heap.size w7 w8 := by rw [← hw8]; exact below_drewN_self _ _
      rw [hw8]
      have HB8 := Lib.hid (HB7.out.trans (hb8.mono hz7))
      have HP8 := Lib.hid (HP7.out.keep hb8)
      have HO8 := Lib.hid (HOS.out.keep hb8)
      have hz8 := hb8.size
      clear hw8 hb8 hct hco
      go_wp2_with fail
      go_loopg [10] rn (fun kq v10 w' => ∃ p Lq vq, kq ≤ N ∧ v10 = .int .i64 ((N - kq : Nat) : Int) ∧ p.length = N - kq ∧ HpR w' b b vq Lq ∧ HeapOk ltR Lq ∧ Drn ltR l p Lq ∧ vq.ownBlock = v.ownBlock ∧ Only (HpBR v b) w8 w')
      case atStart => exact ⟨pre, Lr, v', by omega, by congr 2; omega, by rw [HPL.out]; omega, HP8.out, HOKR.out, HDR.out, HV.out, Only.refl _ _⟩
      case round =>
        clear HP8
        obtain ⟨p, Lq, vq, hk, rfl, hpl, hHq, hokq, hdrq, hvq, hon⟩ := hrel
        have HHQ := Lib.hid hHq
        have HOKQ := Lib.hid hokq
        have HDRQ := Lib.hid hdrq
        have HVQ := Lib.hid hvq
        have HON := Lib.hid hon
        have HPQ := Lib.hid hpl
        have hzr := hon.size
        have hlq : p.length + Lq.length = N := by rw [hdrq.len, HN.out]
        have hbelr : Below w.heap.size w wr := T1.out.trans ((HB8.out.mono hbW).trans (hon.below (by omega) fun k hk h => by have := hDb k h; omega))
        have hKr : wr.heap[w5.heap.size]? = some (.deferred (some [])) := hon.obj (HFIN.out _ HB8.out) fun h => by have := hDb _ h; omega
        have HBR := Lib.hid hbelr
        have HKR := Lib.hid hKr
        clear hHq hokq hdrq hvq hon hbelr hKr
        cases gk with
        | zero =>
          simp only [Nat.sub_zero] at hpl HPQ ⊢
          obtain rfl : Lq = [] := List.eq_nil_of_length_eq_zero (by omega)
          have hlt0 : ¬ ((N : Int) < (N : Int)) := by omega
          clear hpl hlq
          go_wp2_with fail
          refine (PopR_none b b vq _ HHQ.out).mono ?_
          rintro e w9 ⟨he, hb9⟩
          subst he
          have HB9 := Lib.hid hb9
          clear hb9
          go_wp2_with fail
          have hKF := obj_below (below_alloc1 HB9.out (.cells #[.int .i64 0, .int .i64 0] 41)) HKR.out (obj_lt HKR.out)
          exact ⟨by simp, .inl ⟨_, _, rfl, run_takeDeferred hKF, _, results_tmp rfl _ _ _, rfl, below_putObj9 (HBR.out.trans ((below_alloc1 HB9.out _).mono HBR.out.size)) (by omega) _⟩⟩
        | succ k1 =>
          obtain ⟨i, hi⟩ : ∃ i, N - (k1 + 1) = i := ⟨_, rfl⟩
          have hi2 : N - k1 = i + 1 := by omega
          have HI := Lib.hid hi2
          have hlt : i < N := by omega
          rw [hi] at hpl HPQ ⊢
          cases Lq with
          | nil => exact absurd hlq (by simp; omega)
          | cons x L0 =>
            obtain ⟨x0, x1⟩ := x
            have hL0 : L0.length ≤ 1000000 := by simp at hlq; omega
            clear hi hi2 hpl hlq
            go_wp2_with fail
            refine (PopR_some b b vq x0 x1 L0 _ HHQ.out HOKQ.out hL0).mono ?_
            rintro e w9 ⟨he, v2, L2, ⟨hH2, hok2, hon2, _⟩, hpm2, hv2⟩
            subst he
            have hdr2 := HDRQ.out.step ltR_wo HOKQ.out hpm2
            have hat := drn_at hdr2
            rw [HPQ.out] at hat
            have ho9 : Only (HpBR v b) wr w9 := hon2.mono fun k _ h => h.imp (fun h => h) fun h => by unfold OwnB at h ⊢; rw [← HVQ.out]; exact h
            have hoS : OwnF w9 W.heap.size 41 2 twoR (.slice AS N cS) (sortI ltR (0, 0) l) := (HO8.out.only (HON.out.trans ho9) fun k hk h => by have := hDq k h; have := (HO8.out.lt k hk).1; omega)
            obtain ⟨w10, hw10⟩ : ∃ W, w9.alloc (.cells #[.int .i64 x0, .int .i64 x1] 41) = W := ⟨_, rfl⟩
            have hb10 : Below w9.heap.size w9 w10 := by rw [← hw10]; exact below_alloc1 (Below.refl _ _) _
            have hx10 : w10.heap[w9.heap.size]? = some (.cells #[.int .i64 x0, .int .i64 x1] 41 (0, 0)) := by rw [← hw10]; exact heap_alloc_new _ _
            obtain ⟨g, y, hAS, _, _, hy, hcy, _, _⟩ := (hoS.keep hb10).at_ twoR_q i hlt (by omega)
            rw [hat] at hy
            injection hy with hy
            subst hy hAS
            have hy0 : w10.cell? ⟨g, i * 2, none⟩ = some (.int .i64 x0) := hcy 0 (by omega)
            have hy1 : w10.cell? ⟨g, i * 2 + 1, none⟩ = some (.int .i64 x1) := hcy 1 (by omega)
            have hb0 : w10.cell? ⟨w9.heap.size, 0, none⟩ = some (.int .i64 x0) := by simp [World.cell?, hx10]
            have hb1 : w10.cell? ⟨w9.heap.size, 1, none⟩ = some (.int .i64 x1) := by simp [World.cell?, hx10]
            have bi : (i : Int) < (N : Int) := by omega
            have H2 := Lib.hid (hH2.keep (hb10.trans ((below_drewN_self w10 0).mono hb10.size)))
            have HO2 := Lib.hid hok2
            have HD2 := Lib.hid hdr2
            have HV2 := Lib.hid (hv2.trans HVQ.out)
            have HN2 := Lib.hid ((HON.out.trans ho9).trans (Only.of_below hb10))
            clear hH2 hok2 hon2 hpm2 hv2 hdr2 hat ho9 hoS hb10 hx10 hcy
            go_wp2_with fail
            (try rw [hw10])
            clear hw10
            go_quiet (fail)
            go_wp2_with fail
            go_roundg k1
            case measure => omega
            case rel =>
              refine ⟨p ++ [(x0, x1)], L2, v2, by omega, by rw [HI.out]; rfl, by rw [HI.out]; simp [HPQ.out], H2.out.keep (below_drewN_self _ _), HO2.out, HD2.out, HV2.out, HN2.out.trans (Only.of_below (below_drewN_self _ _))⟩
    · obtain rfl : N = pn := by omega
      have hpl : pre.length = N := HPL.out
      obtain ⟨Ap, cp, rfl, hcp⟩ := T4.out.shape
      have hrp := T4.out.rdp rfl
      have HRP := Lib.hid hrp
      have hfin : ∀ W', Below W.heap.size W W' → W'.heap[w5.heap.size]? = some (.deferred (some [])) := fun W' h => obj_below h HK.out (obj_lt HK.out)
      have HFIN := Lib.hid hfin
      have hbW := T1.out.size
      have hKz := obj_lt HK.out
      clear hpl hrp hfin
      go_wp2_with fail
      refine (HN.out ▸ (SortR_calls A c l W (KA.out.below T1.out) (by have := HN.out; omega))).mono ?_
      rintro e w7 ⟨vS, he, hOS, hb7⟩
      subst he
      obtain ⟨AS, cS, rfl, hcS⟩ := hOS.shape
      have hSl : (sortI ltR (0, 0) l).length = N := by rw [sortI_length, HN.out]
      rw [hSl] at hOS hcS ⊢
      have HOS := Lib.hid hOS
      have HSL := Lib.hid hSl
      have HB7 := Lib.hid hb7
      have hz7 := hb7.size
      have hp7 := HHW.out.keep hb7
      have HP7 := Lib.hid hp7
      have ht7 := obj_below hb7 T2.out (obj_lt T2.out)
      have ho7 := obj_below hb7 T3.out (obj_lt T3.out)
      have hct : w7.cell? ⟨w.heap.size, 0, none⟩ = some (.int .i64 (N : Int)) := by simp [World.cell?, ht7]
      have hco : w7.cell? ⟨wq.heap.size, 0, none⟩ = some (.slice Ap pre.length cp) := by simp [World.cell?, ho7]
      rw [HPL.out] at hco hcp
      have hLr : Lr.length + N = N := by
        have h := HDR.out.len
        rw [HPL.out, HN.out] at h
        omega
      obtain ⟨rn, hrn⟩ : ∃ rn, Lr.length = rn := ⟨_, rfl⟩
      have HRN := Lib.hid hrn
      have hrl : rn + N ≤ N ∧ N ≤ rn + N := by omega
      have hwr : IntKind.i64.wrap ((N : Int) - (N : Int)) = (rn : Int) := by rw [i64_w, show (N : Int) - (N : Int) = (rn : Int) by omega]; exact wrap64_id _ (by omega)
      have hr0 : ((rn : Int) != 0) = false := by rw [bne_eq_false_iff_eq]; omega
      have hrr : ((rn : Int) != (rn : Int)) = false := by simp
      have bpc : (N : Int) ≤ (cS : Int) := by omega
      have bp0 : (0 : Int) ≤ (N : Int) := by omega
      have HRS := Lib.hid (HOS.out.rdp rfl)
      have hSM : ∀ W', Below w7.heap.size w7 W' → Calls Try.prog 36 #[.slice Ap N cp, .slice AS N cS] W' fun e w' => e = .returned (.bool true) ∧ ∃ n, w' = W'.drewN n := fun W' hW' => by
        have h1 := HRP.out.below (hb7.trans (hW'.mono hz7))
        have h2 := (HRS.out.below hW').take N
        have htk := drn_take HDR.out
        rw [HPL.out] at htk
        rw [htk] at h2
        have h3 := SameR_calls Ap AS cp cS pre pre W' h1 h2
        rw [HPL.out] at h3
        simpa using h3
      have hLC : ∀ W', HpR W' b b v' Lr → Calls Try.prog 33 #[.pointer (some ⟨b, 0, none⟩)] W' fun e w' => e = .returned (.int .i64 rn) ∧ ∃ n, w' = W'.drewN n := fun W' h => by
        have h := HLenR_calls b b v' Lr W' h
        rw [HRN.out] at h
        exact h
      have HSM := Lib.hid hSM
      have HLC := Lib.hid hLC
      have hDq : ∀ k, HpBR v b k → k < wq.heap.size := fun k h => (hDb k h).2
      have hw7W := hb7
      clear hOS hSl hb7 hp7 ht7 ho7 hrn hSM hLC hw7W
      go_wp2_with fail
      go_quiet ((first | (go_at_call 36; exact Calls.quiet_of (HSM.out _ (below_drewN_self _ _))) | (go_at_call 33; exact Calls.quiet_of (HLC.out _ (HP7.out.keep (below_drewN_self _ _))))))
      obtain ⟨w8, hw8⟩ : ∃ w8, w7.drewN nq = w8 := ⟨_, rfl⟩
      have hb8 : Below w7.heap.size w7 w8 := by rw [← hw8]; exact below_drewN_self _ _
      rw [hw8]
      have HB8 := Lib.hid (HB7.out.trans (hb8.mono hz7))
      have HP8 := Lib.hid (HP7.out.keep hb8)
      have HO8 := Lib.hid (HOS.out.keep hb8)
      have hz8 := hb8.size
      clear hw8 hb8 hct hco
      go_wp2_with fail
      go_loopg [10] rn (fun kq v10 w' => ∃ p Lq vq, kq ≤ N ∧ v10 = .int .i64 ((N - kq : Nat) : Int) ∧ p.length = N - kq ∧ HpR w' b b vq Lq ∧ HeapOk ltR Lq ∧ Drn ltR l p Lq ∧ vq.ownBlock = v.ownBlock ∧ Only (HpBR v b) w8 w')
      case atStart => exact ⟨pre, Lr, v', by omega, by congr 2; omega, by rw [HPL.out]; omega, HP8.out, HOKR.out, HDR.out, HV.out, Only.refl _ _⟩
      case round =>
        clear HP8
        obtain ⟨p, Lq, vq, hk, rfl, hpl, hHq, hokq, hdrq, hvq, hon⟩ := hrel
        have HHQ := Lib.hid hHq
        have HOKQ := Lib.hid hokq
        have HDRQ := Lib.hid hdrq
        have HVQ := Lib.hid hvq
        have HON := Lib.hid hon
        have HPQ := Lib.hid hpl
        have hzr := hon.size
        have hlq : p.length + Lq.length = N := by rw [hdrq.len, HN.out]
        have hbelr : Below w.heap.size w wr := T1.out.trans ((HB8.out.mono hbW).trans (hon.below (by omega) fun k hk h => by have := hDb k h; omega))
        have hKr : wr.heap[w5.heap.size]? = some (.deferred (some [])) := hon.obj (HFIN.out _ HB8.out) fun h => by have := hDb _ h; omega
        have HBR := Lib.hid hbelr
        have HKR := Lib.hid hKr
        clear hHq hokq hdrq hvq hon hbelr hKr
        cases gk with
        | zero =>
          simp only [Nat.sub_zero] at hpl HPQ ⊢
          obtain rfl : Lq = [] := List.eq_nil_of_length_eq_zero (by omega)
          have hlt0 : ¬ ((N : Int) < (N : Int)) := by omega
          clear hpl hlq
          go_wp2_with fail
          refine (PopR_none b b vq _ HHQ.out).mono ?_
          rintro e w9 ⟨he, hb9⟩
          subst he
          have HB9 := Lib.hid hb9
          clear hb9
          go_wp2_with fail
          have hKF := obj_below (below_alloc1 HB9.out (.cells #[.int .i64 0, .int .i64 0] 41)) HKR.out (obj_lt HKR.out)
          exact ⟨by simp, .inl ⟨_, _, rfl, run_takeDeferred hKF, _, results_tmp rfl _ _ _, rfl, below_putObj9 (HBR.out.trans ((below_alloc1 HB9.out _).mono HBR.out.size)) (by omega) _⟩⟩
        | succ k1 =>
          obtain ⟨i, hi⟩ : ∃ i, N - (k1 + 1) = i := ⟨_, rfl⟩
          have hi2 : N - k1 = i + 1 := by omega
          have HI := Lib.hid hi2
          have hlt : i < N := by omega
          rw [hi] at hpl HPQ ⊢
          cases Lq with
          | nil => exact absurd hlq (by simp; omega)
          | cons x L0 =>
            obtain ⟨x0, x1⟩ := x
            have hL0 : L0.length ≤ 1000000 := by simp at hlq; omega
            clear hi hi2 hpl hlq
            go_wp2_with fail
            refine (PopR_some b b vq x0 x1 L0 _ HHQ.out HOKQ.out hL0).mono ?_
            rintro e w9 ⟨he, v2, L2, ⟨hH2, hok2, hon2, _⟩, hpm2, hv2⟩
            subst he
            have hdr2 := HDRQ.out.step ltR_wo HOKQ.out hpm2
            have hat := drn_at hdr2
            rw [HPQ.out] at hat
            have ho9 : Only (HpBR v b) wr w9 := hon2.mono fun k _ h => h.imp (fun h => h) fun h => by unfold OwnB at h ⊢; rw [← HVQ.out]; exact h
            have hoS : OwnF w9 W.heap.size 41 2 twoR (.slice AS N cS) (sortI ltR (0, 0) l) := (HO8.out.only (HON.out.trans ho9) fun k hk h => by have := hDq k h; have := (HO8.out.lt k hk).1; omega)
            obtain ⟨w10, hw10⟩ : ∃ W, w9.alloc (.cells #[.int .i64 x0, .int .i64 x1] 41) = W := ⟨_, rfl⟩
            have hb10 : Below w9.heap.size w9 w10 := by rw [← hw10]; exact below_alloc1 (Below.refl _ _) _
            have hx10 : w10.heap[w9.heap.size]? = some (.cells #[.int .i64 x0, .int .i64 x1] 41 (0, 0)) := by rw [← hw10]; exact heap_alloc_new _ _
            obtain ⟨g, y, hAS, _, _, hy, hcy, _, _⟩ := (hoS.keep hb10).at_ twoR_q i hlt (by omega)
            rw [hat] at hy
            injection hy with hy
            subst hy hAS
            have hy0 : w10.cell? ⟨g, i * 2, none⟩ = some (.int .i64 x0) := hcy 0 (by omega)
            have hy1 : w10.cell? ⟨g, i * 2 + 1, none⟩ = some (.int .i64 x1) := hcy 1 (by omega)
            have hb0 : w10.cell? ⟨w9.heap.size, 0, none⟩ = some (.int .i64 x0) := by simp [World.cell?, hx10]
            have hb1 : w10.cell? ⟨w9.heap.size, 1, none⟩ = some (.int .i64 x1) := by simp [World.cell?, hx10]
            have bi : (i : Int) < (N : Int) := by omega
            have H2 := Lib.hid (hH2.keep (hb10.trans ((below_drewN_self w10 0).mono hb10.size)))
            have HO2 := Lib.hid hok2
            have HD2 := Lib.hid hdr2
            have HV2 := Lib.hid (hv2.trans HVQ.out)
            have HN2 := Lib.hid ((HON.out.trans ho9).trans (Only.of_below hb10))
            clear hH2 hok2 hon2 hpm2 hv2 hdr2 hat ho9 hoS hb10 hx10 hcy
            go_wp2_with fail
            (try rw [hw10])
            clear hw10
            go_quiet (fail)
            go_wp2_with fail
            go_roundg k1
            case measure => omega
            case rel =>
              refine ⟨p ++ [(x0, x1)], L2, v2, by omega, by rw [HI.out]; rfl, by rw [HI.out]; simp [HPQ.out], H2.out.keep (below_drewN_self _ _), HO2.out, HD2.out, HV2.out, HN2.out.trans (Only.of_below (below_drewN_self _ _))⟩
end Go.Proofs.Ytacgkoclammggaa
