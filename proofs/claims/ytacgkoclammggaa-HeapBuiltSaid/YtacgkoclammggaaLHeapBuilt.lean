/-
  The statement HeapBuilt: the walk. Conditions: the numbers lie in their kinds' ranges.
-/
import Derived.Test.YtacgkoclammggaaLaw07
import Derived.Test.YtacgkoclammggaaOpen
namespace Go.Proofs.Ytacgkoclammggaa
open Go.RowKit
set_option linter.unusedVariables false
set_option linter.unusedSimpArgs false

theorem Rd.drop {w : World} {k : IntKind} {A : Option Addr} {l : List Int} {c m : Nat} (h : Rd w k A l) (hc : l.length ≤ c) (hm : m ≤ l.length) : Rd w k (if c = m then A else Option.map (fun x => x.add m) A) (l.drop m) := by
  by_cases he : c = m
  · have : l.drop m = [] := List.drop_eq_nil_of_le (by omega)
    rw [this]
    exact Rd.nil _ _ _
  · rw [if_neg he]
    refine ⟨by have := h.1; simp; omega, fun j hj => ?_⟩
    rw [List.length_drop] at hj
    obtain ⟨ad, rfl, hcell⟩ := h.2 (m + j) (by omega)
    refine ⟨ad.add m, rfl, ?_⟩
    rw [Addr.add_add, hcell]
    simp [List.getD]
theorem New_callsN (A : Option Addr) (n c : Nat) (l : List Int) (w : World) (ha : Rd w .i64 A l) (hn : l.length = n) (hl : n ≤ 1000000) :
    Calls Try.prog 18 #[.func (.func 19) #[] #[], .slice A n c] w fun e w' => ∃ b v L, e = .returned (.pointer (some ⟨b, 0, none⟩)) ∧ w.heap.size ≤ b ∧ Hp w' b b v L ∧ HeapOk ltI L ∧ L.Perm l ∧ Below w.heap.size w w' := by
  subst hn
  exact New_calls A c l w ha hl
/-- Two heaps that share no block. -/
def Dj (b : Nat) (v : Value) (b' : Nat) (v' : Value) : Prop := ∀ k, HpB v b k → ¬ HpB v' b' k
theorem Dj.symm {b b' : Nat} {v v' : Value} (h : Dj b v b' v') : Dj b' v' b v := fun k h1 h2 => h k h2 h1
theorem Hp.blk {w : World} {b : Nat} {v : Value} {l : List Int} (h : Hp w b b v l) (k : Nat) (hk : HpB v b k) : b ≤ k ∧ k < w.heap.size := by
  rcases hk with rfl | hk
  · exact ⟨Nat.le_refl _, h.lt⟩
  · exact h.2.1.lt k hk
theorem Dj.keep {W W' : World} {b b' lo : Nat} {v v' : Value} {l' : List Int} (hd : Dj b v b' v') (h : Hp W b' lo v' l') (ho : Only (HpB v b) W W') : Hp W' b' lo v' l' := h.only ho (fun h => hd _ h (.inl rfl)) fun k hk h => hd _ h (.inr hk)
theorem Dj.step {W : World} {b b' : Nat} {v v1 v' : Value} {l' : List Int} (hd : Dj b v b' v') (h : Hp W b' b' v' l') (hf : ∀ k, v1.ownBlock = some k → v.ownBlock = some k ∨ W.heap.size ≤ k) : Dj b v1 b' v' := fun k h1 h2 => by
  rcases h1 with h1 | h1
  · exact hd k (.inl h1) h2
  · rcases hf k h1 with h3 | h3
    · exact hd k (.inr h3) h2
    · have := (h.blk k h2).2
      omega
structure H3 (w : World) (ba bb bc : Nat) (va vb vc : Value) (La Lb Lc : List Int) (W : World) : Prop where
  bel : Below w.heap.size w W
  ha : Hp W ba ba va La
  hb : Hp W bb bb vb Lb
  hc : Hp W bc bc vc Lc
  oa : HeapOk ltI La
  ob : HeapOk ltI Lb
  oc : HeapOk ltI Lc
  dab : Dj ba va bb vb
  dac : Dj ba va bc vc
  dbc : Dj bb vb bc vc
  ga : w.heap.size ≤ ba
  gb : w.heap.size ≤ bb
  gc : w.heap.size ≤ bc
theorem H3.stepA {w W W' : World} {ba bb bc : Nat} {va vb vc v' : Value} {La Lb Lc L' : List Int} (h : H3 w ba bb bc va vb vc La Lb Lc W) (t : HpTo W W' ba ba va v' L') : H3 w ba bb bc v' vb vc L' Lb Lc W' :=
  ⟨h.bel.trans (t.2.2.1.below h.bel.size fun k hk hB => by have := (h.ha.blk k hB).1; have := h.ga; omega), t.1, h.dab.keep h.hb t.2.2.1, h.dac.keep h.hc t.2.2.1, t.2.1, h.ob, h.oc, h.dab.step h.hb t.2.2.2, h.dac.step h.hc t.2.2.2, h.dbc, h.ga, h.gb, h.gc⟩
theorem H3.stepB {w W W' : World} {ba bb bc : Nat} {va vb vc v' : Value} {La Lb Lc L' : List Int} (h : H3 w ba bb bc va vb vc La Lb Lc W) (t : HpTo W W' bb bb vb v' L') : H3 w ba bb bc va v' vc La L' Lc W' :=
  ⟨h.bel.trans (t.2.2.1.below h.bel.size fun k hk hB => by have := (h.hb.blk k hB).1; have := h.gb; omega), h.dab.symm.keep h.ha t.2.2.1, t.1, h.dbc.keep h.hc t.2.2.1, h.oa, t.2.1, h.oc, (h.dab.symm.step h.ha t.2.2.2).symm, h.dac, h.dbc.step h.hc t.2.2.2, h.ga, h.gb, h.gc⟩
theorem H3.stepC {w W W' : World} {ba bb bc : Nat} {va vb vc v' : Value} {La Lb Lc L' : List Int} (h : H3 w ba bb bc va vb vc La Lb Lc W) (t : HpTo W W' bc bc vc v' L') : H3 w ba bb bc va vb v' La Lb L' W' :=
  ⟨h.bel.trans (t.2.2.1.below h.bel.size fun k hk hB => by have := (h.hc.blk k hB).1; have := h.gc; omega), h.dac.symm.keep h.ha t.2.2.1, h.dbc.symm.keep h.hb t.2.2.1, t.1, h.oa, h.ob, t.2.1, h.dab, (h.dac.symm.step h.ha t.2.2.2).symm, (h.dbc.symm.step h.hb t.2.2.2).symm, h.ga, h.gb, h.gc⟩
set_option maxHeartbeats 6400000 in
set_option maxRecDepth 100000 in
theorem HeapBuilt_law (A : Option Addr) (c : Nat) (l : List Int) (cut : Int) (w : World) (hcl : l.length ≤ c) (ha : Rd w .i64 A l) (hu : ∀ n ∈ l, (Lit.int .i64 n).wf = true) (na : A = none → l = [] ∧ c = 0) (la : l.length * 8 ≤ 140737488351232) (hx : (Lit.int .i64 cut).wf = true) :
    Calls Try.prog 4 #[.slice A l.length c, .int .i64 cut] w fun e w' => e = .returned (.bool true) ∧ Below w.heap.size w w' := by
  have KA := Lib.hid ha
  clear ha hu na hx
  by_cases h0 : 100 < l.length
  · have h0' : decide (100 < (l.length : Int)) = true := by simp; omega
    go_enter Try.func4, Try.ntmps4
    go_wp2_with fail
    refine (awake7_calls _).mono ?_
    rintro e w1 ⟨he, hb⟩
    subst he
    go_wp2_with fail
    go_ret
    exact ⟨rfl, hb⟩
  have h0' : decide (100 < (l.length : Int)) = false := by simp; omega
  replace h0 : l.length ≤ 100 := by omega
  by_cases h1 : cut < 0
  · have h1' : decide (cut < 0) = true := by simp; omega
    go_enter Try.func4, Try.ntmps4
    go_wp2_with fail
    refine (awake7_calls _).mono ?_
    rintro e w1 ⟨he, hb⟩
    subst he
    go_wp2_with fail
    go_ret
    exact ⟨rfl, hb⟩
  have h1' : decide (cut < 0) = false := by simp; omega
  replace h1 : 0 ≤ cut := by omega
  by_cases h2 : (l.length : Int) < cut
  · have h2' : decide ((l.length : Int) < cut) = true := by simp; omega
    go_enter Try.func4, Try.ntmps4
    go_wp2_with fail
    refine (awake7_calls _).mono ?_
    rintro e w1 ⟨he, hb⟩
    subst he
    go_wp2_with fail
    go_ret
    exact ⟨rfl, hb⟩
  have h2' : decide ((l.length : Int) < cut) = false := by simp; omega
  replace h2 : cut ≤ (l.length : Int) := by omega
  obtain ⟨m, rfl⟩ : ∃ m : Nat, cut = m := ⟨cut.toNat, by omega⟩
  have hml : m ≤ l.length := by omega
  have bm : (m : Int) ≤ (l.length : Int) := by omega
  go_enter Try.func4, Try.ntmps4
  go_wp2_with fail
  refine (awake7_calls _).mono ?_
  rintro e w1 ⟨he, hbw⟩
  subst he
  have RA := Lib.hid (KA.out.below hbw)
  have hrd := (KA.out.below hbw).drop hcl hml
  obtain ⟨X, hX⟩ : ∃ X, (if c = m then A else Option.map (fun x => x.add m) A) = X := ⟨_, rfl⟩
  rw [hX] at hrd
  have RD := Lib.hid hrd
  clear hrd
  have hb1 : Below w1.heap.size w1 w1 := Below.refl _ _
  go_wp2_with fail
  go_region_held3 (fun w' => Below w1.heap.size w1 w')
    (first | exact (by repeat (first | assumption | exact Below.refl _ _ | apply below_drew1 | apply below_alloc1)) | go_keep)
    (first
      | (go_at_call 18; go_split_ands; (with_reducible refine (New_calls A c l _ (RA.out.below (by repeat (first | assumption | exact Below.refl _ _ | apply below_drew1 | apply below_alloc1))) (by omega)).mono ?_); rintro e w2 ⟨ba, va, La, he, hloa, hHa, hoka, hpma, hbn⟩; subst he; have hloa' : w1.heap.size ≤ ba := Nat.le_trans (Below.size (B := w1.heap.size) (w := w1) (by repeat (first | assumption | exact Below.refl _ _ | apply below_drew1 | apply below_alloc1))) hloa; have hB2 : Below w1.heap.size w1 w2 := Below.after (by repeat (first | assumption | exact Below.refl _ _ | apply below_drew1 | apply below_alloc1)) hbn; have HHa := Lib.hid hHa; have HOKa := Lib.hid hoka; have HPMa := Lib.hid hpma; clear hbn hloa hHa hoka hpma; have hb2 : Below w1.heap.size w1 w2 := (hb1.trans (hB2.mono hb1.size)); have hbs : Below w2.heap.size w2 w2 := Below.refl _ _)
      | (go_at_call 18; go_split_ands; (with_reducible refine (New_callsN X (l.length - m) (c - m) (l.drop m) _ (RD.out.below (by repeat (first | assumption | exact Below.refl _ _ | apply below_drew1 | apply below_alloc1))) (by simp) (by omega)).mono ?_); rintro e w3 ⟨bb, vb, Lb, he, hlob, hHb, hokb, hpmb, hbn⟩; subst he; have hlob' : w2.heap.size ≤ bb := Nat.le_trans (Below.size (B := w2.heap.size) (w := w2) (by repeat (first | assumption | exact Below.refl _ _ | apply below_drew1 | apply below_alloc1))) hlob; have hB3 : Below w2.heap.size w2 w3 := Below.after (by repeat (first | assumption | exact Below.refl _ _ | apply below_drew1 | apply below_alloc1)) hbn; have HHb := Lib.hid hHb; have HOKb := Lib.hid hokb; have HPMb := Lib.hid hpmb; clear hbn hlob hHb hokb hpmb; have hb3 : Below w1.heap.size w1 w3 := (hb2.trans (hB3.mono hb2.size)); have hbs : Below w3.heap.size w3 w3 := Below.refl _ _)
      | (go_at_call 18; go_split_ands; (with_reducible refine (New_callsN none 0 0 [] _ (Rd.nil _ _ _) rfl (by omega)).mono ?_); rintro e w4 ⟨bc, vc, Lc, he, hloc, hHc, hokc, hpmc, hbn⟩; subst he; have hloc' : w3.heap.size ≤ bc := Nat.le_trans (Below.size (B := w3.heap.size) (w := w3) (by repeat (first | assumption | exact Below.refl _ _ | apply below_drew1 | apply below_alloc1))) hloc; have hB4 : Below w3.heap.size w3 w4 := Below.after (by repeat (first | assumption | exact Below.refl _ _ | apply below_drew1 | apply below_alloc1)) hbn; have HHc := Lib.hid hHc; have HOKc := Lib.hid hokc; have HPMc := Lib.hid hpmc; clear hbn hloc hHc hokc hpmc; have hb4 : Below w1.heap.size w1 w4 := (hb3.trans (hB4.mono hb3.size)); have hbs : Below w4.heap.size w4 w4 := Below.refl _ _))
  have hzab : w2.heap.size ≤ bb := hlob'
  have h3 : H3 w1 ba bb bc va vb vc La Lb Lc w4 := by
    have ha4 : Hp w4 ba ba va La := (HHa.out.only (S := fun _ => False) (Only.of_below hB3) (fun h => h) fun _ _ h => h).only (S := fun _ => False) (Only.of_below hB4) (fun h => h) fun _ _ h => h
    have hb4' : Hp w4 bb bb vb Lb := HHb.out.only (S := fun _ => False) (Only.of_below hB4) (fun h => h) fun _ _ h => h
    have hz3 := hB3.size
    have hz2 := hB2.size
    have hba := HHa.out.lt
    exact ⟨hb4, ha4, hb4', HHc.out, HOKa.out, HOKb.out, HOKc.out,
      fun k h1 h2 => by have := (HHa.out.blk k h1).2; have := (HHb.out.blk k h2).1; omega,
      fun k h1 h2 => by have := (HHa.out.blk k h1).2; have := (HHc.out.blk k h2).1; omega,
      fun k h1 h2 => by have := (HHb.out.blk k h1).2; have := (HHc.out.blk k h2).1; omega, by omega, by omega, by omega⟩
  have H0 := Lib.hid h3
  have hzw := hbw.size
  clear h3 HHa HHb HHc HOKa HOKb HOKc hb2 hb3 hb4 hbs hb1 hB2 hB3 hB4 RD
  go_wp2_with fail
  go_loopg [8] m (fun kq v8 w' => kq ≤ m ∧ v8 = .int .i64 ((m - kq : Nat) : Int) ∧ ∃ vb Lb, H3 w1 ba bb bc va vb vc La Lb Lc w' ∧ Lb.Perm (l.take (m - kq) ++ l.drop m))
  case atStart => exact ⟨Nat.le_refl _, by simp, vb, Lb, H0.out, by rw [Nat.sub_self]; simpa using HPMb.out⟩
  case round =>
    clear H0 HPMb
    obtain ⟨hk, rfl, vb, Lb, hH, hP⟩ := hrel
    have H := Lib.hid hH
    have HPB := Lib.hid hP
    clear hH hP
    cases gk with
    | zero =>
      simp only [Nat.sub_zero, List.take_append_drop] at HPB ⊢
      have hwn : IntKind.i64.wrap ((l.length : Int) - 1) = (l.length : Int) - 1 := by rw [i64_w]; exact wrap64_id _ (by omega)
      have HWN := Lib.hid hwn
      go_wp2_with fail
      clear hwn
      go_loopg [9] l.length (fun kq v9 w' => kq ≤ l.length ∧ v9 = .int .i64 ((kq : Int) - 1) ∧ ∃ vc Lc, H3 w1 ba bb bc va vb vc La Lb Lc w' ∧ Lc.Perm (l.drop kq))
      case atStart => exact ⟨Nat.le_refl _, rfl, vc, Lc, H.out, by simpa using HPMc.out⟩
      case round =>
        clear H HPMc
        obtain ⟨hk, rfl, vc, Lc, hH, hP⟩ := hrel
        have H := Lib.hid hH
        have HPC := Lib.hid hP
        clear hH hP
        cases gk with
        | zero =>
          simp only [List.drop_zero] at HPC
          go_wp2_with fail
          go_loopg [74] l.length (fun kq v74 w' => kq ≤ l.length ∧ v74 = .int .i64 ((l.length - kq : Nat) : Int) ∧ ∃ va vb vc La Lb Lc M, H3 w1 ba bb bc va vb vc La Lb Lc w' ∧ La.Perm M ∧ Lb.Perm M ∧ Lc.Perm M ∧ M.length = kq)
          case atStart => exact ⟨Nat.le_refl _, by simp, va, vb, vc, La, Lb, Lc, l, H.out, HPMa.out, HPB.out, HPC.out, rfl⟩
          case round =>
            clear H HPMa HPB HPC
            obtain ⟨hk, rfl, va, vb, vc, La, Lb, Lc, M, hH, hA, hB, hC, hM⟩ := hrel
            have H := Lib.hid hH
            have PA := Lib.hid hA
            have PB := Lib.hid hB
            have PC := Lib.hid hC
            have HM := Lib.hid hM
            clear hH hA hB hC hM
            cases gk with
            | zero =>
              simp only [Nat.sub_zero]
              have hM0 : M = [] := List.eq_nil_of_length_eq_zero HM.out
              subst hM0
              obtain rfl : La = [] := PA.out.eq_nil
              obtain rfl : Lb = [] := PB.out.eq_nil
              obtain rfl : Lc = [] := PC.out.eq_nil
              go_wp2_with fail
              refine (HLen_calls ba ba va [] _ H.out.ha).mono ?_
              rintro e _ ⟨he, q1, rfl⟩
              subst he
              go_wp2_with fail
              refine (HLen_calls bb bb vb [] _ (H.out.hb.drewN q1)).mono ?_
              rintro e _ ⟨he, q2, rfl⟩
              subst he
              go_wp2_with fail
              refine (HLen_calls bc bc vc [] _ (H.out.hc.drewN (q1 + q2))).mono ?_
              rintro e _ ⟨he, q3, rfl⟩
              subst he
              go_wp2_with fail
              go_ret
              exact ⟨rfl, hbw.trans ((below_drewN H.out.bel _).mono hzw)⟩
            | succ k1 =>
              obtain ⟨i, hi⟩ : ∃ i, l.length - (k1 + 1) = i := ⟨_, rfl⟩
              have hi2 : l.length - k1 = i + 1 := by omega
              have hlt : i < l.length := by omega
              rw [hi]
              have HI := Lib.hid hi2
              clear hi hi2
              cases La with
              | nil => exact absurd PA.out.length_eq (by rw [HM.out]; simp)
              | cons x La =>
                cases Lb with
                | nil => exact absurd PB.out.length_eq (by rw [HM.out]; simp)
                | cons y Lb =>
                  cases Lc with
                  | nil => exact absurd PC.out.length_eq (by rw [HM.out]; simp)
                  | cons z Lc =>
                    have hmx := HeapOk.min H.out.oa PA.out
                    obtain rfl : y = x := (HeapOk.min H.out.ob PB.out).uniq hmx
                    obtain rfl : z = y := (HeapOk.min H.out.oc PC.out).uniq hmx
                    have hla : La.length ≤ 1000000 := by have h := PA.out.length_eq; rw [HM.out, List.length_cons] at h; omega
                    have hlb : Lb.length ≤ 1000000 := by have h := PB.out.length_eq; rw [HM.out, List.length_cons] at h; omega
                    have hlc : Lc.length ≤ 1000000 := by have h := PC.out.length_eq; rw [HM.out, List.length_cons] at h; omega
                    have HX := Lib.hid hmx
                    have tzz : (z != z) = false := by simp
                    clear hmx
                    go_wp2_with fail
                    refine (Pop_some ba ba va z La _ H.out.ha H.out.oa hla).mono ?_
                    rintro e w5 ⟨he, va', La', ht, hpa⟩
                    subst he
                    have H5 := Lib.hid (H.out.stepA ht)
                    clear ht
                    go_wp2_with fail
                    refine (Pop_some bb bb vb z Lb _ H5.out.hb H5.out.ob hlb).mono ?_
                    rintro e w6 ⟨he, vb', Lb', ht, hpb⟩
                    subst he
                    have H6 := Lib.hid (H5.out.stepB ht)
                    clear ht
                    go_wp2_with fail
                    refine (Pop_some bc bc vc z Lc _ H6.out.hc H6.out.oc hlc).mono ?_
                    rintro e w7 ⟨he, vc', Lc', ht, hpc⟩
                    subst he
                    have H7 := Lib.hid (H6.out.stepC ht)
                    clear ht
                    go_wp2_with fail
                    go_roundg k1
                    case measure => omega
                    case rel =>
                      exact ⟨by omega, by rw [HI.out]; rfl, va', vb', vc', La', Lb', Lc', M.erase z, H7.out, hpa.trans (perm_erase PA.out), hpb.trans (perm_erase PB.out), hpc.trans (perm_erase PC.out), by rw [List.length_erase_of_mem HX.out.1, HM.out]; rfl⟩
        | succ k1 =>
          have hlt : k1 < l.length := by omega
          have e1 : ((k1 + 1 : Nat) : Int) - 1 = (k1 : Int) := by omega
          rw [e1]
          have hra := (RA.out.below H.out.bel).2 k1 hlt
          obtain ⟨ad, rfl, hca⟩ := hra
          obtain ⟨x, hx⟩ : ∃ x, l.getD k1 0 = x := ⟨_, rfl⟩
          rw [hx] at hca
          have hpd : l.drop k1 = x :: l.drop (k1 + 1) := by rw [← hx, List.drop_eq_getElem_cons hlt]; simp [List.getD, hlt]
          have HPD := Lib.hid hpd
          have hLc : Lc.length ≤ 1000000 := by rw [HPC.out.length_eq]; simp; omega
          have hwk : IntKind.i64.wrap ((k1 : Int) - 1) = (k1 : Int) - 1 := by rw [i64_w]; exact wrap64_id _ (by omega)
          have bk : (k1 : Int) < (l.length : Int) := by omega
          clear e1 hx hpd
          go_wp2_with fail
          refine (Push_calls bc bc vc Lc x _ H.out.hc H.out.oc hLc).mono ?_
          rintro e w5 ⟨he, vc', Lc', ht, hpc⟩
          subst he
          have H5 := Lib.hid (H.out.stepC ht)
          have P5 := Lib.hid hpc
          clear ht hpc
          go_wp2_with fail
          go_roundg k1
          case measure => omega
          case rel =>
            refine ⟨by omega, rfl, vc', Lc', H5.out, ?_⟩
            rw [HPD.out]
            exact P5.out.trans (HPC.out.cons x)
    | succ k1 =>
      obtain ⟨i, hi⟩ : ∃ i, m - (k1 + 1) = i := ⟨_, rfl⟩
      have hi2 : m - k1 = i + 1 := by omega
      have hlt : i < m := by omega
      rw [hi] at HPB ⊢
      have HI := Lib.hid hi2
      have hra := (RA.out.below H.out.bel).2 i (by omega)
      obtain ⟨ad, rfl, hca⟩ := hra
      obtain ⟨x, hx⟩ : ∃ x, l.getD i 0 = x := ⟨_, rfl⟩
      rw [hx] at hca
      have htk : l.take (i + 1) = l.take i ++ [x] := by rw [← hx, List.take_add_one, get_getD (by omega)]; rfl
      have HTK := Lib.hid htk
      have hLb : Lb.length ≤ 1000000 := by rw [HPB.out.length_eq]; simp; omega
      have bk : (i : Int) < (l.length : Int) := by omega
      clear hi hi2 hx htk
      go_wp2_with fail
      refine (Push_calls bb bb vb Lb x _ H.out.hb H.out.ob hLb).mono ?_
      rintro e w5 ⟨he, vb', Lb', ht, hpb⟩
      subst he
      have H5 := Lib.hid (H.out.stepB ht)
      have P5 := Lib.hid hpb
      clear ht hpb
      go_wp2_with fail
      go_roundg k1
      case measure => omega
      case rel =>
        refine ⟨by omega, by rw [HI.out]; rfl, vb', Lb', H5.out, ?_⟩
        rw [HI.out, HTK.out, List.append_assoc]
        exact P5.out.trans ((HPB.out.cons x).trans List.perm_middle.symm)
end Go.Proofs.Ytacgkoclammggaa
