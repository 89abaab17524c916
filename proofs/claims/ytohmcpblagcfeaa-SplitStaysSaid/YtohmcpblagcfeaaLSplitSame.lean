
/-
  The statement SplitSame: the walk. Conditions: the numbers lie in their kinds' ranges.
-/
import Derived.Test.YtohmcpblagcfeaaAwake12
import Derived.Test.YtohmcpblagcfeaaSameL
namespace Go.Proofs.Ytohmcpblagcfeaa
open Go.RowKit
set_option linter.unusedVariables false
set_option maxRecDepth 100000
set_option linter.unusedSimpArgs false

theorem info_sl32 : (Try.prog.info? 24).map (fun i => (i.zero, i.size, i.bytes)) = some (some (.slice none 0 0), 1, 24) := by kernel_rfl
def upN (n : Nat) : List Int := (List.range n).map fun (i : Nat) => (i : Int)
theorem upN_length (n : Nat) : (upN n).length = n := by simp [upN]
theorem upN_succ (n : Nat) : upN (n + 1) = upN n ++ [(n : Int)] := by simp [upN, List.range_succ]
theorem RdC.slice1 (w : World) (u : Value) (t : TypeId) : RdC (w.alloc (.cells #[u] t)) (some ⟨w.heap.size, 0, none⟩) [u] := RdC.one w u t
theorem Rows.replicate {w : World} {base : Nat} {e : TypeId} {k : IntKind} {A B : Option Addr} {n c d : Nat} {xs : List Int} (h : w.ownsRow base e 1 (.slice B n d) n (List.replicate n (.slice A xs.length c))) (hn : n ≤ 1000) (hc : xs.length ≤ c) (hr : Rd w k A xs) : Rows w k B (List.replicate n xs) :=
  ⟨by simp; omega, fun j hj => by
    rw [List.length_replicate] at hj
    obtain ⟨g, e1, _, hcell, _⟩ := own_cell h j hj
    have hx : (List.replicate n xs).getD j [] = xs := by simp [List.getD, hj]
    rw [hx]
    exact ⟨_, A, c, e1, by rw [add_plain, hcell]; simp [hj], hc, hr⟩⟩
set_option maxHeartbeats 6400000 in
set_option maxRecDepth 100000 in
theorem SplitSame_law (A : Option Addr) (c : Nat) (xs : List Int) (n : Int) (B : Option Addr) (d : Nat) (ds : List Int) (w : World) (hc : xs.length ≤ c) (ha : Rd w .i32 A xs) (hu : ∀ n ∈ xs, (Lit.int .i32 n).wf = true) (na : A = none → xs = [] ∧ c = 0) (la : xs.length * 4 ≤ 140737488351232) (hnw : (Lit.int .u8 n).wf = true)
    (hdc : ds.length ≤ d) (hdr : Rd w .u64 B ds) (hdu : ∀ n ∈ ds, (Lit.int .u64 n).wf = true) (nd : B = none → ds = [] ∧ d = 0) (ld : ds.length * 8 ≤ 140737488351232) :
    Calls Try.prog 4 #[.slice A xs.length c, .int .u8 n, .slice B ds.length d] w fun e w' => e = .returned (.bool true) ∧ Below w.heap.size w w' := by
  have HR := Lib.hid (r32_of_wf hu)
  have KA := Lib.hid ha
  have KD := Lib.hid hdr
  have HU := Lib.hid (u64_of_wf hdu)
  have hnl := ha.1
  have hdl := hdr.1
  have hn0 : 0 ≤ n ∧ n ≤ 255 := by have h1 : IntKind.u8.min = 0 := rfl; have h2 : IntKind.u8.max = 255 := rfl; simp [Lit.wf] at hnw; omega
  clear ha hdr hu hdu hnw na la nd ld
  obtain ⟨m, rfl⟩ : ∃ m : Nat, n = (m : Int) := ⟨n.toNat, by omega⟩
  have k_w : Below w.heap.size w w := Below.refl _ _
  go_enter Try.func4, Try.ntmps4
  go_wp2_with fail
  refine (awake12_calls _  ).mono ?_
  rintro e w1 ⟨he, hbn⟩
  subst he
  have k_w_w1 : Below w.heap.size w w1 := k_w.trans (hbn.mono k_w.size)
  clear k_w
  clear hbn
  by_cases hp : 100 < xs.length
  · have hp' : decide ((100 : Int) < (xs.length : Int)) = true := decide_eq_true (by omega)
    go_wp2_with fail
    go_ret
    exact ⟨rfl, k_w_w1⟩
  have hp' : decide ((100 : Int) < (xs.length : Int)) = false := decide_eq_false (by omega)
  by_cases hq : 200 < ds.length
  · have hq' : decide ((200 : Int) < (ds.length : Int)) = true := decide_eq_true (by omega)
    go_wp2_with fail
    go_ret
    exact ⟨rfl, k_w_w1⟩
  have hq' : decide ((200 : Int) < (ds.length : Int)) = false := decide_eq_false (by omega)
  by_cases hr : m < 2
  · have hr' : decide ((m : Int) < 2) = true := decide_eq_true (by omega)
    go_wp2_with fail
    go_ret
    exact ⟨rfl, k_w_w1⟩
  have hr' : decide ((m : Int) < 2) = false := decide_eq_false (by omega)
  obtain ⟨K, hK⟩ : ∃ K, m % 60 + 2 = K := ⟨_, rfl⟩
  have hK2 : K ≤ 61 := by omega
  go_wp2_with fail
  go_loopg [7, 8, 9] K (fun kq v7 v8 v9 w' => kq ≤ K ∧ v9 = .int .i64 ((K - kq : Nat)) ∧ w'.ownsRow w1.heap.size 24 1 v7 (K - kq) (List.replicate (K - kq) (.slice A xs.length c)) ∧ Own w' w1.heap.size 3 .i64 v8 (upN (K - kq)) ∧ Below w1.heap.size w1 w' ∧ Apart v7 v8)
  case atStart => exact ⟨Nat.le_refl _, by simp, by rw [Nat.sub_self]; exact World.ownsRow_nil _ _ _ _, by rw [Nat.sub_self]; exact World.ownsRow_nil w1 _ _ 1, Below.refl _ _, Apart.nil _⟩
  case round =>
    obtain ⟨hk, rfl, HX, HY, HB, HAP⟩ := hrel
    have HX' := Lib.hid HX
    have HY' := Lib.hid HY
    have HBH := Lib.hid HB
    have HA' := Lib.hid HAP
    have hwz := HB.size
    clear HX HY HB HAP
    cases gk with
    | zero =>
      simp only [Nat.sub_zero] at HX' HY' ⊢
      obtain ⟨LB, lc, rfl, hlc⟩ := own_shape HX'.out
      obtain ⟨LI, ci, rfl, hci, hRI⟩ := HY'.out.shape
      rw [upN_length] at hci ⊢
      have hlt' : decide ((K : Int) < ((m % 60 : Nat) : Int) + 2) = false := decide_eq_false (by omega)
      have HM := Lib.hid (show Rows wr .i32 LB (List.replicate K xs) from Rows.replicate HX'.out (by omega) hc (KA.out.below (k_w_w1.trans (HBH.out.mono k_w_w1.size))))
      have hLK := List.length_replicate (n := K) (a := xs)
      go_wp2_with fail
      refine (hLK ▸ Of_calls (xs.length : Int) LB lc (List.replicate K xs) wr HM.out (by rw [hLK]; omega)).mono ?_
      rintro e w2 ⟨v, f, he, hck, hv1, hv2, hbn⟩
      subst he
      have kw : Below w.heap.size w wr := k_w_w1.trans (HBH.out.mono k_w_w1.size)
      have HV2 := Lib.hid hv2
      have KI := Lib.hid hRI
      clear hv2 hRI hck
      have z_w_wr := kw.size
      have k_wr : Below wr.heap.size wr wr := Below.refl _ _
      have k_w_w2 : Below w.heap.size w w2 := kw.trans (hbn.mono kw.size)
      have k_wr_w2 : Below wr.heap.size wr w2 := k_wr.trans (hbn.mono k_wr.size)
      clear kw
      clear k_wr
      clear hbn
      by_cases hf : f = 0
      case neg =>
        obtain rfl := hv1 hf
        have hf' : decide (f = 0) = false := decide_eq_false hf
        go_wp2_with fail
        go_ret
        exact ⟨rfl, k_w_w2⟩
      subst hf
      obtain ⟨b, rfl, hwb, hit⟩ := HV2.out rfl
      rw [Int.toNat_natCast] at hit
      obtain ⟨AI, cI, hitv⟩ := hit.v
      have HIT := Lib.hid hitv
      clear HV2 hv1 hit hitv
      have hz02 := k_wr_w2.size
      go_wp2_with fail
      refine (Script_calls B d ds w2 (KD.out.below k_w_w2) HU.out (by omega)).mono ?_
      rintro e w3 ⟨v, he, hs, hbn, T, p, rfl⟩
      subst he
      have hz23 := hbn.size
      have HS := Lib.hid hs
      clear hs
      have z_w_w2 := k_w_w2.size
      have z_wr_w2 := k_wr_w2.size
      have k_w2 : Below w2.heap.size w2 w2 := Below.refl _ _
      have k_w_w3 : Below w.heap.size w w3 := k_w_w2.trans (hbn.mono k_w_w2.size)
      have k_wr_w3 : Below wr.heap.size wr w3 := k_wr_w2.trans (hbn.mono k_wr_w2.size)
      have k_w2_w3 : Below w2.heap.size w2 w3 := k_w2.trans (hbn.mono k_w2.size)
      clear k_w_w2
      clear k_wr_w2
      clear k_w2
      clear hbn
      have hit3 := HIT.out.only (S := fun _ => False) (Only.of_below k_w2_w3) fun _ _ h => h
      have HIT3 := Lib.hid hit3
      clear hit3
      have hki : Rd w3 .i64 LI (upN K) := KI.out.below k_wr_w3
      have HKI := Lib.hid hki
      clear hki
      have hUL := upN_length K
      have hcs : choose (List.replicate K xs) xs.length (upN K) (fun i => ds.getD i 0) 0 = flatV xs.length (upN K) 4 := choose_same (v := xs) (by rw [hUL]; omega) fun id hid => by
        unfold upN at hid
        obtain ⟨i, hi, rfl⟩ := List.mem_map.1 hid
        rw [List.mem_range] at hi
        rw [itemZ_nat (by simpa using hi)]
        simp [List.getD, hi]
      have HCS := Lib.hid hcs
      have HRR := Lib.hid (show ∀ r ∈ List.replicate K xs, R32 r from fun r hr => by rw [(List.mem_replicate.1 hr).2]; exact HR.out)
      have HAT := Lib.hid (At.of_src HS.out)
      have HW3 := Lib.hid (show Below w.heap.size w w3 from k_w_w3)
      clear hcs
      go_wp2_with fail
      refine (hUL ▸ (Choose_calls b xs.length (List.replicate K xs) AI cI LI ci (upN K) w2.heap.size w3.heap.size (.iface T p) _ 0 w3 HIT3.out HRR.out HKI.out (by rw [hUL]; exact hci) (by rw [hUL]; omega) HAT.out (by omega) (fun q hq h => by have := (HIT.out.blk q hq).2; have := h.1; omega) (fun ad h1 e h => by have := Rd.blk_lt KI.out ad h1 e; have := h.1; omega) (Nat.le_refl _))).mono ?_
      rintro e w4 ⟨vn, vl, vr, he, hn1, hl1, hr1, _, hon⟩
      rw [HCS.out] at he hn1 hl1 hr1
      subst he
      simp only [flatV] at hn1 hl1 hr1 ⊢
      obtain ⟨L, hL⟩ : ∃ L, List.take (halfN (upN K).length) (upN K) = L := ⟨_, rfl⟩
      obtain ⟨R, hR⟩ : ∃ R, List.drop (halfN (upN K).length) (upN K) = R := ⟨_, rfl⟩
      have HL := Lib.hid hL
      have HRD := Lib.hid hR
      rw [hL] at hl1
      rw [hR] at hr1
      clear hL hR
      obtain ⟨An, cn, rfl, hcn, hnr⟩ := hn1.shape
      obtain ⟨Al, cl, rfl, hcl, hlr⟩ := hl1.shape
      obtain ⟨Ar, cr, rfl, hcr, hrr⟩ := hr1.shape
      have hrep := List.length_replicate (n := xs.length) (a := (0 : Int))
      have HREP := Lib.hid hrep
      obtain ⟨Z, hZ⟩ : ∃ Z, List.replicate xs.length (0 : Int) = Z := ⟨_, rfl⟩
      have HZ := Lib.hid hZ
      rw [hZ] at hnr hrep
      rw [HREP.out]
      have HNR := Lib.hid hnr
      have HLR := Lib.hid hlr
      have HRR2 := Lib.hid hrr
      have hrw4 : Below wr.heap.size wr w4 := k_wr_w3.trans (hon.below k_wr_w3.size fun k hk h => by have := h.1; omega)
      have HRW4 := Lib.hid hrw4
      have HW4 := Lib.hid (HW3.out.trans (hon.below HW3.out.size fun k hk h => by have := h.1; omega))
      obtain ⟨nl, hnl'⟩ : ∃ x, L.length = x := ⟨_, rfl⟩
      obtain ⟨nr, hnr'⟩ : ∃ x, R.length = x := ⟨_, rfl⟩
      have EL := Lib.hid hnl'
      have ER := Lib.hid hnr'
      have EZ := Lib.hid hrep
      rw [hnl', hnr']
      clear hn1 hl1 hr1 hnr hlr hrr hrep hZ hrw4 hnl' hnr' hon hcn hcl hcr
      go_wp2_with fail
      obtain ⟨w5, hw5⟩ : ∃ W, w4.alloc (.cells #[.slice An xs.length cn, .int .i64 0, .slice Al nl cl, .slice Ar nr cr, .int .i64 4] 42) = W := ⟨_, rfl⟩
      (try rw [hw5])
      have hb5 : Below w4.heap.size w4 w5 := by rw [← hw5]; exact below_alloc1 (Below.refl _ _) _
      have ba5 : w5.heap[w4.heap.size]? = some (.cells #[.slice An xs.length cn, .int .i64 0, .slice Al nl cl, .slice Ar nr cr, .int .i64 4] 42 (0, 0)) := by rw [← hw5]; exact heap_alloc_new _ _
      have HB5 := Lib.hid hb5
      have BA5 := Lib.hid ba5
      clear hw5 hb5 ba5
      have HKI5 := Lib.hid (KI.out.below (HRW4.out.trans (HB5.out.mono HRW4.out.size)))
      refine (hUL ▸ (Halves_calls LI ci (upN K) w5 HKI5.out (by rw [hUL]; exact hci) (by rw [hUL]; omega))).mono ?_
      rintro e w8 ⟨v0, v1, he, ho0, ho1, hb8⟩
      have hh : halfN K = halfN (upN K).length := by rw [hUL]
      rw [hh, HL.out] at ho0
      rw [hh, HRD.out] at ho1
      clear hh
      subst he
      obtain ⟨A0, c0, rfl, _, ho0r⟩ := ho0.shape
      obtain ⟨A1, c1, rfl, _, ho1r⟩ := ho1.shape
      have ba8 := obj_below hb8 BA5.out (obj_lt BA5.out)
      have hz5 := HB5.out.size
      have hlt5 := obj_lt BA5.out
      have a0 : w8.cell? ⟨w4.heap.size, 0, none⟩ = some (.slice An xs.length cn) := by simp [World.cell?, ba8]
      have a1 : w8.cell? ⟨w4.heap.size, 1, none⟩ = some (.int .i64 0) := by simp [World.cell?, ba8]
      have a2 : w8.cell? ⟨w4.heap.size, 2, none⟩ = some (.slice Al nl cl) := by simp [World.cell?, ba8]
      have a3 : w8.cell? ⟨w4.heap.size, 3, none⟩ = some (.slice Ar nr cr) := by simp [World.cell?, ba8]
      have a4 : w8.cell? ⟨w4.heap.size, 4, none⟩ = some (.int .i64 4) := by simp [World.cell?, ba8]
      have hbA := obj_lt ba8
      have hb48 := HB5.out.trans (hb8.mono hz5)
      have N18 := Lib.hid (HNR.out.below hb48)
      have L18 := Lib.hid (HLR.out.below hb48)
      have R18 := Lib.hid (HRR2.out.below hb48)
      have L28 := Lib.hid ho0r
      have R28 := Lib.hid ho1r
      have HB8 := Lib.hid (HW4.out.trans (hb48.mono HW4.out.size))
      rw [EL.out, ER.out]
      have HPC := Lib.hid (show ∀ W A2 c2, Rd W .i32 An Z → Rd W .i32 A2 Z → Calls Try.prog 24 #[.agg #[.slice An xs.length cn, .int .i64 0], .agg #[.slice A2 xs.length c2, .int .i64 0]] W fun e w' => e = .returned (.bool true) ∧ Below W.heap.size W w' from fun W A2 c2 h1 h2 => by
        have h := refpSame_calls An A2 cn c2 Z Z 0 0 W h1 h2
        rw [EZ.out] at h
        simpa using h)
      have HFC := Lib.hid (show ∀ W, Calls Try.prog 25 #[.int .i64 (xs.length : Int)] W fun e w' => (∃ A2 c2, e = .returned (.agg #[.slice A2 xs.length c2, .int .i64 0]) ∧ Rd w' .i32 A2 Z) ∧ Below W.heap.size W w' from fun W => by
        refine (refFlat_calls xs.length W (by omega)).mono ?_
        rintro e w' ⟨v, he, ho, hb⟩
        rw [HZ.out] at ho
        obtain ⟨A2, c2, rfl, _, hr⟩ := ho.shape
        rw [EZ.out] at he
        exact ⟨⟨A2, c2, he, hr⟩, hb⟩)
      have HLC := Lib.hid (show ∀ W, Rd W .i64 Al L → Rd W .i64 A0 L → Calls Try.prog 17 #[.slice Al nl cl, .slice A0 nl c0] W fun e w' => e = .returned (.bool true) ∧ Below W.heap.size W w' from fun W h1 h2 => by
        have h := SameI_calls Al A0 cl c0 L L W h1 h2
        rw [EL.out] at h
        refine h.mono fun e w' ⟨he, q, hq⟩ => ⟨by simpa using he, ?_⟩
        rw [hq]; exact below_drewN_self _ _)
      have HRC := Lib.hid (show ∀ W, Rd W .i64 Ar R → Rd W .i64 A1 R → Calls Try.prog 17 #[.slice Ar nr cr, .slice A1 nr c1] W fun e w' => e = .returned (.bool true) ∧ Below W.heap.size W w' from fun W h1 h2 => by
        have h := SameI_calls Ar A1 cr c1 R R W h1 h2
        rw [ER.out] at h
        refine h.mono fun e w' ⟨he, q, hq⟩ => ⟨by simpa using he, ?_⟩
        rw [hq]; exact below_drewN_self _ _)
      have hb88 : Below w8.heap.size w8 w8 := Below.refl _ _
      clear ba8 hb8 ho0 ho1 ho0r ho1r hb48
      go_wp2_with fail
      go_region_held3 (fun w' => w'.cell? ⟨w4.heap.size, 0, none⟩ = some (.slice An xs.length cn) ∧ w'.cell? ⟨w4.heap.size, 1, none⟩ = some (.int .i64 0) ∧ w'.cell? ⟨w4.heap.size, 2, none⟩ = some (.slice Al nl cl) ∧ w'.cell? ⟨w4.heap.size, 3, none⟩ = some (.slice Ar nr cr) ∧ w'.cell? ⟨w4.heap.size, 4, none⟩ = some (.int .i64 4) ∧ Below w8.heap.size w8 w')
        (first | exact ⟨cell_below (B := w8.heap.size) (w := w8) (by first | ((repeat (first | assumption | exact Below.refl _ _ | apply below_drew1 | apply below_alloc1)); done)) a0 hbA, cell_below (B := w8.heap.size) (w := w8) (by first | ((repeat (first | assumption | exact Below.refl _ _ | apply below_drew1 | apply below_alloc1)); done)) a1 hbA, cell_below (B := w8.heap.size) (w := w8) (by first | ((repeat (first | assumption | exact Below.refl _ _ | apply below_drew1 | apply below_alloc1)); done)) a2 hbA, cell_below (B := w8.heap.size) (w := w8) (by first | ((repeat (first | assumption | exact Below.refl _ _ | apply below_drew1 | apply below_alloc1)); done)) a3 hbA, cell_below (B := w8.heap.size) (w := w8) (by first | ((repeat (first | assumption | exact Below.refl _ _ | apply below_drew1 | apply below_alloc1)); done)) a4 hbA, (by first | ((repeat (first | assumption | exact Below.refl _ _ | apply below_drew1 | apply below_alloc1)); done))⟩ | go_keep)
        (first
          | (go_at_call 25; go_split_ands; (with_reducible refine Calls.mono (HFC.out _) ?_); rintro e wf ⟨⟨A2, c2, he, hrd2⟩, hbq⟩; subst he; have hB1 : Below w8.heap.size w8 wf := Below.after (by first | ((repeat (first | assumption | exact Below.refl _ _ | apply below_drew1 | apply below_alloc1)); done)) hbq; have N28 := Lib.hid hrd2; clear hrd2)
          | (go_at_call 24; go_split_ands; (with_reducible refine Calls.mono (HPC.out _ _ _ ?_ ?_) ?_); (exact N18.out.below (by first | ((repeat (first | assumption | exact Below.refl _ _ | apply below_drew1 | apply below_alloc1)); done))); (exact N28.out.below (by first | ((repeat (first | exact Below.refl _ _ | apply below_drew1 | apply below_alloc1)); done))); rintro e wq ⟨he, hbq⟩; subst he; have hB2 : Below w8.heap.size w8 wq := Below.after (by first | ((repeat (first | assumption | exact Below.refl _ _ | apply below_drew1 | apply below_alloc1)); done)) hbq)
          | (go_at_call 17; go_split_ands; (with_reducible refine Calls.mono (HLC.out _ ?_ ?_) ?_); (exact L18.out.below (by first | ((repeat (first | assumption | exact Below.refl _ _ | apply below_drew1 | apply below_alloc1)); done))); (exact L28.out.below (by first | ((repeat (first | assumption | exact Below.refl _ _ | apply below_drew1 | apply below_alloc1)); done))); rintro e wq ⟨he, hbq⟩; subst he; have hB2 : Below w8.heap.size w8 wq := Below.after (by first | ((repeat (first | assumption | exact Below.refl _ _ | apply below_drew1 | apply below_alloc1)); done)) hbq)
          | (go_at_call 17; go_split_ands; (with_reducible refine Calls.mono (HRC.out _ ?_ ?_) ?_); (exact R18.out.below (by first | ((repeat (first | assumption | exact Below.refl _ _ | apply below_drew1 | apply below_alloc1)); done))); (exact R28.out.below (by first | ((repeat (first | assumption | exact Below.refl _ _ | apply below_drew1 | apply below_alloc1)); done))); rintro e wq ⟨he, hbq⟩; subst he; have hB2 : Below w8.heap.size w8 wq := Below.after (by first | ((repeat (first | assumption | exact Below.refl _ _ | apply below_drew1 | apply below_alloc1)); done)) hbq))
      have hbz : Below w8.heap.size w8 wq := by assumption
      have HBZ := Lib.hid hbz
      go_wp2_with fail
      go_ret
      exact ⟨by simp, HB8.out.trans (HBZ.out.mono HB8.out.size)⟩
    | succ k1 =>
      obtain ⟨i, hi⟩ : ∃ i, K - (k1 + 1) = i := ⟨_, rfl⟩
      have hi2 : K - k1 = i + 1 := by omega
      have HI := Lib.hid hi2
      have hiK : i < K := by omega
      rw [hi] at HX' HY' ⊢
      have hlt' : decide ((i : Int) < ((m % 60 : Nat) : Int) + 2) = true := decide_eq_true (by omega)
      have HS := Lib.hid (upN_succ i)
      have HL := Lib.hid (upN_length i)
      clear hi hi2
      go_wp2_with (first
        | (at_builtin; refine wpList_app _ rfl (.tmp 37) (.tmp 39) 22 24 rfl (.slice none 0 0) 1 24 Try.underlying22 info_sl32 rfl (by omega) (by omega) w1.heap.size u7 i (List.replicate i (.slice A xs.length c)) rfl (some ⟨wr.heap.size, 0, none⟩) 1 1 rfl (own_alloc1 HX'.out _) w1 (HBH.out.alloc hwz _) (by rw [World.size_alloc]; omega) [.slice A xs.length c] rfl (RdC.one _ _ _) (by simp [Value.oneCell']) (by omega) ?_; intro v1 w2 hown1 hgrow1 hbel1 hat1 hnil1; have hz2 := hbel1.size)
        | (at_builtin; refine wpList_appI _ rfl (.tmp 41) (.tmp 43) 23 3 rfl .i64 8 Try.underlying23 info_int (by omega) w1.heap.size u8 (upN i) rfl (some ⟨w2.heap.size, 0, none⟩) 1 [(i : Int)] rfl (((HY'.out.alloc1 _).only hgrow1 (fun b h1 h2 => HA'.out b h2 h1)).alloc1 _) w1 (hbel1.alloc hz2 _) (by rw [World.size_alloc]; omega) (Rd.new w2 .i64 [(i : Int)] 3 (by simp)) (by rw [HL.out]; simp; omega) ?_; intro v2 w3 hown2 hgrow2 hbel2 hat2 hnil2))
      have HO2 := Lib.hid (row_only (w1 := w3) (own_alloc1 hown1 _) hgrow2 (fun b h1 h2 => by
          have hs8 := fun k hk => row_lt HX'.out k hk
          have hs9 := HY'.out.lt
          rcases hat1 with hat | hat
          · rw [hat] at h1; exact HA'.out b h1 h2
          · rw [hat] at h1; injection h1 with h1; have := (hs9 b h2).2; simp at h1; omega))
      have HAP := Lib.hid (Apart.step HA'.out (fun b hb => row_lt HX'.out b hb) (fun b hb => (HY'.out.lt b hb).2) hat1 (by simp; try omega) hat2 (by have := hgrow1.size; simp at this ⊢; omega) (fun b hb => by have := row_lt hown1 b hb; first | exact this | (simp; omega)))
      have HO3 := Lib.hid hown2
      clear hown1 hown2 hat1 hat2 hnil1 hnil2 hgrow1 hgrow2
      go_wp2
      go_roundg k1
      case measure => omega
      case rel =>
        rw [HI.out, HS.out, List.replicate_succ']
        exact ⟨by omega, rfl, HO2.out, HO3.out, hbel2, HAP.out⟩
end Go.Proofs.Ytohmcpblagcfeaa
