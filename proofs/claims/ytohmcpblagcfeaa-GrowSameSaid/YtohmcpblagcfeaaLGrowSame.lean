
/-
  The statement GrowSame: the walk. Conditions: the numbers lie in their kinds' ranges.
-/
import Derived.Test.YtohmcpblagcfeaaAwake13
import Derived.Test.YtohmcpblagcfeaaGSameL
namespace Go.Proofs.Ytohmcpblagcfeaa
open Go.RowKit
set_option linter.unusedVariables false
set_option maxRecDepth 100000
set_option linter.unusedSimpArgs false

theorem info_sl32G : (Try.prog.info? 24).map (fun i => (i.zero, i.size, i.bytes)) = some (some (.slice none 0 0), 1, 24) := by kernel_rfl
theorem Rows.replicateG {w : World} {base : Nat} {e : TypeId} {k : IntKind} {A B : Option Addr} {n c d : Nat} {xs : List Int} (h : w.ownsRow base e 1 (.slice B n d) n (List.replicate n (.slice A xs.length c))) (hn : n ≤ 1000) (hc : xs.length ≤ c) (hr : Rd w k A xs) : Rows w k B (List.replicate n xs) :=
  ⟨by simp; omega, fun j hj => by
    rw [List.length_replicate] at hj
    obtain ⟨g, e1, _, hcell, _⟩ := own_cell h j hj
    have hx : (List.replicate n xs).getD j [] = xs := by simp [List.getD, hj]
    rw [hx]
    exact ⟨_, A, c, e1, by rw [add_plain, hcell]; simp [hj], hc, hr⟩⟩
theorem upToS_mem {n : Nat} {x : Int} (h : x ∈ upTo n) : 0 ≤ x ∧ x < n := by
  simp only [upTo, List.mem_map, List.mem_range] at h
  obtain ⟨i, hi, rfl⟩ := h
  omega
theorem upTo_get (n j : Nat) (h : j < n) : (upTo n).getD j 0 = (j : Int) := by simp [upTo, List.getD, h]
theorem flat_succ {T : List NodeV} {i : Nat} {x : NodeV} (h : T[i]? = some x) : ((T.take (i + 1)).flatMap NodeV.ids).length = ((T.take i).flatMap NodeV.ids).length + x.ids.length := by
  have hi : i < T.length := by
    rcases Nat.lt_or_ge i T.length with h2 | h2
    · exact h2
    · rw [List.getElem?_eq_none h2] at h; cases h
  have : T[i] = x := by rw [List.getElem?_eq_getElem hi] at h; injection h
  rw [List.take_succ_eq_append_getElem hi, this, List.flatMap_append, List.length_append]
  simp
theorem flat_at {T : List NodeV} {i : Nat} {x : NodeV} (h : T[i]? = some x) (k : Nat) (hk : k < x.ids.length) : (T.flatMap NodeV.ids).getD (((T.take i).flatMap NodeV.ids).length + k) 0 = x.ids.getD k 0 := by
  have hi : i < T.length := by
    rcases Nat.lt_or_ge i T.length with h2 | h2
    · exact h2
    · rw [List.getElem?_eq_none h2] at h; cases h
  have hx : T[i] = x := by rw [List.getElem?_eq_getElem hi] at h; injection h
  have hT : T = T.take i ++ x :: T.drop (i + 1) := by rw [← hx, List.getElem_cons_drop, List.take_append_drop]
  have hF : T.flatMap NodeV.ids = (T.take i).flatMap NodeV.ids ++ (x.ids ++ (T.drop (i + 1)).flatMap NodeV.ids) := by
    conv => lhs; rw [hT]
    rw [List.flatMap_append, List.flatMap_cons]
  rw [hF]
  simp only [List.getD]
  rw [List.getElem?_append_right (by omega), Nat.add_sub_cancel_left, List.getElem?_append_left hk]
set_option maxHeartbeats 6400000 in
set_option maxRecDepth 100000 in
theorem GrowSame_law (A : Option Addr) (c : Nat) (xs : List Int) (n lf : Int) (B : Option Addr) (d : Nat) (ds : List Int) (w : World) (hc : xs.length ≤ c) (ha : Rd w .i32 A xs) (hu : ∀ n ∈ xs, (Lit.int .i32 n).wf = true) (na : A = none → xs = [] ∧ c = 0) (la : xs.length * 4 ≤ 140737488351232) (hnw : (Lit.int .u8 n).wf = true) (hlw : (Lit.int .u8 lf).wf = true)
    (hdc : ds.length ≤ d) (hdr : Rd w .u64 B ds) (hdu : ∀ n ∈ ds, (Lit.int .u64 n).wf = true) (nd : B = none → ds = [] ∧ d = 0) (ld : ds.length * 8 ≤ 140737488351232) :
    Calls Try.prog 8 #[.slice A xs.length c, .int .u8 n, .int .u8 lf, .slice B ds.length d] w fun e w' => e = .returned (.bool true) ∧ Below w.heap.size w w' := by
  have HR := Lib.hid (r32_of_wf hu)
  have KA := Lib.hid ha
  have KD := Lib.hid hdr
  have HU := Lib.hid (u64_of_wf hdu)
  have hl1 := ha.1
  have hdl := hdr.1
  have hn0 : 0 ≤ n ∧ n ≤ 255 := by have h1 : IntKind.u8.min = 0 := rfl; have h2 : IntKind.u8.max = 255 := rfl; simp [Lit.wf] at hnw; omega
  have hlf0 : 0 ≤ lf ∧ lf ≤ 255 := by have h1 : IntKind.u8.min = 0 := rfl; have h2 : IntKind.u8.max = 255 := rfl; simp [Lit.wf] at hlw; omega
  clear ha hdr hu hdu hnw hlw na la nd ld
  obtain ⟨m, rfl⟩ : ∃ m : Nat, n = (m : Int) := ⟨n.toNat, by omega⟩
  obtain ⟨r, rfl⟩ : ∃ r : Nat, lf = (r : Int) := ⟨lf.toNat, by omega⟩
  go_enter Try.func8, Try.ntmps8
  go_wp2_with fail
  refine (awake13_calls w).mono ?_
  rintro e w1 ⟨he, hb1⟩
  subst he
  have hz1 := hb1.size
  have HB1 := Lib.hid hb1
  clear hb1
  by_cases hp : 50 < xs.length
  · have hp' : decide ((50 : Int) < (xs.length : Int)) = true := decide_eq_true (by omega)
    go_wp2_with fail
    go_ret
    exact ⟨rfl, HB1.out⟩
  have hp' : decide ((50 : Int) < (xs.length : Int)) = false := decide_eq_false (by omega)
  by_cases hq : 500 < ds.length
  · have hq' : decide ((500 : Int) < (ds.length : Int)) = true := decide_eq_true (by omega)
    go_wp2_with fail
    go_ret
    exact ⟨rfl, HB1.out⟩
  have hq' : decide ((500 : Int) < (ds.length : Int)) = false := decide_eq_false (by omega)
  obtain ⟨K, hK⟩ : ∃ K, m % 60 + 1 = K := ⟨_, rfl⟩
  have hK2 : K ≤ 60 := by omega
  have hK1 : 1 ≤ K := by omega
  go_wp2_with fail
  go_loopg [9, 10] K (fun kq v9 v10 w' => kq ≤ K ∧ v10 = .int .i64 ((K - kq : Nat)) ∧ w'.ownsRow w1.heap.size 24 1 v9 (K - kq) (List.replicate (K - kq) (.slice A xs.length c)) ∧ Below w1.heap.size w1 w')
  case atStart => exact ⟨Nat.le_refl _, by simp, by rw [Nat.sub_self]; exact World.ownsRow_nil _ _ _ _, Below.refl _ _⟩
  case round =>
    obtain ⟨hk, rfl, HX0, HB0⟩ := hrel
    rename World => wr
    have HX := Lib.hid HX0
    have HB := Lib.hid HB0
    have hwz := HB0.size
    clear HX0 HB0
    cases gk with
    | succ k1 =>
      obtain ⟨i, hi⟩ : ∃ i, K - (k1 + 1) = i := ⟨_, rfl⟩
      have hi2 : K - k1 = i + 1 := by omega
      have HI := Lib.hid hi2
      have hiK : i < K := by omega
      rw [hi] at HX ⊢
      have hlt' : decide ((i : Int) < ((m % 60 : Nat) : Int) + 1) = true := decide_eq_true (by omega)
      clear hi hi2
      go_wp2_with (first
        | (at_builtin; refine wpList_app _ rfl (.tmp 39) (.tmp 41) 22 24 rfl (.slice none 0 0) 1 24 Try.underlying22 info_sl32G rfl (by omega) (by omega) w1.heap.size u9 i (List.replicate i (.slice A xs.length c)) rfl (some ⟨wr.heap.size, 0, none⟩) 1 1 rfl (own_alloc1 HX.out _) w1 (HB.out.alloc hwz _) (by rw [World.size_alloc]; omega) [.slice A xs.length c] rfl (RdC.one _ _ _) (fun u hu => by rw [List.mem_singleton] at hu; subst hu; rfl) (by omega) ?_; intro v1 w2 hown1 hgrow1 hbel1 hat1 hnil1; have HO := Lib.hid hown1; have HBN := Lib.hid hbel1; clear hown1 hgrow1 hbel1 hat1 hnil1))
      go_wp2
      go_roundg k1
      case measure => omega
      case rel =>
        rw [HI.out, List.replicate_succ']
        exact ⟨by omega, rfl, HO.out, HBN.out⟩
    | zero =>
      simp only [Nat.sub_zero] at HX ⊢
      obtain ⟨LB, lc, rfl, hlc⟩ := own_shape HX.out
      have hlt' : decide ((K : Int) < ((m % 60 : Nat) : Int) + 1) = false := decide_eq_false (by omega)
      have HM := Lib.hid (show Rows wr .i32 LB (List.replicate K xs) from Rows.replicateG HX.out (by omega) hc (KA.out.below (HB1.out.trans (HB.out.mono hz1))))
      have hLK := List.length_replicate (n := K) (a := xs)
      go_wp2_with fail
      refine (hLK ▸ Of_calls (xs.length : Int) LB lc (List.replicate K xs) wr HM.out (by rw [hLK]; omega)).mono ?_
      rintro e w2 ⟨v, f, he, hck, hv1, hv2, hbn⟩
      subst he
      have hz2 := hbn.size
      have HB2 := Lib.hid hbn
      have HWr := Lib.hid (HB1.out.trans (HB.out.mono hz1))
      have HW2 := Lib.hid (HWr.out.trans (hbn.mono HWr.out.size))
      have HV2 := Lib.hid hv2
      have HV1 := Lib.hid hv1
      clear hv2 hv1 hck hbn
      by_cases hf : f = 0
      case neg =>
        obtain rfl := HV1.out hf
        have hf' : decide (f = 0) = false := decide_eq_false hf
        go_wp2_with fail
        go_ret
        exact ⟨rfl, HW2.out⟩
      subst hf
      obtain ⟨b, rfl, hwb, hit⟩ := HV2.out rfl
      rw [Int.toNat_natCast] at hit
      obtain ⟨AI, cI, hitv⟩ := hit.v
      have HIT2 := Lib.hid hitv
      obtain ⟨D, hD⟩ : ∃ D, xs.length = D := ⟨_, rfl⟩
      rw [hD] at HIT2 ⊢
      have HD := Lib.hid hD
      obtain ⟨Ln, hL⟩ : ∃ Ln : Nat, (r : Int) % 9 + 1 = (Ln : Int) := ⟨((r : Int) % 9 + 1).toNat, by omega⟩
      have hLb : 1 ≤ Ln ∧ Ln ≤ 9 := by omega
      have HL := Lib.hid hL
      clear hit hitv HV2 HV1 hD hL
      go_wp2_with fail
      obtain ⟨wp, hwp⟩ : ∃ W, w2.alloc (.cells #[.int .i64 1, .int .i64 ((r : Int) % 9 + 1), .int .i64 64, .bool false, .int .u64 0, .slice none 0 0] 67) = W := ⟨_, rfl⟩
      rw [hwp]
      rw [HL.out] at hwp
      have hbp : Below w2.heap.size w2 wp := by rw [← hwp]; exact below_alloc1 (Below.refl _ _) _
      have bp : wp.heap[w2.heap.size]? = some (.cells #[.int .i64 1, .int .i64 (Ln : Int), .int .i64 64, .bool false, .int .u64 0, .slice none 0 0] 67 (0, 0)) := by rw [← hwp]; exact heap_alloc_new _ _
      have hlp : w2.heap.size < wp.heap.size := obj_lt bp
      have HITx1 := Lib.hid (HIT2.out.only (S := fun _ => False) (Only.of_below hbp) fun _ _ h => h)
      have HWp := Lib.hid (HW2.out.trans (hbp.mono HW2.out.size))
      have BP := Lib.hid bp
      clear hwp hbp bp
      have HRR := Lib.hid (show ∀ x ∈ List.replicate K xs, R32 x from fun x hx => by rw [(List.mem_replicate.1 hx).2]; exact HR.out)
      have HTE := Lib.hid (show treeErr K 1 (Ln : Int) 64 = 0 by
        have h : growErr 1 (Ln : Int) 64 = 0 := by unfold growErr; rw [if_neg (by omega), if_neg (by omega)]
        unfold treeErr
        rw [h, if_neg (by simp), if_neg (by omega)])
      have HSF0 : ∀ s, (growF (List.replicate K xs) D Ln s 64 (upTo K) 0 0).1 = sameF D Ln 64 (upTo K) 0 := fun s => growF_same (v := xs) HD.out (by omega) s 64 (upTo K) 0 0 (fun id hid => by
        obtain ⟨h1, h2⟩ := upToS_mem hid
        obtain ⟨i, rfl⟩ : ∃ i : Nat, id = (i : Int) := ⟨id.toNat, by omega⟩
        rw [itemZ_nat (by rw [List.length_replicate]; omega)]
        simp [List.getD, show i < K by omega])
      have hids := sameF_ids D Ln 64 (upTo K) 0
      have hlv := sameF_leaves D (leaf := Ln) (by omega) 64 (upTo K) 0 (by rw [upTo_length]; omega)
      have hpos := sameF_pos D Ln 64 (upTo K) 0
      have hsz := growF_size (List.replicate K xs) D (leaf := Ln) (fun i => ds.getD i 0) (by omega) 64 (upTo K) 0 0 (by rw [upTo_length]; omega)
      rw [HSF0, upTo_length] at hsz
      obtain ⟨TT, hTT⟩ : ∃ TT, sameF D Ln 64 (upTo K) 0 = TT := ⟨_, rfl⟩
      rw [hTT] at hids hlv hpos hsz
      have HSF := Lib.hid (fun s => (HSF0 s).trans hTT)
      have HIDS := Lib.hid hids
      have HLV := Lib.hid hlv
      obtain ⟨nn, hnn⟩ : ∃ x, TT.length = x := ⟨_, rfl⟩
      have ENN := Lib.hid hnn
      rw [hnn] at hpos hsz
      clear HSF0 hids hlv hTT hnn
      have HSC := Lib.hid (show ∀ W, Below wp.heap.size wp W → Calls Try.prog 23 #[.slice B ds.length d] W (fun e ws => ∃ lo T p, e = .returned (.iface T p) ∧ At ws lo ws.heap.size (.iface T p) (fun i => ds.getD i 0) 0 ∧ wp.heap.size ≤ lo ∧ Below W.heap.size W ws) from fun W hW => by
        refine (Script_calls B d ds W (KD.out.below (HWp.out.trans (hW.mono HWp.out.size))) HU.out (by omega)).mono ?_
        rintro e ws ⟨v, he, hs, hb, T, p, rfl⟩
        exact ⟨W.heap.size, T, p, he, At.of_src hs, hW.size, hb⟩)
      have HTC1 := Lib.hid (show ∀ (W : World) (lo hi : Nat) (v : Value), At W lo hi v (fun i => ds.getD i 0) 0 → Below wp.heap.size wp W → wp.heap.size ≤ lo → hi ≤ W.heap.size → Calls Try.prog 31 #[.pointer (some ⟨b, 0, none⟩), .agg #[.int .i64 1, .int .i64 (Ln : Int), .int .i64 64, .bool false, .int .u64 0, .slice none 0 0], v] W (fun e w' => ∃ vN, e = .returned (.tuple #[vN, .int .i64 0]) ∧ RdN w' (fun _ => False) vN TT ∧ Below wp.heap.size wp w') from fun W lo hi v h1 h2 h3 h4 => by
        have hit := HITx1.out.only (S := fun _ => False) (Only.of_below h2) fun _ _ h => h
        have hzW := h2.size
        refine (Tree_calls b D (List.replicate K xs) AI cI 1 (Ln : Int) 64 false 0 none 0 0 lo hi v (fun i => ds.getD i 0) 0 W hit HRR.out h1 (by omega) (by rw [List.length_replicate]; omega) (fun q hq h => by have := (HITx1.out.blk q hq).2; have := h.1; omega) h4).mono ?_
        rintro e w' ⟨vN, he, _, hgood⟩
        rw [List.length_replicate, HTE.out] at he hgood
        obtain ⟨hown, _, hon⟩ := hgood rfl
        rw [show ((64 : Int)).toNat = 64 from rfl, show ((Ln : Int)).toNat = Ln from rfl, HSF.out (fun i => ds.getD i 0)] at hown
        exact ⟨vN, he, RdN.of_own hown (fun _ h => h.elim), ⟨hon.os.trans h2.os, hon.tape.trans h2.tape, hon.output.trans h2.output, Nat.le_trans h2.size hon.size, fun q hq => (hon.block q (by omega) fun h => by have := h.1; omega).trans (h2.block q hq)⟩⟩)
      have p0 : wp.cell? ⟨w2.heap.size, 0, none⟩ = some (.int .i64 1) := by have h := BP.out; simp [World.cell?, h]
      have p1 : wp.cell? ⟨w2.heap.size, 1, none⟩ = some (.int .i64 (Ln : Int)) := by have h := BP.out; simp [World.cell?, h]
      have p2 : wp.cell? ⟨w2.heap.size, 2, none⟩ = some (.int .i64 64) := by have h := BP.out; simp [World.cell?, h]
      have p3 : wp.cell? ⟨w2.heap.size, 3, none⟩ = some (.bool false) := by have h := BP.out; simp [World.cell?, h]
      have p4 : wp.cell? ⟨w2.heap.size, 4, none⟩ = some (.int .u64 0) := by have h := BP.out; simp [World.cell?, h]
      have p5 : wp.cell? ⟨w2.heap.size, 5, none⟩ = some (.slice none 0 0) := by have h := BP.out; simp [World.cell?, h]
      have hbr : Below wp.heap.size wp wp := Below.refl _ _
      go_wp2_with fail
      go_region_held3 (fun w' => w'.cell? ⟨w2.heap.size, 0, none⟩ = some (.int .i64 1) ∧ w'.cell? ⟨w2.heap.size, 1, none⟩ = some (.int .i64 (Ln : Int)) ∧ w'.cell? ⟨w2.heap.size, 2, none⟩ = some (.int .i64 64) ∧ w'.cell? ⟨w2.heap.size, 3, none⟩ = some (.bool false) ∧ w'.cell? ⟨w2.heap.size, 4, none⟩ = some (.int .u64 0) ∧ w'.cell? ⟨w2.heap.size, 5, none⟩ = some (.slice none 0 0) ∧ Below wp.heap.size wp w')
        (first | exact ⟨cell_below (B := wp.heap.size) (w := wp) (by first | ((repeat (first | assumption | exact Below.refl _ _ | apply below_drew1 | apply below_alloc1)); done)) p0 hlp, cell_below (B := wp.heap.size) (w := wp) (by first | ((repeat (first | assumption | exact Below.refl _ _ | apply below_drew1 | apply below_alloc1)); done)) p1 hlp, cell_below (B := wp.heap.size) (w := wp) (by first | ((repeat (first | assumption | exact Below.refl _ _ | apply below_drew1 | apply below_alloc1)); done)) p2 hlp, cell_below (B := wp.heap.size) (w := wp) (by first | ((repeat (first | assumption | exact Below.refl _ _ | apply below_drew1 | apply below_alloc1)); done)) p3 hlp, cell_below (B := wp.heap.size) (w := wp) (by first | ((repeat (first | assumption | exact Below.refl _ _ | apply below_drew1 | apply below_alloc1)); done)) p4 hlp, cell_below (B := wp.heap.size) (w := wp) (by first | ((repeat (first | assumption | exact Below.refl _ _ | apply below_drew1 | apply below_alloc1)); done)) p5 hlp, (by first | ((repeat (first | assumption | exact Below.refl _ _ | apply below_drew1 | apply below_alloc1)); done))⟩ | go_keep)
        (first
          | (go_at_call 23; go_split_ands; (with_reducible refine Calls.mono (HSC.out _ ?_) ?_); (exact (by first | ((repeat (first | assumption | exact Below.refl _ _ | apply below_drew1 | apply below_alloc1)); done))); rintro e ws ⟨lo, T', p', he, hat, hlo, hbs⟩; subst he; have hB1 : Below wp.heap.size wp ws := Below.after (by first | ((repeat (first | assumption | exact Below.refl _ _ | apply below_drew1 | apply below_alloc1)); done)) hbs; have HAT := Lib.hid hat; clear hat hbs)
          | (go_at_call 31; go_split_ands; (with_reducible refine Calls.mono (HTC1.out _ _ _ _ (HAT.out.below (by first | ((repeat (first | assumption | exact Below.refl _ _ | apply below_drew1 | apply below_alloc1)); done)) (Nat.le_refl _)) ?_ hlo (by first | exact Nat.le_refl _ | (simp; done))) ?_); (exact (by first | ((repeat (first | assumption | exact Below.refl _ _ | apply below_drew1 | apply below_alloc1)); done))); rintro e wt ⟨vN1, he, hrd, hbq⟩; subst he; have HRD1 := Lib.hid hrd; have hB2 : Below wp.heap.size wp wt := hbq; clear hrd hbq))
      have hbz : Below wp.heap.size wp wt := by assumption
      have BPt := Lib.hid (obj_below hbz BP.out hlp)
      have HWt := Lib.hid (HWp.out.trans (hbz.mono HWp.out.size))
      have HITx2 := Lib.hid (HITx1.out.only (S := fun _ => False) (Only.of_below hbz) fun _ _ h => h)
      have hlp : w2.heap.size < wt.heap.size := by have := hbz.size; omega
      clear hbz p0 p1 p2 p3 p4 p5 HTC1 HSC HITx1
      have hwm : IntKind.u64.wrap (m : Int) = (m : Int) := u64_id _ (by omega)
      have HMC := Lib.hid (show ∀ W, Below wt.heap.size wt W → Calls Try.prog 26 #[.int .u64 (m : Int)] W (fun e ws => ∃ lo T p, e = .returned (.iface T p) ∧ At ws lo ws.heap.size (.iface T p) (fun i => mixAt (m : Int) (i + 1)) 0 ∧ wt.heap.size ≤ lo ∧ Below W.heap.size W ws) from fun W hW => by
        refine (Mix_calls (m : Int) W).mono ?_
        rintro e ws ⟨v, he, hs, hb, T, p, rfl⟩
        exact ⟨W.heap.size, T, p, he, At.of_src hs, hW.size, hb⟩)
      have HTC2 := Lib.hid (show ∀ (W : World) (lo hi : Nat) (v : Value), At W lo hi v (fun i => mixAt (m : Int) (i + 1)) 0 → Below wt.heap.size wt W → wt.heap.size ≤ lo → hi ≤ W.heap.size → Calls Try.prog 31 #[.pointer (some ⟨b, 0, none⟩), .agg #[.int .i64 1, .int .i64 (Ln : Int), .int .i64 64, .bool false, .int .u64 0, .slice none 0 0], v] W (fun e w' => ∃ vN, e = .returned (.tuple #[vN, .int .i64 0]) ∧ RdN w' (fun _ => False) vN TT ∧ Below wt.heap.size wt w') from fun W lo hi v h1 h2 h3 h4 => by
        have hit := HITx2.out.only (S := fun _ => False) (Only.of_below h2) fun _ _ h => h
        have hzW := h2.size
        refine (Tree_calls b D (List.replicate K xs) AI cI 1 (Ln : Int) 64 false 0 none 0 0 lo hi v (fun i => mixAt (m : Int) (i + 1)) 0 W hit HRR.out h1 (by omega) (by rw [List.length_replicate]; omega) (fun q hq h => by have := (HITx2.out.blk q hq).2; have := h.1; omega) h4).mono ?_
        rintro e w' ⟨vN, he, _, hgood⟩
        rw [List.length_replicate, HTE.out] at he hgood
        obtain ⟨hown, _, hon⟩ := hgood rfl
        rw [show ((64 : Int)).toNat = 64 from rfl, show ((Ln : Int)).toNat = Ln from rfl, HSF.out (fun i => mixAt (m : Int) (i + 1))] at hown
        exact ⟨vN, he, RdN.of_own hown (fun _ h => h.elim), ⟨hon.os.trans h2.os, hon.tape.trans h2.tape, hon.output.trans h2.output, Nat.le_trans h2.size hon.size, fun q hq => (hon.block q (by omega) fun h => by have := h.1; omega).trans (h2.block q hq)⟩⟩)
      have p0 : wt.cell? ⟨w2.heap.size, 0, none⟩ = some (.int .i64 1) := by have h := BPt.out; simp [World.cell?, h]
      have p1 : wt.cell? ⟨w2.heap.size, 1, none⟩ = some (.int .i64 (Ln : Int)) := by have h := BPt.out; simp [World.cell?, h]
      have p2 : wt.cell? ⟨w2.heap.size, 2, none⟩ = some (.int .i64 64) := by have h := BPt.out; simp [World.cell?, h]
      have p3 : wt.cell? ⟨w2.heap.size, 3, none⟩ = some (.bool false) := by have h := BPt.out; simp [World.cell?, h]
      have p4 : wt.cell? ⟨w2.heap.size, 4, none⟩ = some (.int .u64 0) := by have h := BPt.out; simp [World.cell?, h]
      have p5 : wt.cell? ⟨w2.heap.size, 5, none⟩ = some (.slice none 0 0) := by have h := BPt.out; simp [World.cell?, h]
      have hbr : Below wt.heap.size wt wt := Below.refl _ _
      go_wp2_with fail
      go_region_held3 (fun w' => w'.cell? ⟨w2.heap.size, 0, none⟩ = some (.int .i64 1) ∧ w'.cell? ⟨w2.heap.size, 1, none⟩ = some (.int .i64 (Ln : Int)) ∧ w'.cell? ⟨w2.heap.size, 2, none⟩ = some (.int .i64 64) ∧ w'.cell? ⟨w2.heap.size, 3, none⟩ = some (.bool false) ∧ w'.cell? ⟨w2.heap.size, 4, none⟩ = some (.int .u64 0) ∧ w'.cell? ⟨w2.heap.size, 5, none⟩ = some (.slice none 0 0) ∧ Below wt.heap.size wt w')
        (first | exact ⟨cell_below (B := wt.heap.size) (w := wt) (by first | ((repeat (first | assumption | exact Below.refl _ _ | apply below_drew1 | apply below_alloc1)); done)) p0 hlp, cell_below (B := wt.heap.size) (w := wt) (by first | ((repeat (first | assumption | exact Below.refl _ _ | apply below_drew1 | apply below_alloc1)); done)) p1 hlp, cell_below (B := wt.heap.size) (w := wt) (by first | ((repeat (first | assumption | exact Below.refl _ _ | apply below_drew1 | apply below_alloc1)); done)) p2 hlp, cell_below (B := wt.heap.size) (w := wt) (by first | ((repeat (first | assumption | exact Below.refl _ _ | apply below_drew1 | apply below_alloc1)); done)) p3 hlp, cell_below (B := wt.heap.size) (w := wt) (by first | ((repeat (first | assumption | exact Below.refl _ _ | apply below_drew1 | apply below_alloc1)); done)) p4 hlp, cell_below (B := wt.heap.size) (w := wt) (by first | ((repeat (first | assumption | exact Below.refl _ _ | apply below_drew1 | apply below_alloc1)); done)) p5 hlp, (by first | ((repeat (first | assumption | exact Below.refl _ _ | apply below_drew1 | apply below_alloc1)); done))⟩ | go_keep)
        (first
          | (go_at_call 26; go_split_ands; (with_reducible refine Calls.mono (HMC.out _ ?_) ?_); (exact (by first | ((repeat (first | assumption | exact Below.refl _ _ | apply below_drew1 | apply below_alloc1)); done))); rintro e ws ⟨lo, T', p', he, hat, hlo, hbs⟩; subst he; have hB1 : Below wt.heap.size wt ws := Below.after (by first | ((repeat (first | assumption | exact Below.refl _ _ | apply below_drew1 | apply below_alloc1)); done)) hbs; have HAT := Lib.hid hat; clear hat hbs)
          | (go_at_call 31; go_split_ands; (with_reducible refine Calls.mono (HTC2.out _ _ _ _ (HAT.out.below (by first | ((repeat (first | assumption | exact Below.refl _ _ | apply below_drew1 | apply below_alloc1)); done)) (Nat.le_refl _)) ?_ hlo (by first | exact Nat.le_refl _ | (simp; done))) ?_); (exact (by first | ((repeat (first | assumption | exact Below.refl _ _ | apply below_drew1 | apply below_alloc1)); done))); rintro e wv ⟨vN2, he, hrd, hbq⟩; subst he; have HRD2 := Lib.hid hrd; have hB2 : Below wt.heap.size wt wv := hbq; clear hrd hbq))
      have hbz : Below wt.heap.size wt wv := by assumption
      have BPv := Lib.hid (obj_below hbz BPt.out hlp)
      have HWv := Lib.hid (HWt.out.trans (hbz.mono HWt.out.size))
      have HRDa := Lib.hid (HRD1.out.below hbz)
      have hlv : w2.heap.size < wv.heap.size := by have := hbz.size; omega
      clear hbz p0 p1 p2 p3 p4 p5 HTC2 HMC HITx2 HRD1
      obtain ⟨NA, nc, rfl, _⟩ := HRDa.out.shape
      rw [ENN.out]
      have hsm := SameN_calls _ _ TT (fun _ => False) (fun _ => False) wv HRDa.out HRD2.out (by rw [ENN.out]; omega)
      rw [ENN.out] at hsm
      go_wp2_with fail
      refine hsm.mono ?_
      rintro e wz ⟨he, hbz⟩
      subst he
      have BPz := Lib.hid (obj_below hbz BPv.out hlv)
      have HWz := Lib.hid (HWv.out.trans (hbz.mono HWv.out.size))
      have HRDz := Lib.hid (ENN.out ▸ HRDa.out.below hbz)
      have p1 : wz.cell? ⟨w2.heap.size, 1, none⟩ = some (.int .i64 (Ln : Int)) := by have h := BPz.out; simp [World.cell?, h]
      have hn0 : decide (nn = 0) = false := decide_eq_false (by omega)
      have hzz := HWz.out.size
      clear hbz hsm HRD2
      go_wp2_with fail
      go_loopg [18, 19, 20] nn (fun kq v18 v19 v20 w' => kq ≤ nn ∧ v18 = .int .i64 ((((TT.take (nn - kq)).flatMap NodeV.ids).length : Nat) : Int) ∧ v19 = .int .i64 ((nn - kq : Nat)) ∧ Below wz.heap.size wz w')
      case atStart => exact ⟨Nat.le_refl _, by simp, by simp, Below.refl _ _⟩
      case round =>
        obtain ⟨hkq, rfl, rfl, HB0⟩ := hrel
        rename World => wy
        have HBy := Lib.hid HB0
        have hzy := HB0.size
        have hp1 := cell_below HB0 p1 (World.block_lt_of_cell? _ _ p1)
        clear HB0
        cases gk with
        | zero =>
          simp only [Nat.sub_zero]
          have hfl : ((TT.take nn).flatMap NodeV.ids).length = K := by rw [← ENN.out, List.take_length, HIDS.out, upTo_length]
          rw [hfl]
          clear hfl
          go_wp2_with fail
          go_ret
          exact ⟨(by first | rfl | (simp; done)), HWz.out.trans (HBy.out.mono hzz)⟩
        | succ k1 =>
          obtain ⟨i, hi⟩ : ∃ i, nn - (k1 + 1) = i := ⟨_, rfl⟩
          have hi2 : nn - k1 = i + 1 := by omega
          have HI := Lib.hid hi2
          have hlt : i < nn := by omega
          have hltI : (i : Int) < (nn : Int) := by omega
          rw [hi]
          clear hi hi2
          have hx : ∃ x, TT[i]? = some x := ⟨TT[i]'(by rw [ENN.out]; exact hlt), List.getElem?_eq_getElem _⟩
          obtain ⟨x, hx⟩ := hx
          obtain ⟨gN, B1, c1, B2, c2, rfl, _, q0, q1, _, _, _, _, hli, _⟩ := (HRDz.out.below HBy.out).at_ i hx
          obtain ⟨x1, x2⟩ := HLV.out x (List.mem_of_getElem? hx)
          have hfs := flat_succ hx
          have hfa := flat_at hx
          rw [HIDS.out] at hfa
          obtain ⟨nx, hnx⟩ : ∃ y, ((TT.take i).flatMap NodeV.ids).length = y := ⟨_, rfl⟩
          obtain ⟨xi, hxi⟩ : ∃ y, x.ids.length = y := ⟨_, rfl⟩
          obtain ⟨xl, hxl⟩ : ∃ y, x.leaf = y := ⟨_, rfl⟩
          have htot : nx + xi ≤ K := by
            have h : ((TT.take (i + 1)).flatMap NodeV.ids).length ≤ (TT.flatMap NodeV.ids).length := by
              conv => rhs; rw [← List.take_append_drop (i + 1) TT]
              rw [List.flatMap_append, List.length_append]; omega
            rw [HIDS.out, upTo_length] at h
            omega
          rw [hnx, hxi] at hfs hfa
          rw [hxi] at x1 q1
          rw [hxl] at x1 x2 q0
          rw [hnx]
          have XI := Lib.hid hxi
          have HFS := Lib.hid hfs
          have HFA := Lib.hid hfa
          have HRI := Lib.hid hli.2.1
          have HXX := Lib.hid hx
          clear hfs hfa hnx hxi hxl hli hx
          cases xl with
          | false =>
            have hx0 : xi = 0 := by
              have h := x2 rfl
              rw [← XI.out, h]; rfl
            clear x1 x2
            go_wp2_with fail
            go_roundg k1
            case measure => omega
            case rel =>
              rw [HI.out, HFS.out, hx0, Nat.add_zero]
              exact ⟨by omega, rfl, rfl, HBy.out⟩
          | true =>
            have hxl := x1 rfl
            have y2 : decide (Ln < xi) = false := decide_eq_false (by omega)
            have y2' : decide ((Ln : Int) < (xi : Int)) = false := decide_eq_false (by omega)
            clear x1 x2
            go_wp2_with fail
            go_quiet (fail)
            obtain ⟨wq, hwq⟩ : ∃ W, wy.drewN nq = W := ⟨_, rfl⟩
            rw [hwq]
            have HBq := Lib.hid (show Below wz.heap.size wz wq by rw [← hwq]; exact HBy.out.trans ((below_drewN_self _ _).mono hzy))
            have hbyq : Below wy.heap.size wy wq := by rw [← hwq]; exact below_drewN_self _ _
            have q1' := cell_below hbyq q1 (World.block_lt_of_cell? _ _ q1)
            have HRIq := Lib.hid (HRI.out.below hbyq)
            clear hwq hbyq q0 q1 hp1 HRI HBy
            go_wp2_with fail
            go_loopg [18, 20] xi (fun kq v18 v20 w' => kq ≤ xi ∧ v18 = .int .i64 ((nx + (xi - kq) : Nat) : Int) ∧ v20 = .int .i64 ((xi - kq : Nat)) ∧ Below wq.heap.size wq w')
            case atStart => exact ⟨Nat.le_refl _, by simp, by simp, Below.refl _ _⟩
            case round =>
              obtain ⟨hkq2, rfl, rfl, HB1'⟩ := hrel
              rename World => wx
              have HBx := Lib.hid HB1'
              have hzx := HB1'.size
              have q11 := cell_below HB1' q1' (World.block_lt_of_cell? _ _ q1')
              clear HB1'
              cases gk with
              | zero =>
                simp only [Nat.sub_zero]
                go_wp2_with fail
                go_roundg k1
                case measure => omega
                case rel =>
                  rw [HI.out, HFS.out]
                  exact ⟨by omega, rfl, rfl, HBq.out.trans (HBx.out.mono HBq.out.size)⟩
              | succ k2 =>
                obtain ⟨j, hj⟩ : ∃ j, xi - (k2 + 1) = j := ⟨_, rfl⟩
                have hj2 : xi - k2 = j + 1 := by omega
                have HJ := Lib.hid hj2
                have hjl : j < xi := by omega
                rw [hj]
                clear hj hj2
                have hv := HFA.out j hjl
                rw [upTo_get K (nx + j) (by omega)] at hv
                obtain ⟨ad, rfl, hcx⟩ := (HRIq.out.below HBx.out).2 j (by rw [XI.out]; exact hjl)
                rw [← hv] at hcx
                obtain ⟨z, hz⟩ : ∃ z, nx + j = z := ⟨_, rfl⟩
                rw [hz] at hcx ⊢
                have HZ := Lib.hid hz
                have hzw : IntKind.i64.wrap ((z : Int) + 1) = (z : Int) + 1 := by rw [i64_w]; exact wrap64_id _ (by omega)
                clear hv hz
                go_wp2_with fail
                go_roundg k2
                case measure => omega
                case rel =>
                  rw [HJ.out]
                  refine ⟨by omega, ?_, rfl, HBx.out⟩
                  congr 1
                  have h := HZ.out
                  omega
end Go.Proofs.Ytohmcpblagcfeaa
