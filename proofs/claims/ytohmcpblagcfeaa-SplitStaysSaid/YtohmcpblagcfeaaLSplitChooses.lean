
/-
  The statement SplitChooses: the walk. Conditions: the numbers lie in their kinds' ranges.
-/
import Derived.Test.YtohmcpblagcfeaaAwake12
import Derived.Test.YtohmcpblagcfeaaRChoose
namespace Go.Proofs.Ytohmcpblagcfeaa
open Go.RowKit
set_option linter.unusedVariables false
set_option maxRecDepth 100000
set_option linter.unusedSimpArgs false

theorem chk_dim {dim : Int} {ls : List (List Int)} (h : chkV dim ls = 0) : 1 ≤ dim ∧ dim ≤ 1024 := by
  unfold chkV at h
  split at h <;> omega
theorem refS_script (ds : List Int) : refS false 0 ds = fun i => ds.getD i 0 := by
  funext i
  simp [refS]
theorem chooseF_tries (rows : List (List Int)) (dim : Nat) (ids : List Int) (s : Nat → Int) (k : Nat) : ∀ (f t : Nat), (chooseF rows dim ids s k f t).tries ≤ t + f
  | 0, t => Nat.le_refl _
  | f + 1, t => by
    unfold chooseF
    split
    · split
      · show t + 1 ≤ _; omega
      · have := chooseF_tries rows dim ids s k f (t + 1); omega
    · show t ≤ _; omega
theorem choose_tries (rows : List (List Int)) (dim : Nat) (ids : List Int) (s : Nat → Int) (k : Nat) : (choose rows dim ids s k).tries ≤ 4 := by
  have := chooseF_tries rows dim ids s k 4 0
  unfold choose; omega
set_option maxHeartbeats 6400000 in
set_option maxRecDepth 100000 in
theorem SplitChooses_law (dim : Int) (LA : Option Addr) (lc : Nat) (ls : List (List Int)) (A : Option Addr) (c : Nat) (ids : List Int) (B : Option Addr) (d : Nat) (ds : List Int) (w : World) (hd : (Lit.int .i64 dim).wf = true) (hlc : ls.length ≤ lc) (hls : Rows w .i32 LA ls) (hlw : ∀ xs ∈ ls, ∀ n ∈ xs, (Lit.int .i32 n).wf = true)
    (hc : ids.length ≤ c) (ha : Rd w .i64 A ids) (hu : ∀ n ∈ ids, (Lit.int .i64 n).wf = true) (na : A = none → ids = [] ∧ c = 0) (la : ids.length * 8 ≤ 140737488351232) (hdc : ds.length ≤ d) (hdr : Rd w .u64 B ds) (hdu : ∀ n ∈ ds, (Lit.int .u64 n).wf = true) (nd : B = none → ds = [] ∧ d = 0) (ld : ds.length * 8 ≤ 140737488351232) :
    Calls Try.prog 7 #[.int .i64 dim, .slice LA ls.length lc, .slice A ids.length c, .slice B ds.length d] w fun e w' => e = .returned (.bool true) ∧ Below w.heap.size w w' := by
  have HR := Lib.hid (show ∀ r ∈ ls, R32 r from fun r hr => r32_of_wf (hlw r hr))
  have KL := Lib.hid hls
  have KA := Lib.hid ha
  have KD := Lib.hid hdr
  have HU := Lib.hid (u64_of_wf hdu)
  have hnl := ha.1
  have hdl := hdr.1
  clear hls ha hdr hlw hu na la hdu nd ld hd
  have k_w : Below w.heap.size w w := Below.refl _ _
  go_enter Try.func7, Try.ntmps7
  go_wp2_with fail
  refine (awake12_calls _  ).mono ?_
  rintro e w1 ⟨he, hbn⟩
  subst he
  have k_w_w1 : Below w.heap.size w w1 := k_w.trans (hbn.mono k_w.size)
  clear k_w
  clear hbn
  go_wp2_with fail
  refine (some12_calls dim LA lc ls A c ids.length _ (KL.out.below k_w_w1) hnl).mono ?_
  rintro e w2 ⟨v, he, hbn, hv⟩
  subst he
  have HV := Lib.hid hv
  clear hv
  have k_w_w2 : Below w.heap.size w w2 := k_w_w1.trans (hbn.mono k_w_w1.size)
  clear k_w_w1
  clear hbn
  rcases HV.out with rfl | ⟨b, rfl, hwb, hit, hchk, hl3, hn2⟩
  · go_wp2_with fail
    go_ret
    exact ⟨rfl, k_w_w2⟩
  clear HV
  obtain ⟨n, hnn⟩ : ∃ n, ids.length = n := ⟨_, rfl⟩
  have hdim := chk_dim hchk
  obtain ⟨D, rfl⟩ : ∃ D : Nat, dim = (D : Int) := ⟨dim.toNat, by omega⟩
  rw [Int.toNat_natCast] at hit
  obtain ⟨AI, cI, hitv⟩ := hit.v
  have HIT := Lib.hid hitv
  have HNN := Lib.hid hnn
  have hd2 : D ≤ 1024 := by omega
  rw [hnn] at hc hn2 hnl ⊢
  by_cases hp : 200 < ds.length
  · have hp' : decide ((200 : Int) < (ds.length : Int)) = true := decide_eq_true (by omega)
    clear hit hnn hitv hchk
    go_wp2_with fail
    go_ret
    exact ⟨rfl, k_w_w2⟩
  have hp' : decide ((200 : Int) < (ds.length : Int)) = false := decide_eq_false (by omega)
  clear hit hnn hitv hchk
  have hz02 := k_w_w2.size
  go_wp2_with fail
  refine (Script_calls B d ds w2 (KD.out.below k_w_w2) HU.out (by omega)).mono ?_
  rintro e w3 ⟨v, he, hs, hbn, T, p, rfl⟩
  subst he
  have hz23 := hbn.size
  have HS := Lib.hid hs
  clear hs
  have z_w_w2 := k_w_w2.size
  have k_w2 : Below w2.heap.size w2 w2 := Below.refl _ _
  have k_w_w3 : Below w.heap.size w w3 := k_w_w2.trans (hbn.mono k_w_w2.size)
  have k_w2_w3 : Below w2.heap.size w2 w3 := k_w2.trans (hbn.mono k_w2.size)
  clear k_w_w2
  clear k_w2
  clear hbn
  go_wp2_with fail
  refine (Count_calls T p w2.heap.size w3.heap.size _ _ HS.out (Nat.le_refl _) hz23).mono ?_
  rintro e w4 ⟨he, hs, hbn⟩
  subst he
  have hz34 := hbn.size
  have HC := Lib.hid (At.of_ctr hs)
  clear hs HS
  have k_w_w4 : Below w.heap.size w w4 := k_w_w3.trans (hbn.mono k_w_w3.size)
  have k_w2_w4 : Below w2.heap.size w2 w4 := k_w2_w3.trans (hbn.mono k_w2_w3.size)
  clear k_w_w3
  clear k_w2_w3
  clear hbn
  go_wp2_with fail
  obtain ⟨w5, hw5⟩ : ∃ W, w4.alloc (.cells #[.bool false, .int .u64 0, .slice B ds.length d, .int .i64 0] 59) = W := ⟨_, rfl⟩
  (try rw [hw5])
  have hbn : Below w4.heap.size w4 w5 := by rw [← hw5]; exact below_alloc1 (Below.refl _ _) _
  have bs5 : w5.heap[w4.heap.size]? = some (.cells #[.bool false, .int .u64 0, .slice B ds.length d, .int .i64 (0 : Nat)] 59 (0, 0)) := by rw [← hw5]; exact heap_alloc_new _ _
  have HB5 := Lib.hid hbn
  have HBS5 := Lib.hid bs5
  clear hw5 bs5
  have k_w_w5 : Below w.heap.size w w5 := k_w_w4.trans (hbn.mono k_w_w4.size)
  have k_w2_w5 : Below w2.heap.size w2 w5 := k_w2_w4.trans (hbn.mono k_w2_w4.size)
  clear k_w_w4
  clear k_w2_w4
  clear hbn
  have HAT5 := Lib.hid (HC.out.below HB5.out (Nat.le_refl _))
  have hz45 := HB5.out.size
  have HW5 := Lib.hid (show Below w.heap.size w w5 from k_w_w5)
  have HRS5 := Lib.hid (show RefS w5 w4.heap.size false 0 B d ds 0 from RefS.mk HBS5.out (KD.out.below HW5.out) fun ad h1 e => by have := Rd.blk_lt KD.out ad h1 e; omega)
  have hka5 := KA.out.below HW5.out
  have HKA5 := Lib.hid hka5
  have hit5 := HIT.out.only (S := fun _ => False) (Only.of_below k_w2_w5) fun _ _ h => h
  have HIT5 := Lib.hid hit5
  clear hka5 hit5
  refine (HNN.out ▸ (Choose_calls b D ls AI cI A c ids w2.heap.size w4.heap.size _ _ 0 w5 HIT5.out HR.out HKA5.out (by rw [HNN.out]; exact hc) (by rw [HNN.out]; omega) HAT5.out (by omega) (fun q hq h => by have := (HIT.out.blk q hq).2; have := h.1; omega) (fun ad h1 e h => by have := Rd.blk_lt KA.out ad h1 e; have := h.1; omega) hz45)).mono ?_
  rintro e w6 ⟨vn, vl, vr, he, hn1, hl1, hr1, hat6, hon6⟩
  subst he
  have hon6' : Only (Within w2.heap.size w4.heap.size) w5 w6 := hon6
  obtain ⟨R, hR⟩ : ∃ R, choose ls D ids (fun i => ds.getD i 0) 0 = R := ⟨_, rfl⟩
  have hR2 : choose ls D ids (refS false 0 ds) 0 = R := by rw [refS_script]; exact hR
  rw [hR] at hn1 hl1 hr1 hat6 ⊢
  obtain ⟨An, cn, rfl, hcn, _⟩ := hn1.shape
  obtain ⟨Al, cl, rfl, hcl, _⟩ := hl1.shape
  obtain ⟨Ar, cr, rfl, hcr, _⟩ := hr1.shape
  have hbw6 : Below w.heap.size w w6 := HW5.out.trans (hon6'.below HW5.out.size fun k hk h => by have := h.1; omega)
  have hs6 : RefS w6 w4.heap.size false 0 B d ds 0 := HRS5.out.only hon6' (fun h => by have := h.2; omega) fun ad h1 e h => by have := Rd.blk_lt KD.out ad h1 e; have := h.1; omega
  have HN1 := Lib.hid hn1.rd.2
  have HL1 := Lib.hid hl1.rd.2
  have HR1 := Lib.hid hr1.rd.2
  have HAT6 := Lib.hid hat6
  have HB6 := Lib.hid hbw6
  have HS6 := Lib.hid hs6
  have hn1b := hn1
  have HON1 := Lib.hid hn1
  have HOL1 := Lib.hid hl1
  have HOR1 := Lib.hid hr1
  have HRR2 := Lib.hid hR2
  have hz56 := hon6'.size
  clear hn1 hl1 hr1 hat6 hbw6 hs6 hn1b hR hR2 hon6 hon6'
  go_wp2_with fail
  refine (HNN.out ▸ (rChoose_calls w4.heap.size D false 0 B d ds LA lc ls A c ids 0 w w6 HB6.out (by omega) KL.out HR.out HIT.out.2.2.1 hd2 (KA.out.below HB6.out) (fun ad h1 e => by have := Rd.blk_lt KA.out ad h1 e; omega) (by rw [HNN.out]; exact hc) (by rw [HNN.out]; omega) HU.out HS6.out (by omega))).mono ?_
  rintro e w7 ⟨An2, cn2, Al2, cl2, Ar2, cr2, he, hn2, ⟨hl2, _, _⟩, ⟨hr2, _, _⟩, hs7, hon7⟩
  rw [HRR2.out] at he hn2 hl2 hr2 hs7
  subst he
  have HN2 := Lib.hid hn2
  have HL2 := Lib.hid hl2
  have HR2 := Lib.hid hr2
  have HS7 := Lib.hid hs7
  have HB7 := Lib.hid (show Below w.heap.size w w7 from HB6.out.trans (hon7.below HB6.out.size fun k hk h => by omega))
  have HAT7 := Lib.hid (HAT6.out.only hon7 fun q h1 h2 h => by omega)
  have hne : ∀ {e : TypeId} {kk : IntKind} {u : Value} {xs : List Int}, Own w6 w5.heap.size e kk u xs → Own w7 w5.heap.size e kk u xs := fun {e kk u xs} h => h.only hon7 fun q hq e => by have := (h.lt q hq).1; have := obj_lt HBS5.out; omega
  have HN17 := Lib.hid (hne HON1.out).rd.2
  have HL17 := Lib.hid (hne HOL1.out).rd.2
  have HR17 := Lib.hid (hne HOR1.out).rd.2
  obtain ⟨nn, hnn⟩ : ∃ x, R.ns.length = x := ⟨_, rfl⟩
  obtain ⟨nl, hnl2⟩ : ∃ x, R.left.length = x := ⟨_, rfl⟩
  obtain ⟨nr, hnr⟩ : ∃ x, R.right.length = x := ⟨_, rfl⟩
  obtain ⟨tt, htt⟩ : ∃ x, R.tries = x := ⟨_, rfl⟩
  obtain ⟨oo, hoo⟩ : ∃ x, R.off = x := ⟨_, rfl⟩
  have E1 := Lib.hid hnn
  have E2 := Lib.hid hnl2
  have E3 := Lib.hid hnr
  have E4 := Lib.hid htt
  have E5 := Lib.hid hoo
  rw [hnn, hnl2, hnr, htt, hoo]
  clear hn2 hl2 hr2 hs7 hon7 hne hnn hnl2 hnr htt hoo
  go_wp2_with fail
  obtain ⟨w8, hw8⟩ : ∃ W, (w7.alloc (.cells #[.slice An nn cn, .int .i64 oo, .slice Al nl cl, .slice Ar nr cr, .int .i64 tt] 42)).alloc (.cells #[.slice An2 nn cn2, .int .i64 oo, .slice Al2 nl cl2, .slice Ar2 nr cr2, .int .i64 tt] 60) = W := ⟨_, rfl⟩
  (try rw [hw8])
  have hb8 : Below w7.heap.size w7 w8 := by rw [← hw8]; exact below_alloc1 (below_alloc1 (Below.refl _ _) _) _
  have ba8 : w8.heap[w7.heap.size]? = some (.cells #[.slice An nn cn, .int .i64 oo, .slice Al nl cl, .slice Ar nr cr, .int .i64 tt] 42 (0, 0)) := by
    rw [← hw8]; exact obj_below ((Below.refl _ _).alloc (Nat.le_refl _) _) (heap_alloc_new w7 _) (obj_lt (heap_alloc_new w7 _))
  have bb8 : w8.heap[w7.heap.size + 1]? = some (.cells #[.slice An2 nn cn2, .int .i64 oo, .slice Al2 nl cl2, .slice Ar2 nr cr2, .int .i64 tt] 60 (0, 0)) := by
    rw [← hw8]; have h := heap_alloc_new (w7.alloc (.cells #[.slice An nn cn, .int .i64 oo, .slice Al nl cl, .slice Ar nr cr, .int .i64 tt] 42)) (.cells #[.slice An2 nn cn2, .int .i64 oo, .slice Al2 nl cl2, .slice Ar2 nr cr2, .int .i64 tt] 60); rwa [World.size_alloc] at h
  have bm8 := obj_below hb8 HS7.out.1 (obj_lt HS7.out.1)
  have htt : tt ≤ 4 := by rw [← E4.out, ← HRR2.out]; exact choose_tries _ _ _ _ _
  have a0 : w8.cell? ⟨w7.heap.size, 0, none⟩ = some (.slice An nn cn) := by simp [World.cell?, ba8]
  have a1 : w8.cell? ⟨w7.heap.size, 1, none⟩ = some (.int .i64 oo) := by simp [World.cell?, ba8]
  have a2 : w8.cell? ⟨w7.heap.size, 2, none⟩ = some (.slice Al nl cl) := by simp [World.cell?, ba8]
  have a3 : w8.cell? ⟨w7.heap.size, 3, none⟩ = some (.slice Ar nr cr) := by simp [World.cell?, ba8]
  have a4 : w8.cell? ⟨w7.heap.size, 4, none⟩ = some (.int .i64 tt) := by simp [World.cell?, ba8]
  have g0 : w8.cell? ⟨w7.heap.size + 1, 0, none⟩ = some (.slice An2 nn cn2) := by simp [World.cell?, bb8]
  have g1 : w8.cell? ⟨w7.heap.size + 1, 1, none⟩ = some (.int .i64 oo) := by simp [World.cell?, bb8]
  have g2 : w8.cell? ⟨w7.heap.size + 1, 2, none⟩ = some (.slice Al2 nl cl2) := by simp [World.cell?, bb8]
  have g3 : w8.cell? ⟨w7.heap.size + 1, 3, none⟩ = some (.slice Ar2 nr cr2) := by simp [World.cell?, bb8]
  have g4 : w8.cell? ⟨w7.heap.size + 1, 4, none⟩ = some (.int .i64 tt) := by simp [World.cell?, bb8]
  have m3 : w8.cell? ⟨w4.heap.size, 3, none⟩ = some (.int .i64 (2 * (tt : Int))) := by
    have h : w8.cell? ⟨w4.heap.size, 3, none⟩ = some (.int .i64 ((0 + 2 * R.tries : Nat) : Int)) := by simp [World.cell?, bm8]
    rw [h, E4.out, show ((0 + 2 * tt : Nat) : Int) = 2 * (tt : Int) by omega]
  have hwt : IntKind.i64.wrap (2 * (tt : Int)) = 2 * (tt : Int) := by rw [i64_w]; exact wrap64_id _ (by omega)
  have hbA := obj_lt ba8
  have hbB := obj_lt bb8
  have hbM := obj_lt bm8
  have N18 := Lib.hid (HN17.out.below hb8)
  have N28 := Lib.hid (HN2.out.below hb8)
  have L18 := Lib.hid (HL17.out.below hb8)
  have L28 := Lib.hid (HL2.out.below hb8)
  have R18 := Lib.hid (HR17.out.below hb8)
  have R28 := Lib.hid (HR2.out.below hb8)
  have AT8 := Lib.hid (HAT7.out.below hb8 (by have := HB7.out.size; have := obj_lt HS7.out.1; omega))
  have HB8 := Lib.hid (HB7.out.trans (hb8.mono HB7.out.size))
  have HPC := Lib.hid (show ∀ W, Rd W .i32 An R.ns → Rd W .i32 An2 R.ns → Calls Try.prog 24 #[.agg #[.slice An nn cn, .int .i64 oo], .agg #[.slice An2 nn cn2, .int .i64 oo]] W fun e w' => e = .returned (.bool true) ∧ Below W.heap.size W w' from fun W h1 h2 => by
    have h := refpSame_calls An An2 cn cn2 R.ns R.ns oo oo W h1 h2
    rw [E1.out] at h
    simpa using h)
  have HLC := Lib.hid (show ∀ W, Rd W .i64 Al R.left → Rd W .i64 Al2 R.left → Calls Try.prog 17 #[.slice Al nl cl, .slice Al2 nl cl2] W fun e w' => e = .returned (.bool true) ∧ Below W.heap.size W w' from fun W h1 h2 => by
    have h := SameI_calls Al Al2 cl cl2 R.left R.left W h1 h2
    rw [E2.out] at h
    refine h.mono fun e w' ⟨he, q, hq⟩ => ⟨by simpa using he, ?_⟩
    rw [hq]; exact below_drewN_self _ _)
  have HRC := Lib.hid (show ∀ W, Rd W .i64 Ar R.right → Rd W .i64 Ar2 R.right → Calls Try.prog 17 #[.slice Ar nr cr, .slice Ar2 nr cr2] W fun e w' => e = .returned (.bool true) ∧ Below W.heap.size W w' from fun W h1 h2 => by
    have h := SameI_calls Ar Ar2 cr cr2 R.right R.right W h1 h2
    rw [E3.out] at h
    refine h.mono fun e w' ⟨he, q, hq⟩ => ⟨by simpa using he, ?_⟩
    rw [hq]; exact below_drewN_self _ _)
  have HDC := Lib.hid (show ∀ W, Below w8.heap.size w8 W → Calls Try.prog 29 #[.pointer (some ⟨w3.heap.size, 0, none⟩)] W fun e w' => e = .returned (.int .i64 (2 * (tt : Int))) ∧ Below W.heap.size W w' from fun W hW => by
    refine (At.drawn_calls (AT8.out.below hW (by have := HB7.out.size; have := obj_lt HS7.out.1; have := hb8.size; omega))).mono fun e w' ⟨he, hw⟩ => ⟨?_, by rw [hw]; exact Below.refl _ _⟩
    rw [he, E4.out, show ((0 + 2 * tt : Nat) : Int) = 2 * (tt : Int) by omega])
  have hb88 : Below w8.heap.size w8 w8 := Below.refl _ _
  clear hw8 ba8 bb8 bm8 hb8 htt
  go_region_held3 (fun w' => w'.cell? ⟨w7.heap.size, 0, none⟩ = some (.slice An nn cn) ∧ w'.cell? ⟨w7.heap.size, 1, none⟩ = some (.int .i64 oo) ∧ w'.cell? ⟨w7.heap.size, 2, none⟩ = some (.slice Al nl cl) ∧ w'.cell? ⟨w7.heap.size, 3, none⟩ = some (.slice Ar nr cr) ∧ w'.cell? ⟨w7.heap.size, 4, none⟩ = some (.int .i64 tt) ∧ w'.cell? ⟨w7.heap.size + 1, 0, none⟩ = some (.slice An2 nn cn2) ∧ w'.cell? ⟨w7.heap.size + 1, 1, none⟩ = some (.int .i64 oo) ∧ w'.cell? ⟨w7.heap.size + 1, 2, none⟩ = some (.slice Al2 nl cl2) ∧ w'.cell? ⟨w7.heap.size + 1, 3, none⟩ = some (.slice Ar2 nr cr2) ∧ w'.cell? ⟨w7.heap.size + 1, 4, none⟩ = some (.int .i64 tt) ∧ w'.cell? ⟨w4.heap.size, 3, none⟩ = some (.int .i64 (2 * (tt : Int))) ∧ Below w8.heap.size w8 w')
    (first | exact ⟨cell_below (B := w8.heap.size) (w := w8) (by first | ((repeat (first | assumption | exact Below.refl _ _ | apply below_drew1 | apply below_alloc1)); done)) a0 hbA, cell_below (B := w8.heap.size) (w := w8) (by first | ((repeat (first | assumption | exact Below.refl _ _ | apply below_drew1 | apply below_alloc1)); done)) a1 hbA, cell_below (B := w8.heap.size) (w := w8) (by first | ((repeat (first | assumption | exact Below.refl _ _ | apply below_drew1 | apply below_alloc1)); done)) a2 hbA, cell_below (B := w8.heap.size) (w := w8) (by first | ((repeat (first | assumption | exact Below.refl _ _ | apply below_drew1 | apply below_alloc1)); done)) a3 hbA, cell_below (B := w8.heap.size) (w := w8) (by first | ((repeat (first | assumption | exact Below.refl _ _ | apply below_drew1 | apply below_alloc1)); done)) a4 hbA, cell_below (B := w8.heap.size) (w := w8) (by first | ((repeat (first | assumption | exact Below.refl _ _ | apply below_drew1 | apply below_alloc1)); done)) g0 hbB, cell_below (B := w8.heap.size) (w := w8) (by first | ((repeat (first | assumption | exact Below.refl _ _ | apply below_drew1 | apply below_alloc1)); done)) g1 hbB, cell_below (B := w8.heap.size) (w := w8) (by first | ((repeat (first | assumption | exact Below.refl _ _ | apply below_drew1 | apply below_alloc1)); done)) g2 hbB, cell_below (B := w8.heap.size) (w := w8) (by first | ((repeat (first | assumption | exact Below.refl _ _ | apply below_drew1 | apply below_alloc1)); done)) g3 hbB, cell_below (B := w8.heap.size) (w := w8) (by first | ((repeat (first | assumption | exact Below.refl _ _ | apply below_drew1 | apply below_alloc1)); done)) g4 hbB, cell_below (B := w8.heap.size) (w := w8) (by first | ((repeat (first | assumption | exact Below.refl _ _ | apply below_drew1 | apply below_alloc1)); done)) m3 hbM, (by first | ((repeat (first | assumption | exact Below.refl _ _ | apply below_drew1 | apply below_alloc1)); done))⟩ | go_keep)
    (first
      | (go_at_call 24; go_split_ands; (with_reducible refine Calls.mono (HPC.out _ ?_ ?_) ?_); (exact N18.out.below (by first | ((repeat (first | assumption | exact Below.refl _ _ | apply below_drew1 | apply below_alloc1)); done))); (exact N28.out.below (by first | ((repeat (first | assumption | exact Below.refl _ _ | apply below_drew1 | apply below_alloc1)); done))); rintro e wq ⟨he, hbq⟩; subst he; have hB2 : Below w8.heap.size w8 wq := Below.after (by first | ((repeat (first | assumption | exact Below.refl _ _ | apply below_drew1 | apply below_alloc1)); done)) hbq)
      | (go_at_call 17; go_split_ands; (with_reducible refine Calls.mono (HLC.out _ ?_ ?_) ?_); (exact L18.out.below (by first | ((repeat (first | assumption | exact Below.refl _ _ | apply below_drew1 | apply below_alloc1)); done))); (exact L28.out.below (by first | ((repeat (first | assumption | exact Below.refl _ _ | apply below_drew1 | apply below_alloc1)); done))); rintro e wq ⟨he, hbq⟩; subst he; have hB2 : Below w8.heap.size w8 wq := Below.after (by first | ((repeat (first | assumption | exact Below.refl _ _ | apply below_drew1 | apply below_alloc1)); done)) hbq)
      | (go_at_call 17; go_split_ands; (with_reducible refine Calls.mono (HRC.out _ ?_ ?_) ?_); (exact R18.out.below (by first | ((repeat (first | assumption | exact Below.refl _ _ | apply below_drew1 | apply below_alloc1)); done))); (exact R28.out.below (by first | ((repeat (first | assumption | exact Below.refl _ _ | apply below_drew1 | apply below_alloc1)); done))); rintro e wq ⟨he, hbq⟩; subst he; have hB2 : Below w8.heap.size w8 wq := Below.after (by first | ((repeat (first | assumption | exact Below.refl _ _ | apply below_drew1 | apply below_alloc1)); done)) hbq)
      | (go_at_call 29; go_split_ands; (with_reducible refine Calls.mono (HDC.out _ ?_) ?_); (exact (by first | ((repeat (first | assumption | exact Below.refl _ _ | apply below_drew1 | apply below_alloc1)); done))); rintro e wq ⟨he, hbq⟩; subst he; have hB2 : Below w8.heap.size w8 wq := Below.after (by first | ((repeat (first | assumption | exact Below.refl _ _ | apply below_drew1 | apply below_alloc1)); done)) hbq))
  have hbz : Below w8.heap.size w8 wq := by assumption
  have HBZ := Lib.hid hbz
  go_wp2_with fail
  go_ret
  exact ⟨by simp, HB8.out.trans (HBZ.out.mono HB8.out.size)⟩
end Go.Proofs.Ytohmcpblagcfeaa
