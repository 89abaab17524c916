
/-
  The statement SplitParts: the walk. Conditions: the numbers lie in their kinds' ranges.
-/
import Derived.Test.YtohmcpblagcfeaaAwake12
namespace Go.Proofs.Ytohmcpblagcfeaa
open Go.RowKit
set_option linter.unusedVariables false
set_option maxRecDepth 100000
set_option linter.unusedSimpArgs false

theorem Rd.of_c {w : World} {k : IntKind} {A : Option Addr} {xs : List Int} (h : RdC w A (nums k xs)) (hl : xs.length ≤ 9223372036854775807) : Rd w k A xs :=
  ⟨hl, fun j hj => h j _ (nums_get k xs j hj)⟩
theorem Rd.cutR {w : World} {k : IntKind} {A : Option Addr} {c m : Nat} {xs : List Int} (h : Rd w k A xs) (hm : m ≤ xs.length) (hc : xs.length ≤ c) : Rd w k A (xs.take m) ∧ Rd w k (if c = m then A else Option.map (fun x => x.add m) A) (xs.drop m) := by
  obtain ⟨h1, h2⟩ := h.cutA hm hc
  have := h.1
  exact ⟨Rd.of_c h1 (by simp; omega), Rd.of_c h2 (by simp; omega)⟩
set_option maxHeartbeats 6400000 in
set_option maxRecDepth 100000 in
theorem SplitParts_law (dim : Int) (LA : Option Addr) (lc : Nat) (ls : List (List Int)) (A : Option Addr) (c : Nat) (ids : List Int) (B : Option Addr) (d : Nat) (ns : List Int) (off : Int) (w : World) (hd : (Lit.int .i64 dim).wf = true) (hlc : ls.length ≤ lc) (hls : Rows w .i32 LA ls) (hlw : ∀ xs ∈ ls, ∀ n ∈ xs, (Lit.int .i32 n).wf = true)
    (hc : ids.length ≤ c) (ha : Rd w .i64 A ids) (hu : ∀ n ∈ ids, (Lit.int .i64 n).wf = true) (na : A = none → ids = [] ∧ c = 0) (la : ids.length * 8 ≤ 140737488351232) (hnc : ns.length ≤ d) (hn : Rd w .i32 B ns) (hnw : ∀ n ∈ ns, (Lit.int .i32 n).wf = true) (how : (Lit.int .i64 off).wf = true) :
    Calls Try.prog 3 #[.int .i64 dim, .slice LA ls.length lc, .slice A ids.length c, .agg #[.slice B ns.length d, .int .i64 off]] w fun e w' => e = .returned (.bool true) ∧ Below w.heap.size w w' := by
  have HR := Lib.hid (show ∀ r ∈ ls, R32 r from fun r hr => r32_of_wf (hlw r hr))
  have KL := Lib.hid hls
  have KA := Lib.hid ha
  have KN := Lib.hid hn
  have HN32 := Lib.hid (r32_of_wf hnw)
  have hnl := ha.1
  clear hls ha hn hnw hlw hu na la how hd
  have k_w : Below w.heap.size w w := Below.refl _ _
  go_enter Try.func3, Try.ntmps3
  go_wp2_with fail
  obtain ⟨w1, hw⟩ : ∃ W, w.alloc (.cells #[.slice B ns.length d, .int .i64 off] 26) = W := ⟨_, rfl⟩
  rw [hw]
  have hbn : Below w.heap.size w w1 := by rw [← hw]; exact below_alloc1 (Below.refl _ _) _
  have b3 : w1.heap[w.heap.size]? = some (.cells #[.slice B ns.length d, .int .i64 off] 26 (0, 0)) := by rw [← hw]; exact heap_alloc_new _ _
  clear hw
  have k_w_w1 : Below w.heap.size w w1 := k_w.trans (hbn.mono k_w.size)
  clear k_w
  clear hbn
  have b2 := b3
  clear b3
  have h_t0 : w1.cell? ⟨w.heap.size, 0, none⟩ = some (.slice B ns.length d) := by simp [World.cell?, b2]
  have h_t1 : w1.cell? ⟨w.heap.size, 1, none⟩ = some (.int .i64 off) := by simp [World.cell?, b2]
  have b_t := Lib.hid b2
  clear b2
  go_wp2_with fail
  refine (awake12_calls _  ).mono ?_
  rintro e w2 ⟨he, hbn⟩
  subst he
  have k_w_w2 : Below w.heap.size w w2 := k_w_w1.trans (hbn.mono k_w_w1.size)
  clear k_w_w1
  have b2 := obj_below hbn b_t.out (obj_lt b_t.out)
  clear b_t h_t0 h_t1
  have h_t0 : w2.cell? ⟨w.heap.size, 0, none⟩ = some (.slice B ns.length d) := by simp [World.cell?, b2]
  have h_t1 : w2.cell? ⟨w.heap.size, 1, none⟩ = some (.int .i64 off) := by simp [World.cell?, b2]
  have b_t := Lib.hid b2
  clear b2
  clear hbn
  go_wp2_with fail
  refine (some12_calls dim LA lc ls A c ids.length _ (KL.out.below k_w_w2) hnl).mono ?_
  rintro e w3 ⟨v, he, hbn, hv⟩
  subst he
  have HV := Lib.hid hv
  clear hv
  have k_w_w3 : Below w.heap.size w w3 := k_w_w2.trans (hbn.mono k_w_w2.size)
  clear k_w_w2
  have b2 := obj_below hbn b_t.out (obj_lt b_t.out)
  clear b_t h_t0 h_t1
  have h_t0 : w3.cell? ⟨w.heap.size, 0, none⟩ = some (.slice B ns.length d) := by simp [World.cell?, b2]
  have h_t1 : w3.cell? ⟨w.heap.size, 1, none⟩ = some (.int .i64 off) := by simp [World.cell?, b2]
  have b_t := Lib.hid b2
  clear b2
  clear hbn
  rcases HV.out with rfl | ⟨b, rfl, hwb, hit, _, hl3, hn2⟩
  · go_wp2_with fail
    go_ret
    exact ⟨rfl, k_w_w3⟩
  clear HV
  obtain ⟨n, hnn⟩ : ∃ n, ids.length = n := ⟨_, rfl⟩
  have HIT := Lib.hid hit
  have HNN := Lib.hid hnn
  have hca : Rd w3 .i64 A ids := (KA.out.below k_w_w3)
  rw [hnn] at hc hn2 hnl ⊢
  by_cases hp : 1100 < ns.length
  · have hp' : decide ((1100 : Int) < (ns.length : Int)) = true := decide_eq_true (by omega)
    clear hit hnn hca
    go_wp2_with fail
    go_ret
    exact ⟨rfl, k_w_w3⟩
  have hp' : decide ((1100 : Int) < (ns.length : Int)) = false := decide_eq_false (by omega)
  have KA3 := Lib.hid hca
  clear hit hnn hca
  have z_w_w3 := k_w_w3.size
  have k_w3 : Below w3.heap.size w3 w3 := Below.refl _ _
  go_wp2_with (first
    | (at_builtin; refine wpList_appI _ rfl (.tmp 30) (.tmp 31) 23 3 rfl .i64 8 Try.underlying23 info_int (by omega) w3.heap.size _ [] rfl A c ids (by rw [HNN.out]; rfl) (Own.empty w3 _ _) w3 ((Below.refl _ _).alloc (Nat.le_refl _) _) (by simp) (KA3.out.alloc _) (by rw [HNN.out]; simp; omega) ?_; intro vW w4 ho hgrow hbn hat hnil; clear hat hnil hgrow; rw [List.nil_append] at ho; obtain ⟨AW, cW, hv, hcv, _⟩ := ho.shape; subst hv; rw [HNN.out]; have OW := Lib.hid ho; clear ho; have hq0 := cell_below hbn h_t0 (obj_lt b_t.out); have hq1 := cell_below hbn h_t1 (obj_lt b_t.out)))
  have k_w_w4 : Below w.heap.size w w4 := k_w_w3.trans (hbn.mono k_w_w3.size)
  have k_w3_w4 : Below w3.heap.size w3 w4 := k_w3.trans (hbn.mono k_w3.size)
  clear k_w_w3
  clear k_w3
  have b2 := obj_below hbn b_t.out (obj_lt b_t.out)
  clear b_t h_t0 h_t1
  have h_t0 : w4.cell? ⟨w.heap.size, 0, none⟩ = some (.slice B ns.length d) := by simp [World.cell?, b2]
  have h_t1 : w4.cell? ⟨w.heap.size, 1, none⟩ = some (.int .i64 off) := by simp [World.cell?, b2]
  have b_t := Lib.hid b2
  clear b2
  clear hbn
  have z_w_w4 := k_w_w4.size
  have z_w3_w4 := k_w3_w4.size
  have k_w4 : Below w4.heap.size w4 w4 := Below.refl _ _
  clear hq0 hq1
  refine (HNN.out ▸ (Part_calls b dim.toNat ls A c ids B d ns off w4 (HIT.out.below k_w3_w4) HR.out (KA.out.below k_w_w4) (by rw [HNN.out]; omega) (KN.out.below k_w_w4) HN32.out)).mono ?_
  rintro e w5 ⟨v0, v1, he, h0, h1, hbn⟩
  subst he
  obtain ⟨L, hL⟩ : ∃ L, sideL ls ns off ids false = L := ⟨_, rfl⟩
  obtain ⟨Q, hQ⟩ : ∃ Q, sideL ls ns off ids true = Q := ⟨_, rfl⟩
  have hLl : L.length ≤ 1000000 := by rw [← hL]; exact Nat.le_trans (sideL_len _ _ _ _ _) (by rw [HNN.out]; omega)
  have hQl : Q.length ≤ 1000000 := by rw [← hQ]; exact Nat.le_trans (sideL_len _ _ _ _ _) (by rw [HNN.out]; omega)
  rw [hL] at h0
  rw [hQ] at h1
  obtain ⟨A0, c0, rfl, hc0, _⟩ := h0.shape
  obtain ⟨A1, c1, rfl, hc1, _⟩ := h1.shape
  have HL := Lib.hid hL
  have HQ := Lib.hid hQ
  have O0 := Lib.hid h0.rd.2
  have O1 := Lib.hid h1.rd.2
  clear hL hQ h0 h1
  have k_w_w5 : Below w.heap.size w w5 := k_w_w4.trans (hbn.mono k_w_w4.size)
  have k_w3_w5 : Below w3.heap.size w3 w5 := k_w3_w4.trans (hbn.mono k_w3_w4.size)
  have k_w4_w5 : Below w4.heap.size w4 w5 := k_w4.trans (hbn.mono k_w4.size)
  clear k_w_w4
  clear k_w3_w4
  clear k_w4
  have b2 := obj_below hbn b_t.out (obj_lt b_t.out)
  clear b_t h_t0 h_t1
  have h_t0 : w5.cell? ⟨w.heap.size, 0, none⟩ = some (.slice B ns.length d) := by simp [World.cell?, b2]
  have h_t1 : w5.cell? ⟨w.heap.size, 1, none⟩ = some (.int .i64 off) := by simp [World.cell?, b2]
  have b_t := Lib.hid b2
  clear b2
  clear hbn
  have z_w_w5 := k_w_w5.size
  have z_w3_w5 := k_w3_w5.size
  have z_w4_w5 := k_w4_w5.size
  have k_w5 : Below w5.heap.size w5 w5 := Below.refl _ _
  go_wp2_with fail
  refine (HNN.out ▸ (Halves_calls A c ids w5 (KA.out.below k_w_w5) (by rw [HNN.out]; exact hc) (by rw [HNN.out]; omega))).mono ?_
  rintro e w6 ⟨v2, v3, he, h0, h1, hbn⟩
  subst he
  obtain ⟨m, hm⟩ : ∃ m, halfN n = m := ⟨_, rfl⟩
  have hmn : m ≤ n := by rw [← hm]; unfold halfN; omega
  have hdv : ((n : Int)).tdiv 2 = ((n / 2 : Nat) : Int) := by rw [Int.tdiv_eq_ediv_of_nonneg (by omega)]; omega
  have hwm : IntKind.i64.wrap ((n : Int) - ((n / 2 : Nat) : Int)) = (m : Int) := by rw [i64_w, show (n : Int) - ((n / 2 : Nat) : Int) = (m : Int) by rw [← hm]; unfold halfN; omega]; exact wrap64_id _ (by omega)
  have hwm0 : IntKind.i64.wrap ((n / 2 : Nat) : Int) = ((n / 2 : Nat) : Int) := by rw [i64_w]; exact wrap64_id _ (by omega)
  have hwm2 : IntKind.i64.wrap ((n : Int) - (n : Int) / 2) = (m : Int) := by rw [i64_w, show (n : Int) - (n : Int) / 2 = (m : Int) by rw [← hm]; unfold halfN; omega]; exact wrap64_id _ (by omega)
  have hwm3 : IntKind.i64.wrap ((n : Int) / 2) = (n : Int) / 2 := by rw [i64_w]; exact wrap64_id _ (by omega)
  rw [hm] at h0 h1
  obtain ⟨A2, c2, rfl, hc2, _⟩ := h0.shape
  obtain ⟨A3, c3, rfl, hc3, _⟩ := h1.shape
  have hl2 : (ids.take m).length = m := by rw [List.length_take, HNN.out]; omega
  have hl3' : (ids.drop m).length = n - m := by rw [List.length_drop, HNN.out]
  have HT := Lib.hid hl2
  have HD := Lib.hid hl3'
  have O2 := Lib.hid h0.rd.2
  have O3 := Lib.hid h1.rd.2
  rw [hl2, hl3']
  have b0 : (0 : Int) ≤ (m : Int) := by omega
  have b1 : (m : Int) ≤ (n : Int) := by omega
  have b2 : (m : Int) ≤ (c : Int) := by omega
  rw [hl2] at hc2
  rw [hl3'] at hc3
  clear hm h0 h1 hl2 hl3' 
  have k_w_w6 : Below w.heap.size w w6 := k_w_w5.trans (hbn.mono k_w_w5.size)
  have k_w3_w6 : Below w3.heap.size w3 w6 := k_w3_w5.trans (hbn.mono k_w3_w5.size)
  have k_w4_w6 : Below w4.heap.size w4 w6 := k_w4_w5.trans (hbn.mono k_w4_w5.size)
  have k_w5_w6 : Below w5.heap.size w5 w6 := k_w5.trans (hbn.mono k_w5.size)
  clear k_w_w5
  clear k_w3_w5
  clear k_w4_w5
  clear k_w5
  have b2 := obj_below hbn b_t.out (obj_lt b_t.out)
  clear b_t h_t0 h_t1
  have h_t0 : w6.cell? ⟨w.heap.size, 0, none⟩ = some (.slice B ns.length d) := by simp [World.cell?, b2]
  have h_t1 : w6.cell? ⟨w.heap.size, 1, none⟩ = some (.int .i64 off) := by simp [World.cell?, b2]
  have b_t := Lib.hid b2
  clear b2
  clear hbn
  have z_w_w6 := k_w_w6.size
  have z_w3_w6 := k_w3_w6.size
  have z_w4_w6 := k_w4_w6.size
  have z_w5_w6 := k_w5_w6.size
  have k_w6 : Below w6.heap.size w6 w6 := Below.refl _ _
  go_wp2_with fail
  (with_reducible refine (HNN.out ▸ (rSide_calls LA lc ls A c ids B d ns off false _ (KL.out.below k_w_w6) HR.out (KA.out.below k_w_w6) (by rw [HNN.out]; omega) (KN.out.below k_w_w6) HN32.out)).mono ?_)
  rintro e w7 ⟨vS, he, hs, hbn⟩
  subst he
  rw [HL.out] at hs
  obtain ⟨AS0, cS0, rfl, hcS0, _⟩ := hs.shape
  have OS0 := Lib.hid hs.rd.2
  clear hs
  have k_w_w7 : Below w.heap.size w w7 := k_w_w6.trans (hbn.mono k_w_w6.size)
  have k_w3_w7 : Below w3.heap.size w3 w7 := k_w3_w6.trans (hbn.mono k_w3_w6.size)
  have k_w4_w7 : Below w4.heap.size w4 w7 := k_w4_w6.trans (hbn.mono k_w4_w6.size)
  have k_w5_w7 : Below w5.heap.size w5 w7 := k_w5_w6.trans (hbn.mono k_w5_w6.size)
  have k_w6_w7 : Below w6.heap.size w6 w7 := k_w6.trans (hbn.mono k_w6.size)
  clear k_w_w6
  clear k_w3_w6
  clear k_w4_w6
  clear k_w5_w6
  clear k_w6
  have b2 := obj_below hbn b_t.out (obj_lt b_t.out)
  clear b_t h_t0 h_t1
  have h_t0 : w7.cell? ⟨w.heap.size, 0, none⟩ = some (.slice B ns.length d) := by simp [World.cell?, b2]
  have h_t1 : w7.cell? ⟨w.heap.size, 1, none⟩ = some (.int .i64 off) := by simp [World.cell?, b2]
  have b_t := Lib.hid b2
  clear b2
  clear hbn
  have z_w_w7 := k_w_w7.size
  have z_w3_w7 := k_w3_w7.size
  have z_w4_w7 := k_w4_w7.size
  have z_w5_w7 := k_w5_w7.size
  have z_w6_w7 := k_w6_w7.size
  have k_w7 : Below w7.heap.size w7 w7 := Below.refl _ _
  go_wp2_with fail
  (with_reducible refine (SameI_calls A0 AS0 c0 cS0 L L _ (O0.out.below k_w5_w7) (OS0.out.below k_w7)).mono ?_)
  rintro e w8 ⟨he, q, hwq⟩
  (try rw [decide_eq_true rfl] at he)
  subst he
  have hbn : Below w7.heap.size w7 w8 := by rw [hwq]; exact below_drewN_self _ _
  clear hwq
  have k_w_w8 : Below w.heap.size w w8 := k_w_w7.trans (hbn.mono k_w_w7.size)
  have k_w3_w8 : Below w3.heap.size w3 w8 := k_w3_w7.trans (hbn.mono k_w3_w7.size)
  have k_w4_w8 : Below w4.heap.size w4 w8 := k_w4_w7.trans (hbn.mono k_w4_w7.size)
  have k_w5_w8 : Below w5.heap.size w5 w8 := k_w5_w7.trans (hbn.mono k_w5_w7.size)
  have k_w6_w8 : Below w6.heap.size w6 w8 := k_w6_w7.trans (hbn.mono k_w6_w7.size)
  have k_w7_w8 : Below w7.heap.size w7 w8 := k_w7.trans (hbn.mono k_w7.size)
  clear k_w_w7
  clear k_w3_w7
  clear k_w4_w7
  clear k_w5_w7
  clear k_w6_w7
  clear k_w7
  have b2 := obj_below hbn b_t.out (obj_lt b_t.out)
  clear b_t h_t0 h_t1
  have h_t0 : w8.cell? ⟨w.heap.size, 0, none⟩ = some (.slice B ns.length d) := by simp [World.cell?, b2]
  have h_t1 : w8.cell? ⟨w.heap.size, 1, none⟩ = some (.int .i64 off) := by simp [World.cell?, b2]
  have b_t := Lib.hid b2
  clear b2
  clear hbn
  go_wp2_with fail
  (with_reducible refine (HNN.out ▸ (rSide_calls LA lc ls A c ids B d ns off true _ (KL.out.below k_w_w8) HR.out (KA.out.below k_w_w8) (by rw [HNN.out]; omega) (KN.out.below k_w_w8) HN32.out)).mono ?_)
  rintro e w9 ⟨vS, he, hs, hbn⟩
  subst he
  rw [HQ.out] at hs
  obtain ⟨AS1, cS1, rfl, hcS1, _⟩ := hs.shape
  have OS1 := Lib.hid hs.rd.2
  clear hs
  have k_w_w9 : Below w.heap.size w w9 := k_w_w8.trans (hbn.mono k_w_w8.size)
  have k_w3_w9 : Below w3.heap.size w3 w9 := k_w3_w8.trans (hbn.mono k_w3_w8.size)
  have k_w4_w9 : Below w4.heap.size w4 w9 := k_w4_w8.trans (hbn.mono k_w4_w8.size)
  have k_w5_w9 : Below w5.heap.size w5 w9 := k_w5_w8.trans (hbn.mono k_w5_w8.size)
  have k_w6_w9 : Below w6.heap.size w6 w9 := k_w6_w8.trans (hbn.mono k_w6_w8.size)
  have k_w7_w9 : Below w7.heap.size w7 w9 := k_w7_w8.trans (hbn.mono k_w7_w8.size)
  clear k_w_w8
  clear k_w3_w8
  clear k_w4_w8
  clear k_w5_w8
  clear k_w6_w8
  clear k_w7_w8
  have b2 := obj_below hbn b_t.out (obj_lt b_t.out)
  clear b_t h_t0 h_t1
  have h_t0 : w9.cell? ⟨w.heap.size, 0, none⟩ = some (.slice B ns.length d) := by simp [World.cell?, b2]
  have h_t1 : w9.cell? ⟨w.heap.size, 1, none⟩ = some (.int .i64 off) := by simp [World.cell?, b2]
  have b_t := Lib.hid b2
  clear b2
  clear hbn
  have z_w_w9 := k_w_w9.size
  have z_w3_w9 := k_w3_w9.size
  have z_w4_w9 := k_w4_w9.size
  have z_w5_w9 := k_w5_w9.size
  have z_w6_w9 := k_w6_w9.size
  have z_w7_w9 := k_w7_w9.size
  have k_w9 : Below w9.heap.size w9 w9 := Below.refl _ _
  go_wp2_with fail
  (with_reducible refine (SameI_calls A1 AS1 c1 cS1 Q Q _ (O1.out.below k_w5_w9) (OS1.out.below k_w9)).mono ?_)
  rintro e w10 ⟨he, q, hwq⟩
  (try rw [decide_eq_true rfl] at he)
  subst he
  have hbn : Below w9.heap.size w9 w10 := by rw [hwq]; exact below_drewN_self _ _
  clear hwq
  have k_w_w10 : Below w.heap.size w w10 := k_w_w9.trans (hbn.mono k_w_w9.size)
  have k_w3_w10 : Below w3.heap.size w3 w10 := k_w3_w9.trans (hbn.mono k_w3_w9.size)
  have k_w4_w10 : Below w4.heap.size w4 w10 := k_w4_w9.trans (hbn.mono k_w4_w9.size)
  have k_w5_w10 : Below w5.heap.size w5 w10 := k_w5_w9.trans (hbn.mono k_w5_w9.size)
  have k_w6_w10 : Below w6.heap.size w6 w10 := k_w6_w9.trans (hbn.mono k_w6_w9.size)
  have k_w7_w10 : Below w7.heap.size w7 w10 := k_w7_w9.trans (hbn.mono k_w7_w9.size)
  have k_w9_w10 : Below w9.heap.size w9 w10 := k_w9.trans (hbn.mono k_w9.size)
  clear k_w_w9
  clear k_w3_w9
  clear k_w4_w9
  clear k_w5_w9
  clear k_w6_w9
  clear k_w7_w9
  clear k_w9
  have b2 := obj_below hbn b_t.out (obj_lt b_t.out)
  clear b_t h_t0 h_t1
  have h_t0 : w10.cell? ⟨w.heap.size, 0, none⟩ = some (.slice B ns.length d) := by simp [World.cell?, b2]
  have h_t1 : w10.cell? ⟨w.heap.size, 1, none⟩ = some (.int .i64 off) := by simp [World.cell?, b2]
  have b_t := Lib.hid b2
  clear b2
  clear hbn
  have hcut := Rd.cutR (m := m) (c := c) (KA.out.below k_w_w10) (by rw [HNN.out]; exact hmn) (by rw [HNN.out]; exact hc)
  have CT := Lib.hid hcut.1
  have CD := Lib.hid hcut.2
  clear hcut
  have z_w_w10 := k_w_w10.size
  have z_w3_w10 := k_w3_w10.size
  have z_w4_w10 := k_w4_w10.size
  have z_w5_w10 := k_w5_w10.size
  have z_w6_w10 := k_w6_w10.size
  have z_w7_w10 := k_w7_w10.size
  have z_w9_w10 := k_w9_w10.size
  have k_w10 : Below w10.heap.size w10 w10 := Below.refl _ _
  go_wp2_with fail
  (with_reducible refine (HT.out ▸ (SameI_calls A2 A c2 c (ids.take m) (ids.take m) _ (O2.out.below k_w6_w10) (CT.out.below k_w10))).mono ?_)
  rintro e w11 ⟨he, q, hwq⟩
  (try rw [decide_eq_true rfl] at he)
  subst he
  have hbn : Below w10.heap.size w10 w11 := by rw [hwq]; exact below_drewN_self _ _
  clear hwq
  have k_w_w11 : Below w.heap.size w w11 := k_w_w10.trans (hbn.mono k_w_w10.size)
  have k_w3_w11 : Below w3.heap.size w3 w11 := k_w3_w10.trans (hbn.mono k_w3_w10.size)
  have k_w4_w11 : Below w4.heap.size w4 w11 := k_w4_w10.trans (hbn.mono k_w4_w10.size)
  have k_w5_w11 : Below w5.heap.size w5 w11 := k_w5_w10.trans (hbn.mono k_w5_w10.size)
  have k_w6_w11 : Below w6.heap.size w6 w11 := k_w6_w10.trans (hbn.mono k_w6_w10.size)
  have k_w7_w11 : Below w7.heap.size w7 w11 := k_w7_w10.trans (hbn.mono k_w7_w10.size)
  have k_w9_w11 : Below w9.heap.size w9 w11 := k_w9_w10.trans (hbn.mono k_w9_w10.size)
  have k_w10_w11 : Below w10.heap.size w10 w11 := k_w10.trans (hbn.mono k_w10.size)
  clear k_w_w10
  clear k_w3_w10
  clear k_w4_w10
  clear k_w5_w10
  clear k_w6_w10
  clear k_w7_w10
  clear k_w9_w10
  clear k_w10
  have b2 := obj_below hbn b_t.out (obj_lt b_t.out)
  clear b_t h_t0 h_t1
  have h_t0 : w11.cell? ⟨w.heap.size, 0, none⟩ = some (.slice B ns.length d) := by simp [World.cell?, b2]
  have h_t1 : w11.cell? ⟨w.heap.size, 1, none⟩ = some (.int .i64 off) := by simp [World.cell?, b2]
  have b_t := Lib.hid b2
  clear b2
  clear hbn
  by_cases hcm : m = c
  · subst hcm
    have CD2 := Lib.hid (show Rd w10 .i64 A (ids.drop m) from by have h := CD.out; rwa [if_pos rfl] at h)
    have HD0 := Lib.hid (show (ids.drop m).length = 0 by rw [HD.out]; omega)
    go_wp2_with fail
    (with_reducible refine (HD0.out ▸ (SameI_calls A3 A c3 0 (ids.drop m) (ids.drop m) _ (O3.out.below k_w6_w11) (CD2.out.below k_w10_w11))).mono ?_)
    rintro e w12 ⟨he, q, hwq⟩
    (try rw [decide_eq_true rfl] at he)
    subst he
    have hbn : Below w11.heap.size w11 w12 := by rw [hwq]; exact below_drewN_self _ _
    clear hwq
    have k_w_w12 : Below w.heap.size w w12 := k_w_w11.trans (hbn.mono k_w_w11.size)
    have k_w3_w12 : Below w3.heap.size w3 w12 := k_w3_w11.trans (hbn.mono k_w3_w11.size)
    have k_w4_w12 : Below w4.heap.size w4 w12 := k_w4_w11.trans (hbn.mono k_w4_w11.size)
    have k_w5_w12 : Below w5.heap.size w5 w12 := k_w5_w11.trans (hbn.mono k_w5_w11.size)
    have k_w6_w12 : Below w6.heap.size w6 w12 := k_w6_w11.trans (hbn.mono k_w6_w11.size)
    have k_w7_w12 : Below w7.heap.size w7 w12 := k_w7_w11.trans (hbn.mono k_w7_w11.size)
    have k_w9_w12 : Below w9.heap.size w9 w12 := k_w9_w11.trans (hbn.mono k_w9_w11.size)
    have k_w10_w12 : Below w10.heap.size w10 w12 := k_w10_w11.trans (hbn.mono k_w10_w11.size)
    clear k_w_w11
    clear k_w3_w11
    clear k_w4_w11
    clear k_w5_w11
    clear k_w6_w11
    clear k_w7_w11
    clear k_w9_w11
    clear k_w10_w11
    have b2 := obj_below hbn b_t.out (obj_lt b_t.out)
    clear b_t h_t0 h_t1
    have h_t0 : w12.cell? ⟨w.heap.size, 0, none⟩ = some (.slice B ns.length d) := by simp [World.cell?, b2]
    have h_t1 : w12.cell? ⟨w.heap.size, 1, none⟩ = some (.int .i64 off) := by simp [World.cell?, b2]
    have b_t := Lib.hid b2
    clear b2
    clear hbn
    obtain ⟨gd, hgd⟩ : ∃ gd, goodB L.length Q.length = gd := ⟨_, rfl⟩
    have HGD := Lib.hid hgd
    have hgg : (gd == gd) = true := by simp
    clear hgd
    go_wp2_with fail
    refine (Good_calls A0 A1 L.length Q.length c0 c1 _ hLl hQl).mono ?_
    rintro e _ ⟨he, rfl⟩
    rw [HGD.out] at he
    subst he
    go_wp2_with fail
    refine (rGood_calls L.length Q.length _ hLl hQl).mono ?_
    rintro e _ ⟨he, rfl⟩
    rw [HGD.out] at he
    subst he
    go_wp2_with fail
    (with_reducible refine (HNN.out ▸ (SameI_calls A AW m cW ids ids _ (KA.out.below k_w_w12) (OW.out.rd.2.below k_w4_w12))).mono ?_)
    rintro e w13 ⟨he, q, hwq⟩
    (try rw [decide_eq_true rfl] at he)
    subst he
    have hbn : Below w12.heap.size w12 w13 := by rw [hwq]; exact below_drewN_self _ _
    clear hwq
    have k_w_w13 : Below w.heap.size w w13 := k_w_w12.trans (hbn.mono k_w_w12.size)
    have k_w3_w13 : Below w3.heap.size w3 w13 := k_w3_w12.trans (hbn.mono k_w3_w12.size)
    have k_w4_w13 : Below w4.heap.size w4 w13 := k_w4_w12.trans (hbn.mono k_w4_w12.size)
    have k_w5_w13 : Below w5.heap.size w5 w13 := k_w5_w12.trans (hbn.mono k_w5_w12.size)
    have k_w6_w13 : Below w6.heap.size w6 w13 := k_w6_w12.trans (hbn.mono k_w6_w12.size)
    have k_w7_w13 : Below w7.heap.size w7 w13 := k_w7_w12.trans (hbn.mono k_w7_w12.size)
    have k_w9_w13 : Below w9.heap.size w9 w13 := k_w9_w12.trans (hbn.mono k_w9_w12.size)
    have k_w10_w13 : Below w10.heap.size w10 w13 := k_w10_w12.trans (hbn.mono k_w10_w12.size)
    clear k_w_w12
    clear k_w3_w12
    clear k_w4_w12
    clear k_w5_w12
    clear k_w6_w12
    clear k_w7_w12
    clear k_w9_w12
    clear k_w10_w12
    have b2 := obj_below hbn b_t.out (obj_lt b_t.out)
    clear b_t h_t0 h_t1
    have h_t0 : w13.cell? ⟨w.heap.size, 0, none⟩ = some (.slice B ns.length d) := by simp [World.cell?, b2]
    have h_t1 : w13.cell? ⟨w.heap.size, 1, none⟩ = some (.int .i64 off) := by simp [World.cell?, b2]
    have b_t := Lib.hid b2
    clear b2
    clear hbn
    go_wp2_with fail
    go_ret
    exact ⟨by simp, k_w_w13⟩
  · have hcm2 : ¬ c = m := fun h => hcm h.symm
    have CD2 := Lib.hid (show Rd w10 .i64 (Option.map (fun x => x.add m) A) (ids.drop m) from by have h := CD.out; rwa [if_neg hcm2] at h)
    go_wp2_with fail
    (with_reducible refine (HD.out ▸ (SameI_calls A3 _ c3 (c - m) (ids.drop m) (ids.drop m) _ (O3.out.below k_w6_w11) (CD2.out.below k_w10_w11))).mono ?_)
    rintro e w12 ⟨he, q, hwq⟩
    (try rw [decide_eq_true rfl] at he)
    subst he
    have hbn : Below w11.heap.size w11 w12 := by rw [hwq]; exact below_drewN_self _ _
    clear hwq
    have k_w_w12 : Below w.heap.size w w12 := k_w_w11.trans (hbn.mono k_w_w11.size)
    have k_w3_w12 : Below w3.heap.size w3 w12 := k_w3_w11.trans (hbn.mono k_w3_w11.size)
    have k_w4_w12 : Below w4.heap.size w4 w12 := k_w4_w11.trans (hbn.mono k_w4_w11.size)
    have k_w5_w12 : Below w5.heap.size w5 w12 := k_w5_w11.trans (hbn.mono k_w5_w11.size)
    have k_w6_w12 : Below w6.heap.size w6 w12 := k_w6_w11.trans (hbn.mono k_w6_w11.size)
    have k_w7_w12 : Below w7.heap.size w7 w12 := k_w7_w11.trans (hbn.mono k_w7_w11.size)
    have k_w9_w12 : Below w9.heap.size w9 w12 := k_w9_w11.trans (hbn.mono k_w9_w11.size)
    have k_w10_w12 : Below w10.heap.size w10 w12 := k_w10_w11.trans (hbn.mono k_w10_w11.size)
    clear k_w_w11
    clear k_w3_w11
    clear k_w4_w11
    clear k_w5_w11
    clear k_w6_w11
    clear k_w7_w11
    clear k_w9_w11
    clear k_w10_w11
    have b2 := obj_below hbn b_t.out (obj_lt b_t.out)
    clear b_t h_t0 h_t1
    have h_t0 : w12.cell? ⟨w.heap.size, 0, none⟩ = some (.slice B ns.length d) := by simp [World.cell?, b2]
    have h_t1 : w12.cell? ⟨w.heap.size, 1, none⟩ = some (.int .i64 off) := by simp [World.cell?, b2]
    have b_t := Lib.hid b2
    clear b2
    clear hbn
    obtain ⟨gd, hgd⟩ : ∃ gd, goodB L.length Q.length = gd := ⟨_, rfl⟩
    have HGD := Lib.hid hgd
    have hgg : (gd == gd) = true := by simp
    clear hgd
    go_wp2_with fail
    refine (Good_calls A0 A1 L.length Q.length c0 c1 _ hLl hQl).mono ?_
    rintro e _ ⟨he, rfl⟩
    rw [HGD.out] at he
    subst he
    go_wp2_with fail
    refine (rGood_calls L.length Q.length _ hLl hQl).mono ?_
    rintro e _ ⟨he, rfl⟩
    rw [HGD.out] at he
    subst he
    go_wp2_with fail
    (with_reducible refine (HNN.out ▸ (SameI_calls A AW c cW ids ids _ (KA.out.below k_w_w12) (OW.out.rd.2.below k_w4_w12))).mono ?_)
    rintro e w13 ⟨he, q, hwq⟩
    (try rw [decide_eq_true rfl] at he)
    subst he
    have hbn : Below w12.heap.size w12 w13 := by rw [hwq]; exact below_drewN_self _ _
    clear hwq
    have k_w_w13 : Below w.heap.size w w13 := k_w_w12.trans (hbn.mono k_w_w12.size)
    have k_w3_w13 : Below w3.heap.size w3 w13 := k_w3_w12.trans (hbn.mono k_w3_w12.size)
    have k_w4_w13 : Below w4.heap.size w4 w13 := k_w4_w12.trans (hbn.mono k_w4_w12.size)
    have k_w5_w13 : Below w5.heap.size w5 w13 := k_w5_w12.trans (hbn.mono k_w5_w12.size)
    have k_w6_w13 : Below w6.heap.size w6 w13 := k_w6_w12.trans (hbn.mono k_w6_w12.size)
    have k_w7_w13 : Below w7.heap.size w7 w13 := k_w7_w12.trans (hbn.mono k_w7_w12.size)
    have k_w9_w13 : Below w9.heap.size w9 w13 := k_w9_w12.trans (hbn.mono k_w9_w12.size)
    have k_w10_w13 : Below w10.heap.size w10 w13 := k_w10_w12.trans (hbn.mono k_w10_w12.size)
    clear k_w_w12
    clear k_w3_w12
    clear k_w4_w12
    clear k_w5_w12
    clear k_w6_w12
    clear k_w7_w12
    clear k_w9_w12
    clear k_w10_w12
    have b2 := obj_below hbn b_t.out (obj_lt b_t.out)
    clear b_t h_t0 h_t1
    have h_t0 : w13.cell? ⟨w.heap.size, 0, none⟩ = some (.slice B ns.length d) := by simp [World.cell?, b2]
    have h_t1 : w13.cell? ⟨w.heap.size, 1, none⟩ = some (.int .i64 off) := by simp [World.cell?, b2]
    have b_t := Lib.hid b2
    clear b2
    clear hbn
    go_wp2_with fail
    go_ret
    exact ⟨by simp, k_w_w13⟩
end Go.Proofs.Ytohmcpblagcfeaa
