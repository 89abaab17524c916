
/-
  The statement SplitStays: the walk. Conditions: the numbers lie in their kinds' ranges.
-/
import Derived.Test.YtohmcpblagcfeaaLSplitSame
import Derived.Test.YtohmcpblagcfeaaLSplitChooses
import Derived.Test.YtohmcpblagcfeaaStayL
namespace Go.Proofs.Ytohmcpblagcfeaa
open Go.RowKit
set_option linter.unusedVariables false
set_option maxRecDepth 100000
set_option linter.unusedSimpArgs false

/-- A row of rows of the call's own: each row reads as a list of ints and lies apart from the row of rows. -/
def OwnRows (w : World) (base : Nat) (v : Value) (ls : List (List Int)) : Prop :=
  ∃ cs, w.ownsRow base 24 1 v ls.length cs ∧ ∀ j, j < ls.length → ∃ B c, cs[j]? = some (.slice B (ls.getD j []).length c) ∧ (ls.getD j []).length ≤ c ∧ Rd w .i32 B (ls.getD j []) ∧ ∀ ad, 0 < (ls.getD j []).length → B = some ad → v.ownBlock ≠ some ad.block
theorem OwnRows.nil (w : World) (base : Nat) : OwnRows w base (.slice none 0 0) [] := ⟨[], World.ownsRow_nil _ _ _ _, fun j hj => by simp at hj⟩
theorem OwnRows.below {w w1 : World} {base : Nat} {v : Value} {ls : List (List Int)} (h : OwnRows w base v ls) (hb : Below w.heap.size w w1) : OwnRows w1 base v ls := by
  obtain ⟨cs, h1, h2⟩ := h
  refine ⟨cs, row_only h1 (Only.of_below (S := fun _ => False) hb) (fun _ _ h => h), fun j hj => ?_⟩
  obtain ⟨B, c, e1, e2, e3, e4⟩ := h2 j hj
  exact ⟨B, c, e1, e2, e3.below hb, e4⟩
theorem OwnRows.rows {w : World} {base : Nat} {A : Option Addr} {n c : Nat} {ls : List (List Int)} (h : OwnRows w base (.slice A n c) ls) (hn : ls.length ≤ 1000000) : n = ls.length ∧ Rows w .i32 A ls := by
  obtain ⟨cs, h1, h2⟩ := h
  obtain ⟨A', c', e, _⟩ := own_shape h1
  injection e with _ e2 _
  subst e2
  refine ⟨rfl, by omega, fun j hj => ?_⟩
  obtain ⟨B, c, e1, e2, e3, _⟩ := h2 j hj
  obtain ⟨g, e4, _, hcell, _⟩ := own_cell h1 j hj
  exact ⟨_, B, c, e4, by rw [add_plain, hcell]; exact e1, e2, e3⟩
theorem OwnRows.snoc {w w1 : World} {base n c d : Nat} {v v1 B0 : Value} {B : Option Addr} {ls : List (List Int)} {xs : List Int} {cs : List Value} (h : OwnRows w base v ls)
    (hcs : ∀ j, j < ls.length → ∃ B c, cs[j]? = some (.slice B (ls.getD j []).length c) ∧ (ls.getD j []).length ≤ c ∧ Rd w .i32 B (ls.getD j []) ∧ ∀ ad, 0 < (ls.getD j []).length → B = some ad → v.ownBlock ≠ some ad.block)
    (hl : cs.length = ls.length) (ho : w1.ownsRow base 24 1 v1 (ls.length + 1) (cs ++ [.slice B xs.length c])) (hg : Only (OwnB v) w w1) (hat : v1.ownBlock = v.ownBlock ∨ v1.ownBlock = some w.heap.size)
    (hx : Rd w .i32 B xs) (hc : xs.length ≤ c) (hap : ∀ ad, 0 < xs.length → B = some ad → v.ownBlock ≠ some ad.block) : OwnRows w1 base v1 (ls ++ [xs]) := by
  have key : ∀ (B : Option Addr) (ys : List Int), Rd w .i32 B ys → (∀ ad, 0 < ys.length → B = some ad → v.ownBlock ≠ some ad.block) → Rd w1 .i32 B ys ∧ ∀ ad, 0 < ys.length → B = some ad → v1.ownBlock ≠ some ad.block := fun B ys hr ha =>
    ⟨hr.onlyB hg fun ad h1 e h2 => ha ad h1 e h2, fun ad h1 e h2 => by
      rcases hat with hat | hat
      · rw [hat] at h2; exact ha ad h1 e h2
      · rw [hat] at h2; injection h2 with h2; have := Rd.blk_lt hr ad h1 e; omega⟩
  refine ⟨cs ++ [.slice B xs.length c], by rw [List.length_append]; exact ho, fun j hj => ?_⟩
  rw [List.length_append, List.length_singleton] at hj
  rcases Nat.lt_or_ge j ls.length with hj' | hj'
  · obtain ⟨B', c', e1, e2, e3, e4⟩ := hcs j hj'
    have e5 : (ls ++ [xs]).getD j [] = ls.getD j [] := by simp [List.getD, List.getElem?_append_left hj']
    rw [e5]
    obtain ⟨k1, k2⟩ := key B' _ e3 e4
    exact ⟨B', c', by rw [List.getElem?_append_left (by omega)]; exact e1, e2, k1, k2⟩
  · obtain rfl : j = ls.length := by omega
    have e5 : (ls ++ [xs]).getD ls.length [] = xs := by simp [List.getD]
    rw [e5]
    obtain ⟨k1, k2⟩ := key B _ hx hap
    exact ⟨B, c, by rw [List.getElem?_append_right (by omega), hl, Nat.sub_self]; rfl, hc, k1, k2⟩
theorem chkL_at {dim : Int} {ls : List (List Int)} (h : chkL dim ls = 0) : ∀ j, j < ls.length → checkV (ls.getD j []) dim = 0 := by
  induction ls with
  | nil => intro j hj; simp at hj
  | cons x xs ih =>
    unfold chkL at h
    split at h
    · contradiction
    · rename_i h0
      intro j hj
      cases j with
      | zero => simpa [List.getD] using h0
      | succ j => simpa [List.getD] using ih h j (by simpa using hj)
theorem tk_snoc {α : Type} (d : α) (l : List α) (i : Nat) (h : i < l.length) : l.take (i + 1) = l.take i ++ [l.getD i d] := by
  rw [List.take_succ_eq_append_getElem h]; simp [List.getD, h]
theorem shL_take (b : Int) (r : List Int) (k : Nat) (h : k < r.length) : shL b (r.take (k + 1)) = shL b (r.take k) ++ [r.getD k 0 + b] := by
  rw [tk_snoc (0 : Int) r k h]; simp [shL]
set_option maxHeartbeats 6400000 in
set_option maxRecDepth 100000 in
theorem SplitStays_law (dim : Int) (LA : Option Addr) (lc : Nat) (ls : List (List Int)) (A : Option Addr) (c : Nat) (ids : List Int) (st by_ : Int) (w : World) (hd : (Lit.int .i64 dim).wf = true) (hlc : ls.length ≤ lc) (hls : Rows w .i32 LA ls) (hlw : ∀ xs ∈ ls, ∀ n ∈ xs, (Lit.int .i32 n).wf = true)
    (hc : ids.length ≤ c) (ha : Rd w .i64 A ids) (hu : ∀ n ∈ ids, (Lit.int .i64 n).wf = true) (na : A = none → ids = [] ∧ c = 0) (la : ids.length * 8 ≤ 140737488351232) (hst : (Lit.int .u64 st).wf = true) (hby : (Lit.int .i32 by_).wf = true) :
    Calls Try.prog 6 #[.int .i64 dim, .slice LA ls.length lc, .slice A ids.length c, .int .u64 st, .int .i32 by_] w fun e w' => e = .returned (.bool true) ∧ Below w.heap.size w w' := by
  have HR := Lib.hid (show ∀ r ∈ ls, R32 r from fun r hr => r32_of_wf (hlw r hr))
  have KL := Lib.hid hls
  have KA := Lib.hid ha
  have hnl := ha.1
  clear hls ha hlw hu na la hst hby hd
  have k_w : Below w.heap.size w w := Below.refl _ _
  go_enter Try.func6, Try.ntmps6
  go_wp2_with fail
  refine (awake12_calls _  ).mono ?_
  rintro e w1 ⟨he, hbn⟩
  subst he
  have k_w_w1 : Below w.heap.size w w1 := k_w.trans (hbn.mono k_w.size)
  clear k_w
  clear hbn
  go_wp2_with fail
  refine (some12_calls dim LA lc ls A c ids.length _ (KL.out.below k_w_w1) hnl).mono ?_
  rintro e w2 ⟨v, he, hbn, hv⟩
  subst he
  have HV := Lib.hid hv
  clear hv
  have k_w_w2 : Below w.heap.size w w2 := k_w_w1.trans (hbn.mono k_w_w1.size)
  clear k_w_w1
  clear hbn
  rcases HV.out with rfl | ⟨b, rfl, hwb, hit, hchk, hl3, hn2⟩
  · go_wp2_with fail
    go_ret
    exact ⟨rfl, k_w_w2⟩
  clear HV
  have hdim := chk_dim hchk
  obtain ⟨D, rfl⟩ : ∃ D : Nat, dim = (D : Int) := ⟨dim.toNat, by omega⟩
  rw [Int.toNat_natCast] at hit
  obtain ⟨AI, cI, hitv⟩ := hit.v
  have HIT := Lib.hid hitv
  have HCHK := Lib.hid hchk
  obtain ⟨n, hnn⟩ : ∃ n, ids.length = n := ⟨_, rfl⟩
  obtain ⟨q, hqq⟩ : ∃ q, ls.length = q := ⟨_, rfl⟩
  have HNN := Lib.hid hnn
  have HQQ := Lib.hid hqq
  have hd2 : D ≤ 1024 := by omega
  rw [hnn] at hc hn2 hnl ⊢
  rw [hqq] at hlc hl3 ⊢
  clear hit hnn hitv hchk hqq
  by_cases hp : by_ < -1000
  · have hp' : decide (by_ < -1000) = true := decide_eq_true (by omega)
    go_wp2_with fail
    go_ret
    exact ⟨rfl, k_w_w2⟩
  have hp' : decide (by_ < -1000) = false := decide_eq_false (by omega)
  by_cases hq : 1000 < by_
  · have hq' : decide (1000 < by_) = true := decide_eq_true (by omega)
    go_wp2_with fail
    go_ret
    exact ⟨rfl, k_w_w2⟩
  have hq' : decide (1000 < by_) = false := decide_eq_false (by omega)
  have hz2 := k_w_w2.size
  go_wp2_with fail
  go_loopg [12] n (fun kq v12 w' => kq ≤ n ∧ v12 = .int .i64 ((n - kq : Nat)) ∧ Below w2.heap.size w2 w' ∧ ∀ j, j < n - kq → 0 ≤ ids.getD j 0 ∧ ids.getD j 0 < q)
  case atStart => exact ⟨Nat.le_refl _, by simp, Below.refl _ _, fun j hj => by omega⟩
  case round =>
    obtain ⟨hk, rfl, HB, HJ⟩ := hrel
    have HBH := Lib.hid HB
    have HJH := Lib.hid HJ
    have hwz := HB.size
    have kw : Below w.heap.size w wr := k_w_w2.trans (HB.mono hz2)
    have KW := Lib.hid kw
    clear HB HJ kw
    cases gk with
    | zero =>
      simp only [Nat.sub_zero] at HJH ⊢
      rename World => w3
      have HW3 := Lib.hid KW.out
      have HW23 := Lib.hid HBH.out
      have HV := Lib.hid (show ∀ j, j < q → (ls.getD j []).length = D ∧ B20 (ls.getD j []) from fun j hj => by
        have hh := HCHK.out
        unfold chkV at hh
        rw [if_neg (by omega)] at hh
        obtain ⟨_, _, h3, h4⟩ := checkV_zero (chkL_at hh j (by rw [HQQ.out]; exact hj))
        exact ⟨by omega, h4⟩)
      have HALL := Lib.hid HJH.out
      have hz03 := HW3.out.size
      have hz23 := HW23.out.size
      clear KW HBH HJH
      go_wp2_with fail
      go_loopg [13, 14, 15, 16] q (fun kq v13 v14 v15 v16 w' => kq ≤ q ∧ v14 = .int .i64 ((q - kq : Nat)) ∧ OwnRows w' w3.heap.size v13 ((ls.take (q - kq)).map (shL by_)) ∧ Below w3.heap.size w3 w')
      case atStart => exact ⟨Nat.le_refl _, by simp, by rw [Nat.sub_self]; exact OwnRows.nil _ _, Below.refl _ _⟩
      case round =>
        obtain ⟨hk, rfl, HX0, HB0⟩ := hrel
        rename World => wo
        have HX := Lib.hid HX0
        have HB := Lib.hid HB0
        have hzo := HB0.size
        clear HX0 HB0
        cases gk with
        | zero =>
          simp only [Nat.sub_zero] at HX ⊢
          have hM : (ls.take q).map (shL by_) = ls.map (shL by_) := by rw [← HQQ.out, List.take_length]
          have hml : (ls.map (shL by_)).length = q := by rw [List.length_map, HQQ.out]
          rw [hM] at HX
          have HPL := Lib.hid (show ∀ s, (choose (ls.map (shL by_)) D ids s 0).left = (choose ls D ids s 0).left ∧ (choose (ls.map (shL by_)) D ids s 0).right = (choose ls D ids s 0).right ∧ (choose (ls.map (shL by_)) D ids s 0).tries = (choose ls D ids s 0).tries from fun s => choose_sh by_ s 0 HIT.out.2.2.1 (fun id hid => by
            obtain ⟨j, hj, rfl⟩ := List.mem_iff_getElem.1 hid
            have h := HALL.out j (by rw [← HNN.out]; exact hj)
            simp [List.getD, hj] at h
            rw [HQQ.out]; exact h))
          obtain ⟨M, hMe⟩ : ∃ M, ls.map (shL by_) = M := ⟨_, rfl⟩
          rw [hMe] at HX hml HPL
          clear hM hMe
          obtain ⟨cs0, hcs0, _⟩ := HX.out
          obtain ⟨MA, mc, rfl, hmc⟩ := own_shape hcs0
          have HMR := Lib.hid (HX.out.rows (by omega)).2
          rw [hml] at hmc ⊢
          have HML := Lib.hid hml
          have KWO := Lib.hid (HW3.out.trans (HB.out.mono hz03))
          have HW2O := Lib.hid (HW23.out.trans (HB.out.mono hz23))
          clear hcs0 hml HX
          go_wp2_with fail
          refine (HML.out ▸ (some12_calls (D : Int) MA mc M A c n _ HMR.out (by omega))).mono ?_
          rintro e w5 ⟨v, he, hbn, hv⟩
          subst he
          have HV5 := Lib.hid hv
          have HW5 := Lib.hid (KWO.out.trans (hbn.mono KWO.out.size))
          have HW25 := Lib.hid (HW2O.out.trans (hbn.mono HW2O.out.size))
          clear hv hbn
          rcases HV5.out with rfl | ⟨b2, rfl, hwb2, hit2, hchk2, hl32, hn22⟩
          · go_wp2_with fail
            go_ret
            exact ⟨rfl, HW5.out⟩
          have HRM := Lib.hid (show ∀ r ∈ M, R32 r from fun r hr => by
            obtain ⟨j, hj, rfl⟩ := List.mem_iff_getElem.1 hr
            have hh := hchk2
            unfold chkV at hh
            rw [if_neg (by omega)] at hh
            have := (checkV_zero (chkL_at hh j hj)).2.2.2
            simp [List.getD, hj] at this
            intro x hx
            have := this x hx
            omega)
          rw [Int.toNat_natCast] at hit2
          obtain ⟨AI2, cI2, hitv2⟩ := hit2.v
          have HIT2 := Lib.hid hitv2
          have HIT5 := Lib.hid (HIT.out.only (S := fun _ => False) (Only.of_below HW25.out) fun _ _ h => h)
          have KA5 := Lib.hid (KA.out.below HW5.out)
          have hz05 := HW5.out.size
          have hz25 := HW25.out.size
          clear hit2 hitv2 hchk2 hl32 hn22 HV5 HALL HV HMR KL HIT HCHK
          go_wp2_with fail
          refine (Mix_calls st w5).mono ?_
          rintro e w6 ⟨v6, he, hs6, hb6, T6, p6, rfl⟩
          subst he
          have hz56 := hb6.size
          have HS6 := Lib.hid hs6
          have HB6 := Lib.hid hb6
          clear hs6 hb6
          have HIT6 := Lib.hid (HIT5.out.only (S := fun _ => False) (Only.of_below HB6.out) fun _ _ h => h)
          have KA6 := Lib.hid (KA5.out.below HB6.out)
          go_wp2_with fail
          refine (HNN.out ▸ (Choose_calls b D ls AI cI A c ids w5.heap.size w6.heap.size (.iface T6 p6) _ 0 w6 HIT6.out HR.out KA6.out (by rw [HNN.out]; exact hc) (by rw [HNN.out]; omega) (At.of_src HS6.out) (by omega) (fun q hq h => by have := (HIT5.out.blk q hq).2; have := h.1; omega) (fun ad h1 e h => by have := Rd.blk_lt KA5.out ad h1 e; have := h.1; omega) (Nat.le_refl _))).mono ?_
          rintro e w7 ⟨vn, vl, vr, he, hn1, hl1, hr1, _, hon⟩
          have HPL2 := Lib.hid (HPL.out (fun i => mixAt st (i + 1)))
          obtain ⟨R, hR⟩ : ∃ R, choose ls D ids (fun i => mixAt st (i + 1)) 0 = R := ⟨_, rfl⟩
          rw [hR] at he hn1 hl1 hr1 HPL2
          subst he
          clear hR
          have HB67 := Lib.hid (show Below w5.heap.size w5 w7 from HB6.out.trans (hon.below HB6.out.size fun k hk h => by have := h.1; omega))
          have hz57 := HB67.out.size
          have HIT27 := Lib.hid (HIT2.out.only (S := fun _ => False) (Only.of_below HB67.out) fun _ _ h => h)
          have KA7 := Lib.hid (KA5.out.below HB67.out)
          obtain ⟨An, cn, rfl, hcn, hnr⟩ := hn1.shape
          obtain ⟨Al, cl, rfl, hcl, hlr⟩ := hl1.shape
          obtain ⟨Ar, cr, rfl, hcr, hrr⟩ := hr1.shape
          have HLR := Lib.hid hlr
          have HRR := Lib.hid hrr
          clear hn1 hl1 hr1 hon hnr hlr hrr hcn hcl hcr HIT6 KA6 HS6
          go_wp2_with fail
          refine (Mix_calls st w7).mono ?_
          rintro e w8 ⟨v8, he, hs8, hb8, T8, p8, rfl⟩
          subst he
          have hz78 := hb8.size
          have HS8 := Lib.hid hs8
          have HB8 := Lib.hid hb8
          clear hs8 hb8
          have HIT28 := Lib.hid (HIT27.out.only (S := fun _ => False) (Only.of_below HB8.out) fun _ _ h => h)
          have KA8 := Lib.hid (KA7.out.below HB8.out)
          go_wp2_with fail
          refine (HNN.out ▸ (Choose_calls b2 D M AI2 cI2 A c ids w7.heap.size w8.heap.size (.iface T8 p8) _ 0 w8 HIT28.out HRM.out KA8.out (by rw [HNN.out]; exact hc) (by rw [HNN.out]; omega) (At.of_src HS8.out) (by omega) (fun q hq h => by have := (HIT27.out.blk q hq).2; have := h.1; omega) (fun ad h1 e h => by have := Rd.blk_lt KA7.out ad h1 e; have := h.1; omega) (Nat.le_refl _))).mono ?_
          rintro e w9 ⟨vn, vl, vr, he, hn1, hl1, hr1, _, hon⟩
          obtain ⟨R2, hR2⟩ : ∃ R2, choose M D ids (fun i => mixAt st (i + 1)) 0 = R2 := ⟨_, rfl⟩
          rw [hR2] at he hn1 hl1 hr1 HPL2
          rw [HPL2.out.1] at hl1
          rw [HPL2.out.2.1] at hr1
          rw [HPL2.out.2.2] at he
          subst he
          clear hR2
          have HB79 := Lib.hid (show Below w7.heap.size w7 w9 from HB8.out.trans (hon.below HB8.out.size fun k hk h => by have := h.1; omega))
          have hz79 := HB79.out.size
          obtain ⟨An2, cn2, rfl, _, _⟩ := hn1.shape
          obtain ⟨Al2, cl2, rfl, _, hlr2⟩ := hl1.shape
          obtain ⟨Ar2, cr2, rfl, _, hrr2⟩ := hr1.shape
          have L9 := Lib.hid (HLR.out.below HB79.out)
          have R9 := Lib.hid (HRR.out.below HB79.out)
          have L29 := Lib.hid hlr2
          have R29 := Lib.hid hrr2
          have HW9 := Lib.hid (HW5.out.trans ((HB67.out.trans (HB79.out.mono hz57)).mono hz05))
          obtain ⟨nn, hnn⟩ : ∃ x, R.ns.length = x := ⟨_, rfl⟩
          obtain ⟨nn2, hnn2⟩ : ∃ x, R2.ns.length = x := ⟨_, rfl⟩
          obtain ⟨oo, hoo⟩ : ∃ x, R.off = x := ⟨_, rfl⟩
          obtain ⟨oo2, hoo2⟩ : ∃ x, R2.off = x := ⟨_, rfl⟩
          obtain ⟨nl, hnl2⟩ : ∃ x, R.left.length = x := ⟨_, rfl⟩
          obtain ⟨nr, hnr⟩ : ∃ x, R.right.length = x := ⟨_, rfl⟩
          obtain ⟨tt, htt⟩ : ∃ x, R.tries = x := ⟨_, rfl⟩
          have E2 := Lib.hid hnl2
          have E3 := Lib.hid hnr
          rw [hnn, hnn2, hoo, hoo2, hnl2, hnr, htt]
          clear hn1 hl1 hr1 hon hlr2 hrr2 hnn hnn2 hoo hoo2 hnl2 hnr htt HPL HPL2 HIT28 KA8 HS8 HIT27 KA7 HIT5 KA5 HIT2
          go_wp2_with fail
          obtain ⟨w10, hw10⟩ : ∃ W, (w9.alloc (.cells #[.slice An nn cn, .int .i64 oo, .slice Al nl cl, .slice Ar nr cr, .int .i64 tt] 42)).alloc (.cells #[.slice An2 nn2 cn2, .int .i64 oo2, .slice Al2 nl cl2, .slice Ar2 nr cr2, .int .i64 tt] 42) = W := ⟨_, rfl⟩
          rw [hw10]
          have hb10 : Below w9.heap.size w9 w10 := by rw [← hw10]; exact below_alloc1 (below_alloc1 (Below.refl _ _) _) _
          have ba10 : w10.heap[w9.heap.size]? = some (.cells #[.slice An nn cn, .int .i64 oo, .slice Al nl cl, .slice Ar nr cr, .int .i64 tt] 42 (0, 0)) := by
            rw [← hw10]; exact obj_below ((Below.refl _ _).alloc (Nat.le_refl _) _) (heap_alloc_new w9 _) (obj_lt (heap_alloc_new w9 _))
          have bb10 : w10.heap[w9.heap.size + 1]? = some (.cells #[.slice An2 nn2 cn2, .int .i64 oo2, .slice Al2 nl cl2, .slice Ar2 nr cr2, .int .i64 tt] 42 (0, 0)) := by
            rw [← hw10]; have h := heap_alloc_new (w9.alloc (.cells #[.slice An nn cn, .int .i64 oo, .slice Al nl cl, .slice Ar nr cr, .int .i64 tt] 42)) (.cells #[.slice An2 nn2 cn2, .int .i64 oo2, .slice Al2 nl cl2, .slice Ar2 nr cr2, .int .i64 tt] 42); rwa [World.size_alloc] at h
          have L10 := Lib.hid (L9.out.below hb10)
          have R10 := Lib.hid (R9.out.below hb10)
          have L210 := Lib.hid (L29.out.below hb10)
          have R210 := Lib.hid (R29.out.below hb10)
          have HW10 := Lib.hid (HW9.out.trans (hb10.mono HW9.out.size))
          clear hw10 hb10
          refine (E2.out ▸ SameI_calls Al Al2 cl cl2 R.left R.left w10 L10.out L210.out).mono ?_
          rintro e w11 ⟨he, k, hk11⟩
          subst he
          have hb11 : Below w10.heap.size w10 w11 := by rw [hk11]; exact below_drewN_self _ _
          have ba11 := obj_below hb11 ba10 (obj_lt ba10)
          have bb11 := obj_below hb11 bb10 (obj_lt bb10)
          have a3 : w11.cell? ⟨w9.heap.size, 3, none⟩ = some (.slice Ar nr cr) := by simp [World.cell?, ba11]
          have g3 : w11.cell? ⟨w9.heap.size + 1, 3, none⟩ = some (.slice Ar2 nr cr2) := by simp [World.cell?, bb11]
          have R11 := Lib.hid (R10.out.below hb11)
          have R211 := Lib.hid (R210.out.below hb11)
          have HW11 := Lib.hid (HW10.out.trans (hb11.mono HW10.out.size))
          clear hk11 hb11 ba10 bb10 ba11 bb11
          go_wp2_with fail
          refine (E3.out ▸ SameI_calls Ar Ar2 cr cr2 R.right R.right w11 R11.out R211.out).mono ?_
          rintro e w12 ⟨he, k, hk12⟩
          subst he
          have HW12 := Lib.hid (HW11.out.trans ((by rw [hk12]; exact below_drewN_self _ _ : Below w11.heap.size w11 w12).mono HW11.out.size))
          clear hk12
          go_wp2_with fail
          go_ret
          exact ⟨by simp, HW12.out⟩
        | succ k1 =>
          obtain ⟨i, hi⟩ : ∃ i, q - (k1 + 1) = i := ⟨_, rfl⟩
          have hi2 : q - k1 = i + 1 := by omega
          have HI := Lib.hid hi2
          have hlt : i < q := by omega
          rw [hi] at HX ⊢
          clear hi hi2
          obtain ⟨LAd, RB, rc, rfl, hrow, hrc, hrr⟩ := (KL.out.below (HW3.out.trans (HB.out.mono hz03))).2 i (by rw [HQQ.out]; exact hlt)
          have hv := HV.out i hlt
          have hts := tk_snoc ([] : List Int) ls i (by rw [HQQ.out]; exact hlt)
          obtain ⟨P, hP⟩ : ∃ P, (ls.take i).map (shL by_) = P := ⟨_, rfl⟩
          have hPl : P.length = i := by rw [← hP, List.length_map, List.length_take, HQQ.out]; omega
          rw [hP] at HX
          obtain ⟨r, hr⟩ : ∃ r, ls.getD i [] = r := ⟨_, rfl⟩
          rw [hr] at hrow hrc hrr hv hts
          have HTS := Lib.hid (show (ls.take (i + 1)).map (shL by_) = P ++ [shL by_ r] by rw [hts, List.map_append, hP]; rfl)
          obtain ⟨hrl, hb20⟩ := hv
          rw [hrl] at hrow hrc
          have HRR := Lib.hid hrr
          have HRL := Lib.hid hrl
          have HB20 := Lib.hid hb20
          have HPL := Lib.hid hPl
          clear hrr hrl hb20 hPl hP hr hts
          go_wp2_with fail
          go_loopg [15, 16] D (fun kk v15 v16 w' => kk ≤ D ∧ v16 = .int .i64 ((D - kk : Nat)) ∧ Own w' wo.heap.size 21 .i32 v15 (shL by_ (r.take (D - kk))) ∧ Below wo.heap.size wo w')
          case atStart => exact ⟨Nat.le_refl _, by simp, by rw [Nat.sub_self]; exact World.ownsRow_nil _ _ _ _, Below.refl _ _⟩
          case round =>
            obtain ⟨hkk, rfl, HY0, HBI0⟩ := hrel
            rename World => wi
            have HY := Lib.hid HY0
            have HBI := Lib.hid HBI0
            have hzi := HBI0.size
            have hrow2 := cell_below HBI0 hrow (World.block_lt_of_cell? _ _ hrow)
            clear HY0 HBI0
            cases gk with
            | zero =>
              have HY2 := HY.out
              rw [Nat.sub_zero, show r.take D = r from by rw [← HRL.out, List.take_length]] at HY2
              have hsl : (shL by_ r).length = D := by rw [shL_length, HRL.out]
              obtain ⟨RB2, c2, rfl, hc2, hrd2⟩ := HY2.shape
              have hap2 : ∀ ad, 0 < D → RB2 = some ad → wo.heap.size ≤ ad.block := fun ad h1 e => by
                obtain ⟨g, e2, hg, _⟩ := Own.at_ HY2 0 (by rw [hsl]; exact h1)
                rw [e] at e2; injection e2 with e2; subst e2; exact hg
              have HAP := Lib.hid hap2
              have HRD2 := Lib.hid hrd2
              have HSL := Lib.hid hsl
              rw [hsl] at hc2 ⊢
              simp only [Nat.sub_zero]
              clear HY HY2 hap2 hrd2 hsl
              obtain ⟨cs0, hcs0, _⟩ := HX.out
              have hrl0 := Lib.hid (fun b hb => row_lt hcs0 b hb)
              clear hcs0
              obtain ⟨cs, hcs1, hcs2⟩ := (HX.out.below HBI.out).below (below_alloc1 (Below.refl wi.heap.size wi) (.cells #[.slice RB2 D c2] 24))
              have hcl := hcs1.1
              rw [HPL.out] at hcs1 hcl
              have HC1 := Lib.hid hcs1
              have HC2 := Lib.hid hcs2
              clear hcs1 hcs2
              go_wp2_with (first
                | (at_builtin; refine wpList_app _ rfl (.tmp 83) (.tmp 85) 22 24 rfl (.slice none 0 0) 1 24 Try.underlying22 info_sl32 rfl (by omega) (by omega) w3.heap.size u13 i cs rfl (some ⟨wi.heap.size, 0, none⟩) 1 1 rfl HC1.out w3 ((HB.out.trans (HBI.out.mono hzo)).alloc (by omega) _) (by rw [World.size_alloc]; omega) [.slice RB2 D c2] rfl (RdC.one _ _ _) (fun u hu => by rw [List.mem_singleton] at hu; subst hu; rfl) (by omega) ?_; intro v1 w5 hown1 hgrow1 hbel1 hat1 hnil1; have hz5 := hbel1.size))
              have HN := Lib.hid (show OwnRows w5 w3.heap.size v1 (P ++ [shL by_ r]) from OwnRows.snoc (B := RB2) (c := c2) (d := c2) (n := D) (B0 := v1) ((HX.out.below HBI.out).below (below_alloc1 (Below.refl wi.heap.size wi) _)) HC2.out (by rw [HPL.out]; omega) (by rw [HSL.out, HPL.out]; exact hown1) hgrow1 hat1 (HRD2.out.alloc _) (by rw [HSL.out]; exact hc2) (fun ad h1 e h2 => by
                have h3 := hrl0.out _ h2
                have h4 := HAP.out ad (by rw [← HSL.out]; exact h1) e
                omega))
              have HBN := Lib.hid hbel1
              clear hown1 hgrow1 hbel1 hat1 hnil1
              go_wp2
              go_roundg k1
              case measure => omega
              case rel =>
                rw [HI.out, HTS.out]
                exact ⟨by omega, rfl, HN.out, HBN.out⟩
            | succ k2 =>
              obtain ⟨k, hk2⟩ : ∃ k, D - (k2 + 1) = k := ⟨_, rfl⟩
              have hk3 : D - k2 = k + 1 := by omega
              have HK3 := Lib.hid hk3
              have hkD : k < D := by omega
              rw [hk2] at HY ⊢
              clear hk2 hk3
              obtain ⟨ad2, rfl, hcx⟩ := (HRR.out.below HBI.out).2 k (by rw [HRL.out]; exact hkD)
              have hb := HB20.out (r.getD k 0) (by have : k < r.length := by rw [HRL.out]; exact hkD
                                                   simp [List.getD, this])
              have hst := Lib.hid (shL_take by_ r k (by rw [HRL.out]; exact hkD))
              have hsl := Lib.hid (show (shL by_ (r.take k)).length = k by rw [shL_length, List.length_take, HRL.out]; omega)
              obtain ⟨x, hx⟩ : ∃ x, r.getD k 0 = x := ⟨_, rfl⟩
              rw [hx] at hcx hb hst
              clear hx
              have hwx : IntKind.i32.wrap (x + by_) = x + by_ := by rw [i32_w]; exact wrap32_id _ (by omega)
              clear hb
              go_wp2_with (first
                | (at_builtin; refine wpList_appI _ rfl (.tmp 71) (.tmp 81) 24 21 rfl .i32 4 Try.underlying24 info_i32 (by omega) wo.heap.size u15 (shL by_ (r.take k)) rfl (some ⟨wi.heap.size, 0, none⟩) 1 [x + by_] rfl (HY.out.alloc1 _) wo (HBI.out.alloc hzi _) (by rw [World.size_alloc]; omega) (Rd.new wi .i32 [x + by_] 21 (by simp)) (by rw [hsl.out]; simp; omega) ?_; intro v1 w5 hown1 hgrow1 hbel1 hat1 hnil1; have hz5 := hbel1.size))
              have HO1 := Lib.hid hown1
              have HB1 := Lib.hid hbel1
              clear hown1 hgrow1 hbel1 hat1 hnil1
              go_wp2
              go_roundg k2
              case measure => omega
              case rel =>
                rw [HK3.out, hst.out]
                exact ⟨by omega, rfl, HO1.out, HB1.out⟩
    | succ k1 =>
      obtain ⟨i, hi⟩ : ∃ i, n - (k1 + 1) = i := ⟨_, rfl⟩
      have hi2 : n - k1 = i + 1 := by omega
      have HI := Lib.hid hi2
      have hlt : i < n := by omega
      rw [hi] at HJH ⊢
      clear hi hi2
      obtain ⟨ad, rfl, hca⟩ := (KA.out.below KW.out).2 i (by rw [HNN.out]; exact hlt)
      obtain ⟨x, hx⟩ : ∃ x, ids.getD i 0 = x := ⟨_, rfl⟩
      have HX := Lib.hid hx
      rw [hx] at hca
      clear hx
      by_cases h0 : x < 0
      · have h0' : decide (x < 0) = true := decide_eq_true h0
        go_wp2_with fail
        go_ret
        exact ⟨rfl, KW.out⟩
      have h0' : decide (x < 0) = false := decide_eq_false h0
      by_cases h1 : (q : Int) ≤ x
      · have h1' : decide ((q : Int) ≤ x) = true := decide_eq_true h1
        go_wp2_with fail
        go_ret
        exact ⟨rfl, KW.out⟩
      have h1' : decide ((q : Int) ≤ x) = false := decide_eq_false h1
      go_wp2_with fail
      go_roundg k1
      case measure => omega
      case rel =>
        rw [HI.out]
        refine ⟨by omega, rfl, (by first | ((repeat (first | exact HBH.out | apply below_drew1 | apply below_alloc1)); done)), fun j hj => ?_⟩
        rcases Nat.lt_or_ge j i with h | h
        · exact HJH.out j h
        · obtain rfl : j = i := by omega
          rw [HX.out]; omega
end Go.Proofs.Ytohmcpblagcfeaa
