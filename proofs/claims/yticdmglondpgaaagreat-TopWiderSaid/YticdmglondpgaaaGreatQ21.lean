/-
  Texts on the program, part 21: Rank, Query, Lives, Right.
-/
import Derived.Shelf.Sort.Plain
import Derived.Sort.OwnSortedInts
import Derived.Lib.RowBridge
import Derived.BigQuiet
import Derived.Deep.RegionHeld3
import Derived.Deep.RegionWith
import Derived.Test.YticdmglondpgaaaGreatQ12
import Derived.Test.YticdmglondpgaaaGreatQ14
import Derived.Test.YticdmglondpgaaaGreatQ18
import Derived.Test.YticdmglondpgaaaGreatQ19
import Derived.Test.YticdmglondpgaaaGreatQ20

/-! ## Rank: slices.Sort and slices.Compact over ints that are in order; exact.Rank. Condition: the ids are in order, unlike, those of items, one at least. -/
namespace Go.Proofs
open Go.Shelf
/-- The numbers of slices.Sort's functions and types in this program (a table that the kit's command tells; laid here by hand). -/
def Tryz.laysSort_ren : Ren where
  f := fun x => match x with
    | 189 => 88
    | 125 => 130
    | 257 => 129
    | 128 => 175
    | 129 => 176
    | 294 => 166
    | 295 => 167
    | 296 => 168
    | 297 => 169
    | 298 => 170
    | 299 => 171
    | 216 => 172
    | 300 => 173
    | 301 => 174
    | 328 => 219
    | 329 => 220
    | 330 => 221
    | 331 => 222
    | 332 => 223
    | 215 => 187
    | 343 => 241
    | n => n
  t := fun x => match x with
    | 28 => 64
    | 3 => 3
    | 46 => 228
    | 0 => 0
    | 51 => 192
    | 53 => 23
    | 4 => 4
    | 183 => 264
    | 182 => 263
    | 131 => 268
    | 5 => 5
    | 9 => 9
    | 218 => 317
    | 222 => 320
    | 228 => 334
    | 229 => 179
    | n => n
  g := fun x => x
set_option maxRecDepth 100000 in
theorem Tryz.laysSort : Lays.n189 Tryz.prog Tryz.laysSort_ren where
  mixed := by kernel_rfl
  f125 := Tryz.func130.trans (by kernel_rfl)
  f128 := Tryz.func175.trans (by kernel_rfl)
  f129 := Tryz.func176.trans (by kernel_rfl)
  f189 := Tryz.func88.trans (by kernel_rfl)
  f215 := Tryz.func187.trans (by kernel_rfl)
  f216 := Tryz.func172.trans (by kernel_rfl)
  f257 := Tryz.func129.trans (by kernel_rfl)
  f294 := Tryz.func166.trans (by kernel_rfl)
  f295 := Tryz.func167.trans (by kernel_rfl)
  f296 := Tryz.func168.trans (by kernel_rfl)
  f297 := Tryz.func169.trans (by kernel_rfl)
  f298 := Tryz.func170.trans (by kernel_rfl)
  f299 := Tryz.func171.trans (by kernel_rfl)
  f300 := Tryz.func173.trans (by kernel_rfl)
  f301 := Tryz.func174.trans (by kernel_rfl)
  f328 := Tryz.func219.trans (by kernel_rfl)
  f329 := Tryz.func220.trans (by kernel_rfl)
  f330 := Tryz.func221.trans (by kernel_rfl)
  f331 := Tryz.func222.trans (by kernel_rfl)
  f332 := Tryz.func223.trans (by kernel_rfl)
  f343 := Tryz.func241.trans (by kernel_rfl)
  t0 := Tryz.underlying0
  a0 := Tryz.isAgg0
  z0 := Tryz.sizeOf0
  v0 := Tryz.zeroValue0
  t3 := Tryz.underlying3
  a3 := Tryz.isAgg3
  z3 := Tryz.sizeOf3
  v3 := Tryz.zeroValue3
  t4 := Tryz.underlying4
  a4 := Tryz.isAgg4
  z4 := Tryz.sizeOf4
  v4 := Tryz.zeroValue4
  t5 := Tryz.underlying5
  a5 := Tryz.isAgg5
  z5 := Tryz.sizeOf5
  v5 := Tryz.zeroValue5
  t9 := Tryz.underlying9
  a9 := Tryz.isAgg9
  z9 := Tryz.sizeOf9
  v9 := Tryz.zeroValue9
  t28 := Tryz.underlying64
  a28 := Tryz.isAgg64
  z28 := Tryz.sizeOf64
  v28 := Tryz.zeroValue64
  t46 := Tryz.underlying228
  a46 := Tryz.isAgg228
  z46 := Tryz.sizeOf228
  v46 := Tryz.zeroValue228
  t51 := Tryz.underlying192
  a51 := Tryz.isAgg192
  z51 := Tryz.sizeOf192
  v51 := Tryz.zeroValue192
  t53 := Tryz.underlying23
  a53 := Tryz.isAgg23
  z53 := Tryz.sizeOf23
  v53 := Tryz.zeroValue23
  t131 := Tryz.underlying268
  a131 := Tryz.isAgg268
  z131 := Tryz.sizeOf268
  v131 := Tryz.zeroValue268
  t182 := Tryz.underlying263
  a182 := Tryz.isAgg263
  z182 := Tryz.sizeOf263
  v182 := Tryz.zeroValue263
  t183 := Tryz.underlying264
  a183 := Tryz.isAgg264
  z183 := Tryz.sizeOf264
  v183 := Tryz.zeroValue264
  t218 := Tryz.underlying317
  a218 := Tryz.isAgg317
  z218 := Tryz.sizeOf317
  v218 := Tryz.zeroValue317
  t222 := Tryz.underlying320
  a222 := Tryz.isAgg320
  z222 := Tryz.sizeOf320
  v222 := Tryz.zeroValue320
  t228 := Tryz.underlying334
  a228 := Tryz.isAgg334
  z228 := Tryz.sizeOf334
  v228 := Tryz.zeroValue334
  t229 := Tryz.underlying179
  a229 := Tryz.isAgg179
  z229 := Tryz.sizeOf179
  v229 := Tryz.zeroValue179
end Go.Proofs
namespace Go.Proofs.YticdmglondpgaaaGreat
open Go.RowKit
set_option linter.unusedVariables false
set_option maxRecDepth 100000
set_option linter.unusedSimpArgs false

attribute [local go_sem] Oper.semAt_some

theorem SortInts_calls (base g c : Nat) (M : List Int) (w : World) (hown : Own w base 3 .i64 (.slice (some ⟨g, 0, none⟩) M.length c) M) (hs : M.Pairwise (· ≤ ·)) (hl : M.length ≤ 1000000) :
    Calls Tryz.prog 88 #[.slice (some ⟨g, 0, none⟩) M.length c] w fun e w' => e = .returned (.tuple #[]) ∧ Own w' base 3 .i64 (.slice (some ⟨g, 0, none⟩) M.length c) M ∧ Only (· = g) w w' := by
  rcases hown.2 with ⟨e, _⟩ | ⟨g', cap, cur, e, hb, hblk, h1, h2, h3, h4⟩
  · cases e
  · injection e with e1 _ e3
    injection e1 with e1
    injection e1 with e1
    subst e1 e3
    have hms : (M.mergeSort fun x y => decide (x ≤ y)) = M := List.mergeSort_of_pairwise (by simpa using hs)
    refine (Go.Proofs.Any.slices_Sort_int Tryz.laysSort g 0 c M w (Go.holds_of_blockI hblk (by simpa [nums] using h4)) (obj_lt hblk) (by omega)).mono ?_
    rintro e w' ⟨he, n, os, hw⟩
    rw [hms] at hw
    refine ⟨he, ?_, ?_⟩
    · rw [hw]
      exact Go.ownsRow_sortedI rfl hb hblk h1 h2 h3
    · have hgr := Go.grownBy_sortedI (w := w) (g := g) (n := n) (os := os) M.toArray
      rw [← hw] at hgr
      exact (only_grown (v := .slice (some ⟨g, 0, none⟩) M.length c) hgr).mono fun k _ hk => by simpa [OwnB, Value.ownBlock, eq_comm] using hk
set_option maxHeartbeats 1600000 in
theorem CompactI_calls (A : Option Addr) (c : Nat) (M : List Int) (w : World) (hM : Rd w .i64 A M) (hinc : M.Pairwise (· < ·)) (hl : M.length ≤ 1000000) :
    Calls Tryz.prog 89 #[.slice A M.length c] w fun e w' => e = .returned (.slice A M.length c) ∧ ∃ n, w' = w.drewN n := by
  have HM := Lib.hid hM
  have HINC := Lib.hid hinc
  obtain ⟨n, hn⟩ : ∃ n, M.length = n := ⟨_, rfl⟩
  have HN := Lib.hid hn
  rw [hn] at hl ⊢
  clear hM hinc hn
  by_cases h2 : n < 2
  · have h2' : decide ((n : Int) < 2) = true := decide_eq_true (by omega)
    go_enter Tryz.func89, Tryz.ntmps89
    go_wp2_with fail
    go_ret
    exact ⟨rfl, 0, rfl⟩
  · have h2' : decide ((n : Int) < 2) = false := decide_eq_false (by omega)
    go_enter Tryz.func89, Tryz.ntmps89
    go_wp2_with fail
    go_loopg [3] (n - 1) (fun kq v3 w' => kq ≤ n - 1 ∧ v3 = .int .i64 ((n - kq : Nat) : Int) ∧ ∃ q, w' = w.drewN q)
    case atStart => exact ⟨Nat.le_refl _, by rw [show n - (n - 1) = 1 by omega]; rfl, 0, rfl⟩
    case round =>
      obtain ⟨hk, rfl, q, hw⟩ := hrel
      have HW := Lib.hid hw
      cases gk with
      | zero =>
        have hlt : ¬ ((n - 0 : Nat) : Int) < (n : Int) := by omega
        clear hw
        go_wp2_with fail
        go_ret
        exact ⟨rfl, q, HW.out⟩
      | succ k1 =>
        obtain ⟨i, hi⟩ : ∃ i, n - (k1 + 1) = i + 1 := ⟨n - (k1 + 1) - 1, by omega⟩
        have hi2 : n - k1 = i + 1 + 1 := by omega
        rw [hi]
        have hlt : ((i + 1 : Nat) : Int) < (n : Int) := by omega
        obtain ⟨ad, rfl, hc1⟩ := HM.out.2 (i + 1) (by rw [HN.out]; omega)
        obtain ⟨ad', e, hc0⟩ := HM.out.2 i (by rw [HN.out]; omega)
        injection e with e
        subst e
        have hne : M.getD i 0 ≠ M.getD (i + 1) 0 := by
          have h := List.pairwise_iff_getElem.1 HINC.out i (i + 1) (by rw [HN.out]; omega) (by rw [HN.out]; omega) (by omega)
          simp only [List.getD]
          rw [List.getElem?_eq_getElem (by rw [HN.out]; omega), List.getElem?_eq_getElem (by rw [HN.out]; omega)]
          simp only [Option.getD_some]
          omega
        obtain ⟨x, hx⟩ : ∃ x, M.getD i 0 = x := ⟨_, rfl⟩
        obtain ⟨y, hy⟩ : ∃ y, M.getD (i + 1) 0 = y := ⟨_, rfl⟩
        rw [hx, hy] at hne
        rw [hx] at hc0
        rw [hy] at hc1
        obtain ⟨j, hj⟩ : ∃ j, i + 1 = j := ⟨_, rfl⟩
        have hji : IntKind.i64.wrap ((j : Int) - 1) = (i : Int) := by rw [i64_w]; rw [wrap64_id _ (by omega)]; omega
        have hjj : IntKind.i64.wrap ((j : Int) + 1) = ((j + 1 : Nat) : Int) := by rw [i64_w]; rw [wrap64_id _ (by omega)]; omega
        have hnn : (y == x) = false := by simp; omega
        rw [hj] at hi hi2 hlt hc1 ⊢
        have hjn : j < n := by omega
        have hin : i < n := by omega
        have HI2 := Lib.hid hi2
        have hd1 : wr.cell? (ad.add j) = some (.int .i64 y) := by rw [hw]; exact hc1
        have hd0 : wr.cell? (ad.add i) = some (.int .i64 x) := by rw [hw]; exact hc0
        clear hx hy hne hi hi2 hj hc0 hc1 hw
        go_wp2_with fail
        go_quiet (fail)
        go_wp2_with fail
        go_roundg k1
        case measure => omega
        case rel => exact ⟨by omega, by rw [HI2.out]; rfl, q + nq, by rw [HW.out]; simp [World.drewN, Nat.add_assoc]⟩
/-- What Each yields of a row of ids; what Rank hands back. -/
def RankPost (w : World) (rows : List (List Int)) (ys M : List Int) (k E : Int) (e : Ending) (w' : World) : Prop :=
  ∃ vO, e = .returned (.tuple #[vO, .int .i64 E]) ∧ Below w.heap.size w w' ∧ (E ≠ 0 → vO = .slice none 0 0) ∧ (E = 0 → OwnF w' w.heap.size 90 2 twoR vO ((sortI ltR (0, 0) (eachL rows ys M)).take k.toNat))
theorem exactE_zero {ys : List Int} {dim k : Int} (h : exactE ys dim k = 0) : checkV ys dim = 0 ∧ 0 ≤ k ∧ k ≤ 1048576 := by
  unfold exactE at h
  split at h
  · omega
  · rename_i h1
    split at h <;> omega
set_option maxHeartbeats 3200000 in
theorem Rank_calls (bI dim : Nat) (rows : List (List Int)) (VA : Option Addr) (vc : Nat) (ys : List Int) (k : Int) (A : Option Addr) (c : Nat) (M : List Int) (w : World) (hI : It w bI dim rows) (hn1 : 1 ≤ rows.length) (hrr : ∀ r ∈ rows, R32 r) (hV : Rd w .i32 VA ys)
    (hM : Rd w .i64 A M) (hr : ∀ x ∈ M, 0 ≤ x ∧ x < (rows.length : Int)) (hinc : M.Pairwise (· < ·)) (h1 : 1 ≤ M.length) (hl : M.length ≤ 100000) :
    Calls Tryz.prog 47 #[.pointer (some ⟨bI, 0, none⟩), .slice VA ys.length vc, .int .i64 k, .slice A M.length c] w (RankPost w rows ys M k (exactE ys dim k)) := by
  have HI := Lib.hid hI
  have HV := Lib.hid hV
  have HM := Lib.hid hM
  have HR := Lib.hid hr
  have HRR := Lib.hid hrr
  have HINC := Lib.hid hinc
  have HN1 := Lib.hid hn1
  obtain ⟨E, hE⟩ : ∃ E, exactE ys dim k = E := ⟨_, rfl⟩
  have HCK := Lib.hid (hE ▸ ECheck_calls bI dim rows VA vc ys k w hI hn1 hV)
  have HE := Lib.hid hE
  obtain ⟨n, hn⟩ : ∃ n, M.length = n := ⟨_, rfl⟩
  have HN := Lib.hid hn
  obtain ⟨m, hm⟩ : ∃ m, ys.length = m := ⟨_, rfl⟩
  have HM2 := Lib.hid hm
  rw [hm] at HCK
  rw [hE]
  rw [hn, hm]
  rw [hn] at h1 hl
  clear hI hV hM hr hrr hinc hn1 hE hn hm
  go_enter Tryz.func47, Tryz.ntmps47
  go_wp2_with fail
  refine HCK.out.mono ?_
  rintro e w1 ⟨he, hb1⟩
  subst he
  have B1 := Lib.hid hb1
  clear hb1
  by_cases hz : E = 0
  case neg =>
    have hz' : (E != 0) = true := by simp [hz]
    go_wp2_with fail
    go_ret2
    exact ⟨_, rfl, B1.out, fun _ => rfl, fun h => absurd h hz⟩
  subst hz
  obtain ⟨hck, hk0, hk1⟩ := exactE_zero HE.out
  have HRY := Lib.hid (checkV_zero hck).2.2.2.r32
  clear HCK hck
  go_wp2_with fail
  refine (HN.out ▸ CloneI_calls A c M w1 (HM.out.below B1.out) (by rw [HN.out]; exact h1) (by rw [HN.out]; omega)).mono ?_
  rintro e w2 ⟨v, he, hown, hb2⟩
  subst he
  obtain ⟨A2, c2, rfl, hc2, hrd2⟩ := hown.shape
  obtain ⟨g, rfl, hg1, hg2, _⟩ := Own.at_ hown 0 (by rw [HN.out]; omega)
  have B2 := Lib.hid (B1.out.trans (hb2.mono B1.out.size))
  have OW := Lib.hid hown
  rw [HN.out] at hc2 ⊢
  clear hown hb2 hrd2
  go_wp2_with fail
  refine (HN.out ▸ SortInts_calls w1.heap.size g c2 M w2 OW.out (HINC.out.imp fun h => by omega) (by rw [HN.out]; omega)).mono ?_
  rintro e w3 ⟨he, hown3, ho3⟩
  subst he
  have B3 := Lib.hid (B2.out.trans (ho3.below B2.out.size fun k hk h => by have := B1.out.size; omega))
  have OW3 := Lib.hid hown3
  clear hown3 ho3
  go_wp2_with fail
  refine (HN.out ▸ CompactI_calls (some ⟨g, 0, none⟩) c2 M w3 OW3.out.rd.2 HINC.out (by rw [HN.out]; omega)).mono ?_
  rintro e w4 ⟨he, nq, hw4⟩
  subst he
  have hb4 : Below w3.heap.size w3 w4 := by rw [hw4]; exact below_drewN_self _ _
  have B4 := Lib.hid (B3.out.trans (hb4.mono B3.out.size))
  have RD4 := Lib.hid (OW3.out.rd.2.below hb4)
  clear hw4 hb4
  go_wp2_with fail
  refine (ValuesI_calls (some ⟨g, 0, none⟩) n c2 w4).mono ?_
  rintro e w5 ⟨he, hw5⟩
  subst he
  have hb5 : Below w4.heap.size w4 w5 := by rw [hw5]; exact below_alloc1 (Below.refl _ _) _
  have hq5 : w5.heap[w4.heap.size]? = some (.cells #[.slice (some ⟨g, 0, none⟩) n c2] 64 (0, 0)) := by rw [hw5]; exact heap_alloc_new _ _
  have B5 := Lib.hid (B4.out.trans (hb5.mono B4.out.size))
  have RD5 := Lib.hid (RD4.out.below hb5)
  have Q5 := Lib.hid hq5
  clear hw5 hb5 hq5
  go_wp2_with fail
  refine (Each_calls bI VA m vc w4.heap.size w5).mono ?_
  rintro e w6 ⟨b1, b2, b3, he, hb6, e1, e2, e3⟩
  subst he
  have B6 := Lib.hid (B5.out.trans (hb6.mono B5.out.size))
  have RD6 := Lib.hid (RD5.out.below hb6)
  have Q6 := Lib.hid (obj_below hb6 Q5.out (obj_lt Q5.out))
  have E1 := Lib.hid e1
  have E2 := Lib.hid e2
  have E3 := Lib.hid e3
  clear hb6 e1 e2 e3
  go_wp2_with fail
  refine (OfEach_calls k bI dim w4.heap.size b1 b2 b3 rows VA vc ys (some ⟨g, 0, none⟩) c2 M w6 (HI.out.below B6.out) RD6.out HR.out HRR.out (HV.out.below B6.out) HRY.out (by rw [HN.out]; exact Q6.out) E1.out E2.out (by rw [HM2.out]; exact E3.out) (by rw [HN.out]; exact hl)).mono ?_
  rintro e w7 ⟨vO, he, hO, hb7⟩
  subst he
  have HO := Lib.hid (hO.low B6.out.size)
  have B7 := Lib.hid (B6.out.trans (hb7.mono B6.out.size))
  clear hO hb7
  go_wp2_with fail
  go_ret2
  exact ⟨_, rfl, B7.out, fun h => absurd rfl h, fun _ => HO.out⟩
end Go.Proofs.YticdmglondpgaaaGreat

/-! ## Query: Package index: Query. Conditions: the index is built; the vector may be. -/
namespace Go.Proofs.YticdmglondpgaaaGreat
open Go.RowKit
set_option linter.unusedVariables false
set_option maxRecDepth 100000
set_option linter.unusedSimpArgs false

attribute [local go_sem] Oper.semAt_some

set_option maxHeartbeats 3200000 in
theorem Gather_bad (bI dim : Nat) (rows : List (List Int)) (lf dp : Nat) (TA : Option Addr) (Tc : Nat) (ts : List Tr) (VA : Option Addr) (vc : Nat) (ys : List Int) (limit : Int) (w : World) (hI : It w bI dim rows) (hT : RdT w TA ts) (hg : ForestG ts rows.length dim lf dp) (hV : Rd w .i32 VA ys) (hc : checkV ys dim = 0) (h1 : limit < 1 ∨ 16777216 < limit) :
    Calls Tryz.prog 26 #[.agg #[.pointer (some ⟨bI, 0, none⟩), .int .i64 (lf : Int), .int .i64 (dp : Int), .slice TA ts.length Tc], .slice VA ys.length vc, .int .i64 limit] w fun e w' => e = .returned (.tuple #[.slice none 0 0, .int .i64 0, .int .i64 1]) ∧ Below w.heap.size w w' := by
  have hck := fun W (h : Below w.heap.size w W) => (show Calls Tryz.prog 50 #[.agg #[.pointer (some ⟨bI, 0, none⟩), .int .i64 (lf : Int), .int .i64 (dp : Int), .slice TA ts.length Tc], .slice VA ys.length vc] W fun e w' => e = .returned (.int .i64 0) ∧ Below W.heap.size W w' from hc ▸ Search_Check bI dim rows lf dp TA Tc ts VA vc ys W (hI.below h) (hT.below h) hg (hV.below h))
  have HCK := Lib.hid hck
  clear hck hI hT hg hV hc
  obtain ⟨T, hT⟩ : ∃ T, ts.length = T := ⟨_, rfl⟩
  obtain ⟨m, hm⟩ : ∃ m, ys.length = m := ⟨_, rfl⟩
  rw [hT, hm] at HCK ⊢
  clear hT hm
  by_cases h2 : limit < 1
  · have h2' : decide (limit < 1) = true := decide_eq_true h2
    go_enter Tryz.func26, Tryz.ntmps26
    go_wp2_with fail
    obtain ⟨w1, AW⟩ : ∃ W, w.alloc (.cells #[.pointer (some ⟨bI, 0, none⟩), .int .i64 lf, .int .i64 dp, .slice TA T Tc] 61) = W := ⟨_, rfl⟩
    have Ab : Below w.heap.size w w1 := by rw [← AW]; exact below_alloc1 (Below.refl _ _) _
    have Ax : w1.heap[w.heap.size]? = some (.cells #[.pointer (some ⟨bI, 0, none⟩), .int .i64 lf, .int .i64 dp, .slice TA T Tc] 61 (0, 0)) := by rw [← AW]; exact heap_alloc_new _ _
    rw [AW]
    clear AW
    refine Calls.mono (HCK.out w1 Ab) ?_
    rintro e w2 ⟨he, hb2⟩
    subst he
    have Ab2 : Below w.heap.size w w2 := Ab.trans (hb2.mono Ab.size)
    clear Ab Ax hb2
    go_wp2_with fail
    go_ret3
    exact ⟨rfl, Ab2⟩
  · have h2' : decide (limit < 1) = false := decide_eq_false h2
    have h3' : decide (16777216 < limit) = true := decide_eq_true (by omega)
    go_enter Tryz.func26, Tryz.ntmps26
    go_wp2_with fail
    obtain ⟨w1, AW⟩ : ∃ W, w.alloc (.cells #[.pointer (some ⟨bI, 0, none⟩), .int .i64 lf, .int .i64 dp, .slice TA T Tc] 61) = W := ⟨_, rfl⟩
    have Ab : Below w.heap.size w w1 := by rw [← AW]; exact below_alloc1 (Below.refl _ _) _
    have Ax : w1.heap[w.heap.size]? = some (.cells #[.pointer (some ⟨bI, 0, none⟩), .int .i64 lf, .int .i64 dp, .slice TA T Tc] 61 (0, 0)) := by rw [← AW]; exact heap_alloc_new _ _
    rw [AW]
    clear AW
    refine Calls.mono (HCK.out w1 Ab) ?_
    rintro e w2 ⟨he, hb2⟩
    subst he
    have Ab2 : Below w.heap.size w w2 := Ab.trans (hb2.mono Ab.size)
    clear Ab Ax hb2
    go_wp2_with fail
    go_ret3
    exact ⟨rfl, Ab2⟩
theorem first_calls (g f1 f2 : Nat) (c1 c2 : Array Value) (E : Int) (w : World) (hg : w.heap[g]? = some (.cells #[.func (.func f1) #[] c1, .func (.func f2) #[] c2] 100 (0, 0)))
    (k1 : ∀ args W, (callFunc f1 args).run Tryz.prog W = .ok (.enter f1 args) W) (k2 : ∀ args W, (callFunc f2 args).run Tryz.prog W = .ok (.enter f2 args) W)
    (h1 : ∀ W, Below w.heap.size w W → Calls Tryz.prog f1 c1 W fun e W' => e = .returned (.int .i64 0) ∧ Below W.heap.size W W') (h2 : ∀ W, Below w.heap.size w W → Calls Tryz.prog f2 c2 W fun e W' => e = .returned (.int .i64 E) ∧ Below W.heap.size W W') :
    Calls Tryz.prog 48 #[.slice (some ⟨g, 0, none⟩) 2 2] w fun e w' => e = .returned (.int .i64 E) ∧ Below w.heap.size w w' := by
  have HG := Lib.hid hg
  have H1 := Lib.hid h1
  have H2 := Lib.hid h2
  have hgl := obj_lt hg
  clear hg h1 h2
  go_enter Tryz.func48, Tryz.ntmps48
  go_wp2_with fail
  go_loopg [8] 2 (fun kq v8 w' => kq ≤ 2 ∧ v8 = .int .i64 ((2 - kq : Nat) : Int) ∧ Below w.heap.size w w' ∧ (kq = 0 → E = 0))
  case atStart => exact ⟨Nat.le_refl _, rfl, Below.refl _ _, fun h => by omega⟩
  case round =>
    obtain ⟨hk, rfl, hB, hE⟩ := hrel
    have HB := Lib.hid hB
    have hx := obj_below hB HG.out hgl
    have e0 : wr.cell? ⟨g, 0, none⟩ = some (.func (.func f1) #[] c1) := by simp [World.cell?, hx]
    have e1 : wr.cell? ⟨g, 1, none⟩ = some (.func (.func f2) #[] c2) := by simp [World.cell?, hx]
    clear hB hx
    have hgk : gk = 0 ∨ gk = 1 ∨ gk = 2 := by omega
    rcases hgk with rfl | rfl | rfl
    · have hE0 := hE rfl
      subst hE0
      go_wp2_with fail
      go_ret
      exact ⟨rfl, HB.out⟩
    · clear hE
      go_wp2_with fail
      refine (H2.out wr HB.out).mono ?_
      rintro e w1 ⟨he, hb1⟩
      subst he
      have B1 := Lib.hid (HB.out.trans (hb1.mono HB.out.size))
      clear hb1
      by_cases hz : E = 0
      · subst hz
        go_wp2_with fail
        go_roundg 0
        case measure => omega
        case rel => exact ⟨by omega, rfl, B1.out, by simp⟩
      · have hz' : (E != 0) = true := by simp [hz]
        go_wp2_with fail
        go_ret
        exact ⟨rfl, B1.out⟩
    · clear hE
      go_wp2_with fail
      refine (H1.out wr HB.out).mono ?_
      rintro e w1 ⟨he, hb1⟩
      subst he
      have B1 := Lib.hid (HB.out.trans (hb1.mono HB.out.size))
      clear hb1
      go_wp2_with fail
      go_roundg 1
      case measure => omega
      case rel => exact ⟨by omega, rfl, B1.out, fun h => by omega⟩
theorem Q1_calls (b dim bI : Nat) (rows : List (List Int)) (lf dp : Nat) (ts : List Tr) (VA : Option Addr) (vc : Nat) (ys : List Int) (q4 q5 : Nat) (w : World) (hx : IxU w b dim bI rows lf dp ts) (hg : ForestG ts rows.length dim lf dp) (hV : Rd w .i32 VA ys)
    (h4 : w.heap[q4]? = some (.cells #[.pointer (some ⟨b, 0, none⟩)] 32 (0, 0))) (h5 : w.heap[q5]? = some (.cells #[.slice VA ys.length vc] 29 (0, 0))) :
    Calls Tryz.prog 49 #[.pointer (some ⟨q4, 0, none⟩), .pointer (some ⟨q5, 0, none⟩)] w fun e w' => e = .returned (.int .i64 (checkV ys dim)) ∧ Below w.heap.size w w' := by
  obtain ⟨TA, Tc, hb, hI, hT⟩ := hx
  have hck := fun W (h : Below w.heap.size w W) => Search_Check bI dim rows lf dp TA Tc ts VA vc ys W (hI.below h) (hT.below h) hg (hV.below h)
  have HCK := Lib.hid hck
  obtain ⟨T, hTT⟩ : ∃ T, ts.length = T := ⟨_, rfl⟩
  obtain ⟨m, hm⟩ : ∃ m, ys.length = m := ⟨_, rfl⟩
  obtain ⟨E, hE⟩ : ∃ E, checkV ys dim = E := ⟨_, rfl⟩
  rw [hTT, hm, hE] at HCK
  rw [hTT] at hb
  rw [hm] at h5
  rw [hE]
  have c4 : w.cell? ⟨q4, 0, none⟩ = some (.pointer (some ⟨b, 0, none⟩)) := by simp [World.cell?, h4]
  have c5 : w.cell? ⟨q5, 0, none⟩ = some (.slice VA m vc) := by simp [World.cell?, h5]
  have k2 : w.cell? ⟨b, 2, none⟩ = some (.pointer (some ⟨bI, 0, none⟩)) := by simp [World.cell?, hb, ixC]
  have k3 : w.cell? ⟨b, 3, none⟩ = some (.int .i64 (lf : Int)) := by simp [World.cell?, hb, ixC]
  have k4 : w.cell? ⟨b, 4, none⟩ = some (.int .i64 (dp : Int)) := by simp [World.cell?, hb, ixC]
  have k5 : w.cell? ⟨b, 5, none⟩ = some (.slice TA T Tc) := by simp [World.cell?, hb, ixC]
  have l4 := obj_lt h4
  have l5 := obj_lt h5
  have lb := obj_lt hb
  have hbw : Below w.heap.size w w := Below.refl _ _
  clear hI hT hg hV h4 h5 hb hck hTT hm hE
  have KEEP := fun W (hBx : Below w.heap.size w W) => (show W.cell? ⟨q4, 0, none⟩ = some (.pointer (some ⟨b, 0, none⟩)) ∧ W.cell? ⟨q5, 0, none⟩ = some (.slice VA m vc) ∧ W.cell? ⟨b, 2, none⟩ = some (.pointer (some ⟨bI, 0, none⟩)) ∧ W.cell? ⟨b, 3, none⟩ = some (.int .i64 (lf : Int)) ∧ W.cell? ⟨b, 4, none⟩ = some (.int .i64 (dp : Int)) ∧ W.cell? ⟨b, 5, none⟩ = some (.slice TA T Tc) ∧ Below w.heap.size w W from
    ⟨cell_below hBx c4 l4, cell_below hBx c5 l5, cell_below hBx k2 lb, cell_below hBx k3 lb, cell_below hBx k4 lb, cell_below hBx k5 lb, hBx⟩)
  go_enter Tryz.func49, Tryz.ntmps49
  go_wp2_with fail
  go_region_held3 (fun w' => w'.cell? ⟨q4, 0, none⟩ = some (.pointer (some ⟨b, 0, none⟩)) ∧ w'.cell? ⟨q5, 0, none⟩ = some (.slice VA m vc) ∧ w'.cell? ⟨b, 2, none⟩ = some (.pointer (some ⟨bI, 0, none⟩)) ∧ w'.cell? ⟨b, 3, none⟩ = some (.int .i64 (lf : Int)) ∧ w'.cell? ⟨b, 4, none⟩ = some (.int .i64 (dp : Int)) ∧ w'.cell? ⟨b, 5, none⟩ = some (.slice TA T Tc) ∧ Below w.heap.size w w')
    (first | exact KEEP _ (by first | ((repeat (first | assumption | exact Below.refl _ _ | apply below_drew1 | apply below_alloc1)); done)) | go_keep)
    (first | (go_at_call 50; go_split_ands; (with_reducible refine Calls.mono (HCK.out _ ?_) ?_); (exact (by first | ((repeat (first | assumption | exact Below.refl _ _ | apply below_drew1 | apply below_alloc1)); done))); rintro e wa ⟨he, hbq⟩; subst he; have hBa : Below w.heap.size w wa := Below.after (by first | ((repeat (first | assumption | exact Below.refl _ _ | apply below_drew1 | apply below_alloc1)); done)) hbq))
  all_goals
    go_wp2_with fail
    go_ret
    exact ⟨rfl, (by first | ((repeat (first | assumption | exact Below.refl _ _ | apply below_drew1 | apply below_alloc1)); done))⟩
theorem Q2_calls (b dim bI : Nat) (rows : List (List Int)) (lf dp : Int) (ts : List Tr) (VA : Option Addr) (vc : Nat) (ys : List Int) (k : Int) (q4 q5 q6 : Nat) (w : World) (hx : IxU w b dim bI rows lf dp ts) (hn1 : 1 ≤ rows.length) (hV : Rd w .i32 VA ys)
    (h4 : w.heap[q4]? = some (.cells #[.pointer (some ⟨b, 0, none⟩)] 32 (0, 0))) (h5 : w.heap[q5]? = some (.cells #[.slice VA ys.length vc] 29 (0, 0))) (h6 : w.heap[q6]? = some (.cells #[.int .i64 k] 3 (0, 0))) :
    Calls Tryz.prog 51 #[.pointer (some ⟨q4, 0, none⟩), .pointer (some ⟨q5, 0, none⟩), .pointer (some ⟨q6, 0, none⟩)] w fun e w' => e = .returned (.int .i64 (exactE ys dim k)) ∧ Below w.heap.size w w' := by
  obtain ⟨TA, Tc, hb, hI, hT⟩ := hx
  have hck := fun W (h : Below w.heap.size w W) => ECheck_calls bI dim rows VA vc ys k W (hI.below h) hn1 (hV.below h)
  have HCK := Lib.hid hck
  obtain ⟨m, hm⟩ : ∃ m, ys.length = m := ⟨_, rfl⟩
  obtain ⟨E, hE⟩ : ∃ E, exactE ys dim k = E := ⟨_, rfl⟩
  rw [hm, hE] at HCK
  rw [hm] at h5
  rw [hE]
  have c4 : w.cell? ⟨q4, 0, none⟩ = some (.pointer (some ⟨b, 0, none⟩)) := by simp [World.cell?, h4]
  have c5 : w.cell? ⟨q5, 0, none⟩ = some (.slice VA m vc) := by simp [World.cell?, h5]
  have c6 : w.cell? ⟨q6, 0, none⟩ = some (.int .i64 k) := by simp [World.cell?, h6]
  have k1 : w.cell? ⟨b, 1, none⟩ = some (.pointer (some ⟨bI, 0, none⟩)) := by simp [World.cell?, hb, ixC]
  have l4 := obj_lt h4
  have l5 := obj_lt h5
  have l6 := obj_lt h6
  have lb := obj_lt hb
  have hbw : Below w.heap.size w w := Below.refl _ _
  clear hI hT hV h4 h5 h6 hb hck hm hE
  have KEEP := fun W (hBx : Below w.heap.size w W) => (show W.cell? ⟨q4, 0, none⟩ = some (.pointer (some ⟨b, 0, none⟩)) ∧ W.cell? ⟨q5, 0, none⟩ = some (.slice VA m vc) ∧ W.cell? ⟨q6, 0, none⟩ = some (.int .i64 k) ∧ W.cell? ⟨b, 1, none⟩ = some (.pointer (some ⟨bI, 0, none⟩)) ∧ Below w.heap.size w W from
    ⟨cell_below hBx c4 l4, cell_below hBx c5 l5, cell_below hBx c6 l6, cell_below hBx k1 lb, hBx⟩)
  go_enter Tryz.func51, Tryz.ntmps51
  go_wp2_with fail
  go_region_held3 (fun w' => w'.cell? ⟨q4, 0, none⟩ = some (.pointer (some ⟨b, 0, none⟩)) ∧ w'.cell? ⟨q5, 0, none⟩ = some (.slice VA m vc) ∧ w'.cell? ⟨q6, 0, none⟩ = some (.int .i64 k) ∧ w'.cell? ⟨b, 1, none⟩ = some (.pointer (some ⟨bI, 0, none⟩)) ∧ Below w.heap.size w w')
    (first | exact KEEP _ (by first | ((repeat (first | assumption | exact Below.refl _ _ | apply below_drew1 | apply below_alloc1)); done)) | go_keep)
    (first | (go_at_call 45; go_split_ands; (with_reducible refine Calls.mono (HCK.out _ ?_) ?_); (exact (by first | ((repeat (first | assumption | exact Below.refl _ _ | apply below_drew1 | apply below_alloc1)); done))); rintro e wa ⟨he, hbq⟩; subst he; have hBa : Below w.heap.size w wa := Below.after (by first | ((repeat (first | assumption | exact Below.refl _ _ | apply below_drew1 | apply below_alloc1)); done)) hbq))
  all_goals
    go_wp2_with fail
    go_ret
    exact ⟨rfl, (by first | ((repeat (first | assumption | exact Below.refl _ _ | apply below_drew1 | apply below_alloc1)); done))⟩
/-- What Query answers: the error, the limit, the ids, the list. -/
def queryL (k T limit : Int) : Int := if limit = 0 then max (k * T) 1 else limit
def queryE (ys : List Int) (dim k T limit : Int) : Int := if exactE ys dim k ≠ 0 then exactE ys dim k else if queryL k T limit < 1 ∨ 16777216 < queryL k T limit then 1 else 0
def queryM (n : Nat) (ts : List Tr) (ys : List Int) (L : Nat) : List Int := (upTo n).filter (· ∈ (gath ts ys L).1)
def queryR (rows : List (List Int)) (ts : List Tr) (ys : List Int) (k limit : Int) : List (Int × Int) := (sortI ltR (0, 0) (eachL rows ys (queryM rows.length ts ys (queryL k ts.length limit).toNat))).take k.toNat
def QueryPost (w : World) (rows : List (List Int)) (ts : List Tr) (ys : List Int) (k limit E : Int) (e : Ending) (w' : World) : Prop :=
  ∃ vO, e = .returned (.tuple #[vO, .int .i64 E]) ∧ Below w.heap.size w w' ∧ (E ≠ 0 → vO = .slice none 0 0) ∧ (E = 0 → OwnF w' w.heap.size 90 2 twoR vO (queryR rows ts ys k limit))
set_option maxHeartbeats 6400000 in
set_option maxRecDepth 100000 in
theorem Query_calls (b dim bI : Nat) (rows : List (List Int)) (lf dp : Nat) (ts : List Tr) (VA : Option Addr) (vc : Nat) (ys : List Int) (k limit : Int) (w : World) (hx : IxU w b dim bI rows lf dp ts) (hg : ForestG ts rows.length dim lf dp) (hrr : ∀ r ∈ rows, R32 r) (hV : Rd w .i32 VA ys) (hc : checkV ys dim = 0)
    (hT6 : ts.length ≤ 16) :
    Calls Tryz.prog 15 #[.pointer (some ⟨b, 0, none⟩), .slice VA ys.length vc, .int .i64 k, .int .i64 limit] w (QueryPost w rows ts ys k limit (queryE ys dim k ts.length limit)) := by
  have HX := Lib.hid hx
  have HG := Lib.hid hg
  have HRR := Lib.hid hrr
  have HV := Lib.hid hV
  have HC := Lib.hid hc
  have hn1 := hg.n1
  have hn2 := hg.n2
  have ht1 := hg.t1
  obtain ⟨TA, Tc, hb, hI, hT⟩ := hx
  have hbl := obj_lt hb
  have HB := Lib.hid hb
  have HI := Lib.hid hI
  have HT := Lib.hid hT
  obtain ⟨m, hm⟩ : ∃ m, ys.length = m := ⟨_, rfl⟩
  have HM := Lib.hid hm
  obtain ⟨E0, hE0⟩ : ∃ E, exactE ys dim k = E := ⟨_, rfl⟩
  have HE0 := Lib.hid hE0
  have c6 : w.cell? ⟨b, 6, none⟩ = some (.bool true) := by simp [World.cell?, hb, ixC]
  rw [hm]
  clear hg hrr hV hc hb hI hT hm hE0
  have c6c : ∀ o1 o2 o3, (((w.alloc o1).alloc o2).alloc o3).cell? ⟨b, 6, none⟩ = some (.bool true) := fun o1 o2 o3 => cell_below (below_alloc1 (below_alloc1 (below_alloc1 (Below.refl w.heap.size w) o1) o2) o3) c6 hbl
  go_enter Tryz.func15, Tryz.ntmps15
  go_wp2_with fail
  obtain ⟨w1, hw1⟩ : ∃ W, ((((w.alloc (.cells #[.pointer (some ⟨b, 0, none⟩)] 32)).alloc (.cells #[.slice VA m vc] 29)).alloc (.cells #[.int .i64 k] 3)).alloc (.cells #[.func (.func 49) #[] #[.pointer (some ⟨w.heap.size, 0, none⟩), .pointer (some ⟨w.heap.size + 1, 0, none⟩)], .func (.func 51) #[] #[.pointer (some ⟨w.heap.size, 0, none⟩), .pointer (some ⟨w.heap.size + 1, 0, none⟩), .pointer (some ⟨w.heap.size + 1 + 1, 0, none⟩)]] 100)) = W := ⟨_, rfl⟩
  have hb1 : Below w.heap.size w w1 := by rw [← hw1]; exact below_alloc1 (below_alloc1 (below_alloc1 (below_alloc1 (Below.refl _ _) _) _) _) _
  have x4 : w1.heap[w.heap.size]? = some (.cells #[.pointer (some ⟨b, 0, none⟩)] 32 (0, 0)) := by
    rw [← hw1]; exact obj_below (B := w.heap.size + 1) ((((Below.refl _ _).alloc (by simp) _).alloc (by simp) _).alloc (by simp) _) (heap_alloc_new w _) (by omega)
  have x5 : w1.heap[w.heap.size + 1]? = some (.cells #[.slice VA m vc] 29 (0, 0)) := by
    have h := heap_alloc_new (w.alloc (.cells #[.pointer (some ⟨b, 0, none⟩)] 32)) (.cells #[.slice VA m vc] 29)
    rw [World.size_alloc] at h
    rw [← hw1]; exact obj_below (B := w.heap.size + 2) (((Below.refl _ _).alloc (by simp) _).alloc (by simp) _) h (by omega)
  have x6 : w1.heap[w.heap.size + 1 + 1]? = some (.cells #[.int .i64 k] 3 (0, 0)) := by
    have h := heap_alloc_new ((w.alloc (.cells #[.pointer (some ⟨b, 0, none⟩)] 32)).alloc (.cells #[.slice VA m vc] 29)) (.cells #[.int .i64 k] 3)
    rw [World.size_alloc, World.size_alloc] at h
    rw [← hw1]; exact obj_below (B := w.heap.size + 3) ((Below.refl _ _).alloc (by simp) _) h (by omega)
  have x7 : w1.heap[w.heap.size + 1 + 1 + 1]? = some (.cells #[.func (.func 49) #[] #[.pointer (some ⟨w.heap.size, 0, none⟩), .pointer (some ⟨w.heap.size + 1, 0, none⟩)], .func (.func 51) #[] #[.pointer (some ⟨w.heap.size, 0, none⟩), .pointer (some ⟨w.heap.size + 1, 0, none⟩), .pointer (some ⟨w.heap.size + 1 + 1, 0, none⟩)]] 100 (0, 0)) := by
    have h := heap_alloc_new (((w.alloc (.cells #[.pointer (some ⟨b, 0, none⟩)] 32)).alloc (.cells #[.slice VA m vc] 29)).alloc (.cells #[.int .i64 k] 3)) (.cells #[.func (.func 49) #[] #[.pointer (some ⟨w.heap.size, 0, none⟩), .pointer (some ⟨w.heap.size + 1, 0, none⟩)], .func (.func 51) #[] #[.pointer (some ⟨w.heap.size, 0, none⟩), .pointer (some ⟨w.heap.size + 1, 0, none⟩), .pointer (some ⟨w.heap.size + 1 + 1, 0, none⟩)]] 100)
    rw [World.size_alloc, World.size_alloc, World.size_alloc] at h
    rw [← hw1]; exact h
  rw [hw1]
  have l4 := obj_lt x4
  have l5 := obj_lt x5
  have l6 := obj_lt x6
  have hfi := first_calls (w.heap.size + 1 + 1 + 1) 49 51 _ _ E0 w1 x7 (enters_of Tryz.func49 (by kernel_rfl) rfl) (enters_of Tryz.func51 (by kernel_rfl) rfl)
    (fun W h => HC.out ▸ Q1_calls b dim bI rows lf dp ts VA vc ys w.heap.size (w.heap.size + 1) W ((HX.out.below hb1).below h) HG.out ((HV.out.below hb1).below h) (obj_below h x4 l4) (by rw [HM.out]; exact obj_below h x5 l5))
    (fun W h => HE0.out ▸ Q2_calls b dim bI rows lf dp ts VA vc ys k w.heap.size (w.heap.size + 1) (w.heap.size + 1 + 1) W ((HX.out.below hb1).below h) hn1 ((HV.out.below hb1).below h) (obj_below h x4 l4) (by rw [HM.out]; exact obj_below h x5 l5) (obj_below h x6 l6))
  refine hfi.mono ?_
  rintro e w2 ⟨he, hb2⟩
  subst he
  have B2 := Lib.hid (hb1.trans (hb2.mono hb1.size))
  have X4 := Lib.hid (obj_below hb2 x4 l4)
  have X5 := Lib.hid (obj_below hb2 x5 l5)
  have X6 := Lib.hid (obj_below hb2 x6 l6)
  have hz2 := hb2.size
  clear hw1 hb1 x4 x5 x6 x7 hfi hb2 c6 c6c
  by_cases hz : E0 = 0
  case neg =>
    have hz' : (E0 != 0) = true := by simp [hz]
    have HQE := Lib.hid (show queryE ys dim k ts.length limit = E0 by unfold queryE; rw [HE0.out, if_pos hz])
    go_wp2_with fail
    go_ret2
    exact ⟨_, by rw [HQE.out]; rfl, B2.out, fun _ => rfl, fun h => absurd (HQE.out.symm.trans h) hz⟩
  subst hz
  obtain ⟨_, hk0, hk1⟩ := exactE_zero HE0.out
  have hbb := obj_below B2.out HB.out hbl
  obtain ⟨T, hTT⟩ : ∃ T, ts.length = T := ⟨_, rfl⟩
  rw [hTT] at hbb hT6 ht1 ⊢
  have d4 : w2.cell? ⟨w.heap.size, 0, none⟩ = some (.pointer (some ⟨b, 0, none⟩)) := by have h := X4.out; simp [World.cell?, h]
  have d5 : w2.cell? ⟨w.heap.size + 1, 0, none⟩ = some (.slice VA m vc) := by have h := X5.out; simp [World.cell?, h]
  have d6 : w2.cell? ⟨w.heap.size + 1 + 1, 0, none⟩ = some (.int .i64 k) := by have h := X6.out; simp [World.cell?, h]
  have k1 : w2.cell? ⟨b, 1, none⟩ = some (.pointer (some ⟨bI, 0, none⟩)) := by simp [World.cell?, hbb, ixC]
  have k2 : w2.cell? ⟨b, 2, none⟩ = some (.pointer (some ⟨bI, 0, none⟩)) := by simp [World.cell?, hbb, ixC]
  have k3 : w2.cell? ⟨b, 3, none⟩ = some (.int .i64 (lf : Int)) := by simp [World.cell?, hbb, ixC]
  have k4 : w2.cell? ⟨b, 4, none⟩ = some (.int .i64 (dp : Int)) := by simp [World.cell?, hbb, ixC]
  have k5 : w2.cell? ⟨b, 5, none⟩ = some (.slice TA T Tc) := by simp [World.cell?, hbb, ixC]
  have lb := obj_lt hbb
  have e4 : w.heap.size < w2.heap.size := by omega
  have e5 : w.heap.size + 1 < w2.heap.size := by omega
  have e6 : w.heap.size + 1 + 1 < w2.heap.size := by omega
  have HTT := Lib.hid hTT
  have hkT : 0 ≤ k * (T : Int) ∧ k * (T : Int) ≤ 16777216 := ⟨Int.mul_nonneg hk0 (by omega), Int.le_trans (Int.mul_le_mul hk1 (show (T : Int) ≤ 16 by omega) (by omega) (by omega)) (by omega)⟩
  obtain ⟨kT, hkTe⟩ : ∃ x, k * (T : Int) = x := ⟨_, rfl⟩
  have HKT := Lib.hid hkTe
  rw [hkTe] at hkT
  have hwr : IntKind.i64.wrap (k * (T : Int)) = kT := by rw [hkTe, i64_w]; exact wrap64_id _ (by omega)
  clear hbb hTT hkTe X4 X5 X6 hz2 l4 l5 l6
  have hLL : ∃ L, queryL k T limit = L ∧ (limit = 0 → L = max kT 1) ∧ (limit ≠ 0 → L = limit) := ⟨_, rfl, fun h => by unfold queryL; rw [if_pos h, HKT.out], fun h => by unfold queryL; rw [if_neg h]⟩
  obtain ⟨L, hL, hL0, hL1⟩ := hLL
  have HL := Lib.hid hL
  clear hL
  by_cases hl : limit = 0
  · have hLe := hL0 hl
    subst hl
    clear hL0 hL1
    go_wp2_with fail
    go_region
    all_goals
      rw [← hLe]
      obtain ⟨w3, hw3⟩ : ∃ X, w2.drew = X := ⟨_, rfl⟩
      have hb3 : Below w2.heap.size w2 w3 := by rw [← hw3]; exact below_drew1 (Below.refl _ _)
      replace d4 := cell_below hb3 d4 e4
      replace d5 := cell_below hb3 d5 e5
      replace d6 := cell_below hb3 d6 e6
      replace k1 := cell_below hb3 k1 lb
      replace k2 := cell_below hb3 k2 lb
      replace k3 := cell_below hb3 k3 lb
      replace k4 := cell_below hb3 k4 lb
      replace k5 := cell_below hb3 k5 lb
      have hz3 := hb3.size
      replace B2 := Lib.hid (B2.out.trans (hb3.mono B2.out.size))
      replace e4 : w.heap.size < w3.heap.size := by omega
      replace e5 : w.heap.size + 1 < w3.heap.size := by omega
      replace e6 : w.heap.size + 1 + 1 < w3.heap.size := by omega
      replace lb : b < w3.heap.size := by omega
      rw [hw3]
      clear hw3 hb3 hz3 hwr hLe
      have KP := fun W (hBx : Below w3.heap.size w3 W) => (show W.cell? ⟨w.heap.size, 0, none⟩ = some (.pointer (some ⟨b, 0, none⟩)) ∧ W.cell? ⟨w.heap.size + 1, 0, none⟩ = some (.slice VA m vc) ∧ W.cell? ⟨w.heap.size + 1 + 1, 0, none⟩ = some (.int .i64 k) ∧ W.cell? ⟨b, 1, none⟩ = some (.pointer (some ⟨bI, 0, none⟩)) ∧ W.cell? ⟨b, 2, none⟩ = some (.pointer (some ⟨bI, 0, none⟩)) ∧ W.cell? ⟨b, 3, none⟩ = some (.int .i64 (lf : Int)) ∧ W.cell? ⟨b, 4, none⟩ = some (.int .i64 (dp : Int)) ∧ W.cell? ⟨b, 5, none⟩ = some (.slice TA T Tc) ∧ Below w3.heap.size w3 W from
        ⟨cell_below hBx d4 e4, cell_below hBx d5 e5, cell_below hBx d6 e6, cell_below hBx k1 lb, cell_below hBx k2 lb, cell_below hBx k3 lb, cell_below hBx k4 lb, cell_below hBx k5 lb, hBx⟩)
      have hself : Below w3.heap.size w3 w3 := Below.refl _ _
      by_cases hbad : L < 1 ∨ 16777216 < L
      case pos =>
        have HQE := Lib.hid (show ∀ lim, queryL k T lim = L → queryE ys dim k ts.length lim = 1 from fun lim h => by unfold queryE; rw [HE0.out, if_neg (by simp), HTT.out, h, if_pos hbad])
        have hga : ∀ W, Below w3.heap.size w3 W → Calls Tryz.prog 26 #[.agg #[.pointer (some ⟨bI, 0, none⟩), .int .i64 (lf : Int), .int .i64 (dp : Int), .slice TA T Tc], .slice VA m vc, .int .i64 L] W fun e w' => e = .returned (.tuple #[.slice none 0 0, .int .i64 0, .int .i64 1]) ∧ Below W.heap.size W w' := fun W h => by
          have hbw := B2.out.trans (h.mono B2.out.size)
          have h1 := Gather_bad bI dim rows lf dp TA Tc ts VA vc ys L W (HI.out.below hbw) (HT.out.below hbw) HG.out (HV.out.below hbw) HC.out hbad
          rw [HTT.out, HM.out] at h1
          exact h1
        have HGA := Lib.hid hga
        clear hga
        go_wp2_with fail
        go_region_held3 (fun W => W.cell? ⟨w.heap.size, 0, none⟩ = some (.pointer (some ⟨b, 0, none⟩)) ∧ W.cell? ⟨w.heap.size + 1, 0, none⟩ = some (.slice VA m vc) ∧ W.cell? ⟨w.heap.size + 1 + 1, 0, none⟩ = some (.int .i64 k) ∧ W.cell? ⟨b, 1, none⟩ = some (.pointer (some ⟨bI, 0, none⟩)) ∧ W.cell? ⟨b, 2, none⟩ = some (.pointer (some ⟨bI, 0, none⟩)) ∧ W.cell? ⟨b, 3, none⟩ = some (.int .i64 (lf : Int)) ∧ W.cell? ⟨b, 4, none⟩ = some (.int .i64 (dp : Int)) ∧ W.cell? ⟨b, 5, none⟩ = some (.slice TA T Tc) ∧ Below w3.heap.size w3 W)
          (first | exact KP _ (by first | ((repeat (first | assumption | exact Below.refl _ _ | apply below_drew1 | apply below_alloc1)); done)) | go_keep)
          (first | (go_at_call 26; go_split_ands; (with_reducible refine Calls.mono (HGA.out _ ?_) ?_); (exact (by first | ((repeat (first | assumption | exact Below.refl _ _ | apply below_drew1 | apply below_alloc1)); done))); rintro e wa ⟨he, hbq⟩; subst he; have hBa : Below w3.heap.size w3 wa := Below.after (by first | ((repeat (first | assumption | exact Below.refl _ _ | apply below_drew1 | apply below_alloc1)); done)) hbq))
        all_goals
          go_wp2_with fail
          go_ret2
          exact ⟨_, by rw [HQE.out _ HL.out]; rfl, B2.out.trans (hBa.mono B2.out.size), fun _ => rfl, fun h => absurd ((HQE.out _ HL.out).symm.trans h) (by decide)⟩
      have HQE := Lib.hid (show ∀ lim, queryL k T lim = L → queryE ys dim k ts.length lim = 0 from fun lim h => by unfold queryE; rw [HE0.out, if_neg (by simp), HTT.out, h, if_neg hbad])
      have hga : ∀ W, Below w3.heap.size w3 W → Calls Tryz.prog 26 #[.agg #[.pointer (some ⟨bI, 0, none⟩), .int .i64 (lf : Int), .int .i64 (dp : Int), .slice TA T Tc], .slice VA m vc, .int .i64 L] W (GatherPost ts ys L.toNat rows.length W) := fun W h => by
        have hbw := B2.out.trans (h.mono B2.out.size)
        have h1 := Gather_calls colH bI dim rows lf dp TA Tc ts VA vc ys L.toNat W (HI.out.below hbw) (HT.out.below hbw) HG.out (HV.out.below hbw) HC.out (by omega) (by omega)
        rw [HTT.out, HM.out, show ((L.toNat : Nat) : Int) = L by omega] at h1
        exact h1
      have HGA := Lib.hid hga
      have hqm := queryM_ok HG.out ys L.toNat (by omega)
      obtain ⟨M, hM⟩ : ∃ M, queryM rows.length ts ys L.toNat = M := ⟨_, rfl⟩
      have hM' : (upTo rows.length).filter (· ∈ (gath ts ys L.toNat).1) = M := hM
      unfold GatherPost at HGA
      rw [hM'] at hqm HGA
      obtain ⟨q, hq⟩ : ∃ q, M.length = q := ⟨_, rfl⟩
      have HMM := Lib.hid hM
      have HQ := Lib.hid hq
      have HQM := Lib.hid hqm
      obtain ⟨st, hst⟩ : ∃ st, (gath ts ys L.toNat).2 = st := ⟨_, rfl⟩
      rw [hq, hst] at HGA
      clear hga hqm hM hM' hq hst
      go_wp2_with fail
      go_region_held3 (fun W => W.cell? ⟨w.heap.size, 0, none⟩ = some (.pointer (some ⟨b, 0, none⟩)) ∧ W.cell? ⟨w.heap.size + 1, 0, none⟩ = some (.slice VA m vc) ∧ W.cell? ⟨w.heap.size + 1 + 1, 0, none⟩ = some (.int .i64 k) ∧ W.cell? ⟨b, 1, none⟩ = some (.pointer (some ⟨bI, 0, none⟩)) ∧ W.cell? ⟨b, 2, none⟩ = some (.pointer (some ⟨bI, 0, none⟩)) ∧ W.cell? ⟨b, 3, none⟩ = some (.int .i64 (lf : Int)) ∧ W.cell? ⟨b, 4, none⟩ = some (.int .i64 (dp : Int)) ∧ W.cell? ⟨b, 5, none⟩ = some (.slice TA T Tc) ∧ Below w3.heap.size w3 W)
        (first | exact KP _ (by first | ((repeat (first | assumption | exact Below.refl _ _ | apply below_drew1 | apply below_alloc1)); done)) | go_keep)
        (first | (go_at_call 26; go_split_ands; (with_reducible refine Calls.mono (HGA.out _ ?_) ?_); (exact (by first | ((repeat (first | assumption | exact Below.refl _ _ | apply below_drew1 | apply below_alloc1)); done))); rintro e wa ⟨B, c, he, hrd, hcl, hbq⟩; subst he; have hBa : Below w3.heap.size w3 wa := Below.after (by first | ((repeat (first | assumption | exact Below.refl _ _ | apply below_drew1 | apply below_alloc1)); done)) hbq; have HRD := Lib.hid hrd; clear hrd hcl))
      all_goals
        replace d4 := cell_below hBa d4 e4
        replace d5 := cell_below hBa d5 e5
        replace d6 := cell_below hBa d6 e6
        replace k1 := cell_below hBa k1 lb
        replace k2 := cell_below hBa k2 lb
        replace k3 := cell_below hBa k3 lb
        replace k4 := cell_below hBa k4 lb
        replace k5 := cell_below hBa k5 lb
        have hza := hBa.size
        replace B2 := Lib.hid (B2.out.trans (hBa.mono B2.out.size))
        obtain ⟨w5, hw5⟩ : ∃ X, wa = X := ⟨_, rfl⟩
        subst hw5
        replace e4 : w.heap.size < wa.heap.size := by omega
        replace e5 : w.heap.size + 1 < wa.heap.size := by omega
        replace e6 : w.heap.size + 1 + 1 < wa.heap.size := by omega
        replace lb : b < wa.heap.size := by omega
        clear hself KP hza hBa HGA
        have KP := fun W (hBx : Below wa.heap.size wa W) => (show W.cell? ⟨w.heap.size, 0, none⟩ = some (.pointer (some ⟨b, 0, none⟩)) ∧ W.cell? ⟨w.heap.size + 1, 0, none⟩ = some (.slice VA m vc) ∧ W.cell? ⟨w.heap.size + 1 + 1, 0, none⟩ = some (.int .i64 k) ∧ W.cell? ⟨b, 1, none⟩ = some (.pointer (some ⟨bI, 0, none⟩)) ∧ W.cell? ⟨b, 2, none⟩ = some (.pointer (some ⟨bI, 0, none⟩)) ∧ W.cell? ⟨b, 3, none⟩ = some (.int .i64 (lf : Int)) ∧ W.cell? ⟨b, 4, none⟩ = some (.int .i64 (dp : Int)) ∧ W.cell? ⟨b, 5, none⟩ = some (.slice TA T Tc) ∧ Below wa.heap.size wa W from
          ⟨cell_below hBx d4 e4, cell_below hBx d5 e5, cell_below hBx d6 e6, cell_below hBx k1 lb, cell_below hBx k2 lb, cell_below hBx k3 lb, cell_below hBx k4 lb, cell_below hBx k5 lb, hBx⟩)
        have hself : Below wa.heap.size wa wa := Below.refl _ _
        have hrk : ∀ W, Below wa.heap.size wa W → Calls Tryz.prog 47 #[.pointer (some ⟨bI, 0, none⟩), .slice VA m vc, .int .i64 k, .slice B q c] W (RankPost W rows ys M k 0) := fun W h => by
          have hbw := B2.out.trans (h.mono B2.out.size)
          have h1 := Rank_calls bI dim rows VA vc ys k B c M W (HI.out.below hbw) hn1 HRR.out (HV.out.below hbw) (HRD.out.below h) HQM.out.1 HQM.out.2.1 HQM.out.2.2.1 (by have := HQM.out.2.2.2; omega)
          rw [HM.out, HQ.out, HE0.out] at h1
          exact h1
        have HRK := Lib.hid hrk
        clear hrk
        go_wp2_with fail
        go_region_held3 (fun W => W.cell? ⟨w.heap.size, 0, none⟩ = some (.pointer (some ⟨b, 0, none⟩)) ∧ W.cell? ⟨w.heap.size + 1, 0, none⟩ = some (.slice VA m vc) ∧ W.cell? ⟨w.heap.size + 1 + 1, 0, none⟩ = some (.int .i64 k) ∧ W.cell? ⟨b, 1, none⟩ = some (.pointer (some ⟨bI, 0, none⟩)) ∧ W.cell? ⟨b, 2, none⟩ = some (.pointer (some ⟨bI, 0, none⟩)) ∧ W.cell? ⟨b, 3, none⟩ = some (.int .i64 (lf : Int)) ∧ W.cell? ⟨b, 4, none⟩ = some (.int .i64 (dp : Int)) ∧ W.cell? ⟨b, 5, none⟩ = some (.slice TA T Tc) ∧ Below wa.heap.size wa W)
          (first | exact KP _ (by first | ((repeat (first | assumption | exact Below.refl _ _ | apply below_drew1 | apply below_alloc1)); done)) | go_keep)
          (first | (go_at_call 47; go_split_ands; (with_reducible refine Calls.mono (HRK.out _ ?_) ?_); (exact (by first | ((repeat (first | assumption | exact Below.refl _ _ | apply below_drew1 | apply below_alloc1)); done))); rintro e wa2 ⟨vO, he, hbq, _, hO⟩; subst he; have hBb : Below wa.heap.size wa wa2 := Below.after (by first | ((repeat (first | assumption | exact Below.refl _ _ | apply below_drew1 | apply below_alloc1)); done)) hbq; have HO := Lib.hid (hO rfl); clear hO))
        all_goals
          go_wp2_with fail
          go_ret2
          refine ⟨vO, by rw [HQE.out _ HL.out]; rfl, B2.out.trans (hBb.mono B2.out.size), fun h => absurd (HQE.out _ HL.out) h, fun _ => ?_⟩
          have hO := HO.out
          unfold queryR
          rw [HTT.out, HL.out, HMM.out]
          exact (hO.low (by have := B2.out.size; first | omega | (simp; omega)))
  · have hLe := hL1 hl
    subst hLe
    have hl' : (L == 0) = false := by simp [hl]
    clear hL0 hL1
    have KP := fun W (hBx : Below w2.heap.size w2 W) => (show W.cell? ⟨w.heap.size, 0, none⟩ = some (.pointer (some ⟨b, 0, none⟩)) ∧ W.cell? ⟨w.heap.size + 1, 0, none⟩ = some (.slice VA m vc) ∧ W.cell? ⟨w.heap.size + 1 + 1, 0, none⟩ = some (.int .i64 k) ∧ W.cell? ⟨b, 1, none⟩ = some (.pointer (some ⟨bI, 0, none⟩)) ∧ W.cell? ⟨b, 2, none⟩ = some (.pointer (some ⟨bI, 0, none⟩)) ∧ W.cell? ⟨b, 3, none⟩ = some (.int .i64 (lf : Int)) ∧ W.cell? ⟨b, 4, none⟩ = some (.int .i64 (dp : Int)) ∧ W.cell? ⟨b, 5, none⟩ = some (.slice TA T Tc) ∧ Below w2.heap.size w2 W from
      ⟨cell_below hBx d4 e4, cell_below hBx d5 e5, cell_below hBx d6 e6, cell_below hBx k1 lb, cell_below hBx k2 lb, cell_below hBx k3 lb, cell_below hBx k4 lb, cell_below hBx k5 lb, hBx⟩)
    have hself : Below w2.heap.size w2 w2 := Below.refl _ _
    by_cases hbad : L < 1 ∨ 16777216 < L
    case pos =>
      have HQE := Lib.hid (show ∀ lim, queryL k T lim = L → queryE ys dim k ts.length lim = 1 from fun lim h => by unfold queryE; rw [HE0.out, if_neg (by simp), HTT.out, h, if_pos hbad])
      have hga : ∀ W, Below w2.heap.size w2 W → Calls Tryz.prog 26 #[.agg #[.pointer (some ⟨bI, 0, none⟩), .int .i64 (lf : Int), .int .i64 (dp : Int), .slice TA T Tc], .slice VA m vc, .int .i64 L] W fun e w' => e = .returned (.tuple #[.slice none 0 0, .int .i64 0, .int .i64 1]) ∧ Below W.heap.size W w' := fun W h => by
        have hbw := B2.out.trans (h.mono B2.out.size)
        have h1 := Gather_bad bI dim rows lf dp TA Tc ts VA vc ys L W (HI.out.below hbw) (HT.out.below hbw) HG.out (HV.out.below hbw) HC.out hbad
        rw [HTT.out, HM.out] at h1
        exact h1
      have HGA := Lib.hid hga
      clear hga
      go_wp2_with fail
      go_region_held3 (fun W => W.cell? ⟨w.heap.size, 0, none⟩ = some (.pointer (some ⟨b, 0, none⟩)) ∧ W.cell? ⟨w.heap.size + 1, 0, none⟩ = some (.slice VA m vc) ∧ W.cell? ⟨w.heap.size + 1 + 1, 0, none⟩ = some (.int .i64 k) ∧ W.cell? ⟨b, 1, none⟩ = some (.pointer (some ⟨bI, 0, none⟩)) ∧ W.cell? ⟨b, 2, none⟩ = some (.pointer (some ⟨bI, 0, none⟩)) ∧ W.cell? ⟨b, 3, none⟩ = some (.int .i64 (lf : Int)) ∧ W.cell? ⟨b, 4, none⟩ = some (.int .i64 (dp : Int)) ∧ W.cell? ⟨b, 5, none⟩ = some (.slice TA T Tc) ∧ Below w2.heap.size w2 W)
        (first | exact KP _ (by first | ((repeat (first | assumption | exact Below.refl _ _ | apply below_drew1 | apply below_alloc1)); done)) | go_keep)
        (first | (go_at_call 26; go_split_ands; (with_reducible refine Calls.mono (HGA.out _ ?_) ?_); (exact (by first | ((repeat (first | assumption | exact Below.refl _ _ | apply below_drew1 | apply below_alloc1)); done))); rintro e wa ⟨he, hbq⟩; subst he; have hBa : Below w2.heap.size w2 wa := Below.after (by first | ((repeat (first | assumption | exact Below.refl _ _ | apply below_drew1 | apply below_alloc1)); done)) hbq))
      all_goals
        go_wp2_with fail
        go_ret2
        exact ⟨_, by rw [HQE.out _ HL.out]; rfl, B2.out.trans (hBa.mono B2.out.size), fun _ => rfl, fun h => absurd ((HQE.out _ HL.out).symm.trans h) (by decide)⟩
    have HQE := Lib.hid (show ∀ lim, queryL k T lim = L → queryE ys dim k ts.length lim = 0 from fun lim h => by unfold queryE; rw [HE0.out, if_neg (by simp), HTT.out, h, if_neg hbad])
    have hga : ∀ W, Below w2.heap.size w2 W → Calls Tryz.prog 26 #[.agg #[.pointer (some ⟨bI, 0, none⟩), .int .i64 (lf : Int), .int .i64 (dp : Int), .slice TA T Tc], .slice VA m vc, .int .i64 L] W (GatherPost ts ys L.toNat rows.length W) := fun W h => by
      have hbw := B2.out.trans (h.mono B2.out.size)
      have h1 := Gather_calls colH bI dim rows lf dp TA Tc ts VA vc ys L.toNat W (HI.out.below hbw) (HT.out.below hbw) HG.out (HV.out.below hbw) HC.out (by omega) (by omega)
      rw [HTT.out, HM.out, show ((L.toNat : Nat) : Int) = L by omega] at h1
      exact h1
    have HGA := Lib.hid hga
    have hqm := queryM_ok HG.out ys L.toNat (by omega)
    obtain ⟨M, hM⟩ : ∃ M, queryM rows.length ts ys L.toNat = M := ⟨_, rfl⟩
    have hM' : (upTo rows.length).filter (· ∈ (gath ts ys L.toNat).1) = M := hM
    unfold GatherPost at HGA
    rw [hM'] at hqm HGA
    obtain ⟨q, hq⟩ : ∃ q, M.length = q := ⟨_, rfl⟩
    have HMM := Lib.hid hM
    have HQ := Lib.hid hq
    have HQM := Lib.hid hqm
    obtain ⟨st, hst⟩ : ∃ st, (gath ts ys L.toNat).2 = st := ⟨_, rfl⟩
    rw [hq, hst] at HGA
    clear hga hqm hM hM' hq hst
    go_wp2_with fail
    go_region_held3 (fun W => W.cell? ⟨w.heap.size, 0, none⟩ = some (.pointer (some ⟨b, 0, none⟩)) ∧ W.cell? ⟨w.heap.size + 1, 0, none⟩ = some (.slice VA m vc) ∧ W.cell? ⟨w.heap.size + 1 + 1, 0, none⟩ = some (.int .i64 k) ∧ W.cell? ⟨b, 1, none⟩ = some (.pointer (some ⟨bI, 0, none⟩)) ∧ W.cell? ⟨b, 2, none⟩ = some (.pointer (some ⟨bI, 0, none⟩)) ∧ W.cell? ⟨b, 3, none⟩ = some (.int .i64 (lf : Int)) ∧ W.cell? ⟨b, 4, none⟩ = some (.int .i64 (dp : Int)) ∧ W.cell? ⟨b, 5, none⟩ = some (.slice TA T Tc) ∧ Below w2.heap.size w2 W)
      (first | exact KP _ (by first | ((repeat (first | assumption | exact Below.refl _ _ | apply below_drew1 | apply below_alloc1)); done)) | go_keep)
      (first | (go_at_call 26; go_split_ands; (with_reducible refine Calls.mono (HGA.out _ ?_) ?_); (exact (by first | ((repeat (first | assumption | exact Below.refl _ _ | apply below_drew1 | apply below_alloc1)); done))); rintro e wa ⟨B, c, he, hrd, hcl, hbq⟩; subst he; have hBa : Below w2.heap.size w2 wa := Below.after (by first | ((repeat (first | assumption | exact Below.refl _ _ | apply below_drew1 | apply below_alloc1)); done)) hbq; have HRD := Lib.hid hrd; clear hrd hcl))
    all_goals
      replace d4 := cell_below hBa d4 e4
      replace d5 := cell_below hBa d5 e5
      replace d6 := cell_below hBa d6 e6
      replace k1 := cell_below hBa k1 lb
      replace k2 := cell_below hBa k2 lb
      replace k3 := cell_below hBa k3 lb
      replace k4 := cell_below hBa k4 lb
      replace k5 := cell_below hBa k5 lb
      have hza := hBa.size
      replace B2 := Lib.hid (B2.out.trans (hBa.mono B2.out.size))
      obtain ⟨w5, hw5⟩ : ∃ X, wa = X := ⟨_, rfl⟩
      subst hw5
      replace e4 : w.heap.size < wa.heap.size := by omega
      replace e5 : w.heap.size + 1 < wa.heap.size := by omega
      replace e6 : w.heap.size + 1 + 1 < wa.heap.size := by omega
      replace lb : b < wa.heap.size := by omega
      clear hself KP hza hBa HGA
      have KP := fun W (hBx : Below wa.heap.size wa W) => (show W.cell? ⟨w.heap.size, 0, none⟩ = some (.pointer (some ⟨b, 0, none⟩)) ∧ W.cell? ⟨w.heap.size + 1, 0, none⟩ = some (.slice VA m vc) ∧ W.cell? ⟨w.heap.size + 1 + 1, 0, none⟩ = some (.int .i64 k) ∧ W.cell? ⟨b, 1, none⟩ = some (.pointer (some ⟨bI, 0, none⟩)) ∧ W.cell? ⟨b, 2, none⟩ = some (.pointer (some ⟨bI, 0, none⟩)) ∧ W.cell? ⟨b, 3, none⟩ = some (.int .i64 (lf : Int)) ∧ W.cell? ⟨b, 4, none⟩ = some (.int .i64 (dp : Int)) ∧ W.cell? ⟨b, 5, none⟩ = some (.slice TA T Tc) ∧ Below wa.heap.size wa W from
        ⟨cell_below hBx d4 e4, cell_below hBx d5 e5, cell_below hBx d6 e6, cell_below hBx k1 lb, cell_below hBx k2 lb, cell_below hBx k3 lb, cell_below hBx k4 lb, cell_below hBx k5 lb, hBx⟩)
      have hself : Below wa.heap.size wa wa := Below.refl _ _
      have hrk : ∀ W, Below wa.heap.size wa W → Calls Tryz.prog 47 #[.pointer (some ⟨bI, 0, none⟩), .slice VA m vc, .int .i64 k, .slice B q c] W (RankPost W rows ys M k 0) := fun W h => by
        have hbw := B2.out.trans (h.mono B2.out.size)
        have h1 := Rank_calls bI dim rows VA vc ys k B c M W (HI.out.below hbw) hn1 HRR.out (HV.out.below hbw) (HRD.out.below h) HQM.out.1 HQM.out.2.1 HQM.out.2.2.1 (by have := HQM.out.2.2.2; omega)
        rw [HM.out, HQ.out, HE0.out] at h1
        exact h1
      have HRK := Lib.hid hrk
      clear hrk
      go_wp2_with fail
      go_region_held3 (fun W => W.cell? ⟨w.heap.size, 0, none⟩ = some (.pointer (some ⟨b, 0, none⟩)) ∧ W.cell? ⟨w.heap.size + 1, 0, none⟩ = some (.slice VA m vc) ∧ W.cell? ⟨w.heap.size + 1 + 1, 0, none⟩ = some (.int .i64 k) ∧ W.cell? ⟨b, 1, none⟩ = some (.pointer (some ⟨bI, 0, none⟩)) ∧ W.cell? ⟨b, 2, none⟩ = some (.pointer (some ⟨bI, 0, none⟩)) ∧ W.cell? ⟨b, 3, none⟩ = some (.int .i64 (lf : Int)) ∧ W.cell? ⟨b, 4, none⟩ = some (.int .i64 (dp : Int)) ∧ W.cell? ⟨b, 5, none⟩ = some (.slice TA T Tc) ∧ Below wa.heap.size wa W)
        (first | exact KP _ (by first | ((repeat (first | assumption | exact Below.refl _ _ | apply below_drew1 | apply below_alloc1)); done)) | go_keep)
        (first | (go_at_call 47; go_split_ands; (with_reducible refine Calls.mono (HRK.out _ ?_) ?_); (exact (by first | ((repeat (first | assumption | exact Below.refl _ _ | apply below_drew1 | apply below_alloc1)); done))); rintro e wa2 ⟨vO, he, hbq, _, hO⟩; subst he; have hBb : Below wa.heap.size wa wa2 := Below.after (by first | ((repeat (first | assumption | exact Below.refl _ _ | apply below_drew1 | apply below_alloc1)); done)) hbq; have HO := Lib.hid (hO rfl); clear hO))
      all_goals
        go_wp2_with fail
        go_ret2
        refine ⟨vO, by rw [HQE.out _ HL.out]; rfl, B2.out.trans (hBb.mono B2.out.size), fun h => absurd (HQE.out _ HL.out) h, fun _ => ?_⟩
        have hO := HO.out
        unfold queryR
        rw [HTT.out, HL.out, HMM.out]
        exact (hO.low (by have := B2.out.size; first | omega | (simp; omega)))
end Go.Proofs.YticdmglondpgaaaGreat

/-! ## Lives: lives: an index of two items answers. No condition. -/
namespace Go.Proofs.YticdmglondpgaaaGreat
open Go.RowKit
set_option linter.unusedVariables false
set_option maxRecDepth 100000
set_option linter.unusedSimpArgs false

attribute [local go_sem] Oper.semAt_some

theorem liv_tree : forestT [[0], [9]] 1 1 9 false 0 [] 1 = [.split [9] 81 (.leaf [0]) (.leaf [1])] := by kernel_rfl
theorem liv_list : queryR [[0], [9]] [.split [9] 81 (.leaf [0]) (.leaf [1])] [8] 1 0 = [(1, 1)] := by kernel_rfl
theorem liv_err : queryE [8] 1 1 1 0 = 0 := by kernel_rfl
theorem rd_alloc1 (w : World) (x : Int) (t : TypeId) : Rd (w.alloc (.cells #[.int .i32 x] t)) .i32 (some ⟨w.heap.size, 0, none⟩) [x] := by
  refine ⟨by simp, fun j hj => ⟨_, rfl, ?_⟩⟩
  have : j = 0 := by simp at hj; omega
  subst this
  have h := heap_alloc_new w (.cells #[.int .i32 x] t)
  show (w.alloc (.cells #[.int .i32 x] t)).cell? ⟨w.heap.size, 0, none⟩ = some (.int .i32 x)
  unfold World.cell?
  rw [h]
  rfl
set_option maxHeartbeats 6400000 in
set_option maxRecDepth 100000 in
theorem lives_calls (w : World) : Calls Tryz.prog 10 #[] w fun e w' => e = .returned (.bool true) ∧ Below w.heap.size w w' := by
  go_enter Tryz.func10, Tryz.ntmps10
  go_wp2_with fail
  refine (INew_calls 1 w (by omega) (by omega)).mono ?_
  rintro e w1 ⟨b, bI, A, c, he, hix, hfr, hb1⟩
  subst he
  have HIX := Lib.hid hix
  have HFR := Lib.hid hfr
  have B1 := Lib.hid hb1
  clear hix hfr hb1
  go_wp2_with fail
  obtain ⟨w2, hw2⟩ : ∃ X, w1.alloc (.cells #[.int .i32 0] 21) = X := ⟨_, rfl⟩
  have hb2 : Below w1.heap.size w1 w2 := by rw [← hw2]; exact below_alloc1 (Below.refl _ _) _
  have hrd : Rd w2 .i32 (some ⟨w1.heap.size, 0, none⟩) [0] := by rw [← hw2]; exact rd_alloc1 _ _ _
  rw [hw2]
  have B2 := Lib.hid (B1.out.trans (hb2.mono B1.out.size))
  refine (IAdd_calls b 1 bI [] A c (some ⟨w1.heap.size, 0, none⟩) 1 [0] w2 (HIX.out.only (S := fun _ => False) (Only.of_below hb2) fun _ _ h => h) hrd (by kernel_rfl) (by simp)).mono ?_
  rintro e w3 ⟨⟨v, he⟩, A2, c2, hix, hon, hnew⟩
  subst he
  have hfr3 : ∀ k, Ix0B b bI ([] ++ [[0]]) A2 c2 k → w.heap.size ≤ k := fun k hk => (hnew k hk).elim (fun h => HFR.out k h) fun h => by have := B2.out.size; omega
  have HIX3 := Lib.hid hix
  have HFR3 := Lib.hid hfr3
  have B3 := Lib.hid (B2.out.trans (hon.below B2.out.size fun k hk h => by have := HFR.out k h; omega))
  clear hw2 hb2 hrd hix hon hnew hfr3 HIX HFR B1 B2
  go_wp2_with fail
  obtain ⟨w4, hw4⟩ : ∃ X, w3.alloc (.cells #[.int .i32 9] 21) = X := ⟨_, rfl⟩
  have hb4 : Below w3.heap.size w3 w4 := by rw [← hw4]; exact below_alloc1 (Below.refl _ _) _
  have hrd : Rd w4 .i32 (some ⟨w3.heap.size, 0, none⟩) [9] := by rw [← hw4]; exact rd_alloc1 _ _ _
  rw [hw4]
  have B4 := Lib.hid (B3.out.trans (hb4.mono B3.out.size))
  refine (IAdd_calls b 1 bI ([] ++ [[0]]) A2 c2 (some ⟨w3.heap.size, 0, none⟩) 1 [9] w4 (HIX3.out.only (S := fun _ => False) (Only.of_below hb4) fun _ _ h => h) hrd (by kernel_rfl) (by simp)).mono ?_
  rintro e w5 ⟨⟨v, he⟩, A3, c3, hix, hon, hnew⟩
  subst he
  have hfr5 : ∀ k, Ix0B b bI ([] ++ [[0]] ++ [[9]]) A3 c3 k → w.heap.size ≤ k := fun k hk => (hnew k hk).elim (fun h => HFR3.out k h) fun h => by have := B4.out.size; omega
  have HIX5 := Lib.hid (show Ix0 w5 b 1 bI [[0], [9]] A3 c3 from hix)
  have hbw : w.heap.size ≤ b := hfr5 b (.inl rfl)
  have B5 := Lib.hid (B4.out.trans (hon.below B4.out.size fun k hk h => by have := HFR3.out k h; omega))
  clear hw4 hb4 hrd hix hon hnew hfr5 HIX3 HFR3 B3 B4
  have h32 : ∀ r ∈ ([[0], [9]] : List (List Int)), R32 r := by
    intro r hr x hx
    simp at hr
    rcases hr with rfl | rfl <;> (simp at hx; omega)
  have hbu := IBuild_calls b 1 bI [[0], [9]] A3 c3 1 1 9 false 0 none 0 [] 0 (.slice none 0 0) w5 HIX5.out
    (fun W hW => Ibuild0_calls b 1 bI [[0], [9]] A3 c3 1 1 9 false 0 none 0 [] (.slice none 0 0) W (HIX5.out.only (S := fun _ => False) (Only.of_below hW) fun _ _ h => h) h32 (by simp) (Rd.nil _ _ _) (by intro x hx; cases hx) (by simp))
  rw [show treeErr ([[0], [9]] : List (List Int)).length 1 1 9 = 0 by kernel_rfl] at hbu
  have HBU := Lib.hid hbu
  clear hbu
  go_wp2_with fail
  refine HBU.out.mono ?_
  rintro e w6 ⟨he, hon, hux⟩
  subst he
  have hux := hux (by first | rfl | trivial)
  have hux2 : IxU w6 b 1 bI [[0], [9]] ((1 : Nat) : Int) ((9 : Nat) : Int) [.split [9] 81 (.leaf [0]) (.leaf [1])] := by rw [← liv_tree]; exact hux
  have HUX := Lib.hid hux2
  have B6 := Lib.hid (B5.out.trans (hon.below B5.out.size fun k hk h => by omega))
  clear hon hux hux2 HBU HIX5 B5
  go_wp2_with fail
  obtain ⟨w7, hw7⟩ : ∃ X, w6.alloc (.cells #[.int .i32 8] 21) = X := ⟨_, rfl⟩
  have hb7 : Below w6.heap.size w6 w7 := by rw [← hw7]; exact below_alloc1 (Below.refl _ _) _
  have hrd : Rd w7 .i32 (some ⟨w6.heap.size, 0, none⟩) [8] := by rw [← hw7]; exact rd_alloc1 _ _ _
  rw [hw7]
  have B7 := Lib.hid (B6.out.trans (hb7.mono B6.out.size))
  have hfg : ForestG [.split [9] 81 (.leaf [0]) (.leaf [1])] ([[0], [9]] : List (List Int)).length 1 1 9 := by
    rw [← liv_tree]
    exact forestG (rows := [[0], [9]]) false 0 [] (by omega) (by omega) (by
      intro r hr
      simp at hr
      rcases hr with rfl | rfl <;> exact ⟨fun x hx => by simp at hx; omega, rfl⟩) (by omega) (by omega) (by omega) (by omega) (by omega) (by simp) (by simp)
  have hqu := Query_calls b 1 bI [[0], [9]] 1 9 [.split [9] 81 (.leaf [0]) (.leaf [1])] (some ⟨w6.heap.size, 0, none⟩) 1 [8] 1 0 w7 (HUX.out.below hb7) hfg h32 hrd (by kernel_rfl) (by simp)
  have hqe : queryE [8] ((1 : Nat) : Int) 1 (([.split [9] 81 (.leaf [0]) (.leaf [1])] : List Tr).length : Int) 0 = 0 := liv_err
  rw [hqe] at hqu
  refine hqu.mono ?_
  rintro e w8 ⟨vO, he, hb8, _, hO⟩
  subst he
  have hO := hO rfl
  rw [liv_list] at hO
  obtain ⟨AO, cO, rfl, _⟩ := hO.shape
  obtain ⟨g, x, rfl, _, hg, hx, hcell, _⟩ := OwnF.at_ twoR_q hO 0 (by simp) (by omega)
  simp at hx
  subst hx
  have o0 : w8.cell? ⟨g, 0, none⟩ = some (.int .i64 1) := by have h := hcell 0 (by omega); simpa [twoR] using h
  have o1 : w8.cell? ⟨g, 1, none⟩ = some (.int .i64 1) := by have h := hcell 1 (by omega); simpa [twoR] using h
  have B8 := Lib.hid (B7.out.trans (hb8.mono B7.out.size))
  clear hw7 hb7 hrd hfg hqu hqe hb8 hO hcell
  go_wp2_with fail
  go_ret
  exact ⟨rfl, B8.out⟩
end Go.Proofs.YticdmglondpgaaaGreat

/-! ## Right: big, right, items. Condition: the arguments read as the lists. -/
namespace Go.Proofs.YticdmglondpgaaaGreat
open Go.RowKit
set_option linter.unusedVariables false
set_option maxRecDepth 100000
set_option linter.unusedSimpArgs false

attribute [local go_sem] Oper.semAt_some

def BigPost (n t m v : Int) (w : World) (e : Ending) (w' : World) : Prop := ∃ bb, e = .returned (.bool bb) ∧ Below w.heap.size w w' ∧ (bb = false → n ≤ 40 ∧ ¬ (6 < t ∧ t ≤ 256) ∧ m ≤ 300 ∧ v ≤ 1100)
set_option maxHeartbeats 3200000 in
theorem big_calls (LA : Option Addr) (lc : Nat) (ls : List (List Int)) (t l d : Int) (sc : Bool) (sd : Int) (DA : Option Addr) (dm dc : Nat) (VA : Option Addr) (vm vc : Nat) (w : World) (hls : Rows w .i32 LA ls) :
    Calls Tryz.prog 30 #[.slice LA ls.length lc, .agg #[.int .i64 t, .int .i64 l, .int .i64 d, .bool sc, .int .u64 sd, .slice DA dm dc], .slice VA vm vc] w (BigPost ls.length t dm vm w) := by
  have HF := Lib.hid (fun W h => Few_calls LA lc ls W (hls.below (w1 := W) h))
  obtain ⟨n, hn⟩ : ∃ n, ls.length = n := ⟨_, rfl⟩
  rw [hn] at HF ⊢
  clear hls hn
  go_enter Tryz.func30, Tryz.ntmps30
  go_wp2_with fail
  obtain ⟨w1, AW⟩ : ∃ W, w.alloc (.cells #[.int .i64 t, .int .i64 l, .int .i64 d, .bool sc, .int .u64 sd, .slice DA dm dc] 28) = W := ⟨_, rfl⟩
  have Ab : Below w.heap.size w w1 := by rw [← AW]; exact below_alloc1 (Below.refl _ _) _
  have Ax : w1.heap[w.heap.size]? = some (.cells #[.int .i64 t, .int .i64 l, .int .i64 d, .bool sc, .int .u64 sd, .slice DA dm dc] 28 (0, 0)) := by rw [← AW]; exact heap_alloc_new _ _
  rw [AW]
  clear AW
  refine (HF.out w1 Ab).mono ?_
  rintro e w2 ⟨bf, he, _, hw⟩
  subst he hw
  have p0 : w1.cell? ⟨w.heap.size, 0, none⟩ = some (.int .i64 t) := by simp [World.cell?, Ax]
  have p5 : w1.cell? ⟨w.heap.size, 5, none⟩ = some (.slice DA dm dc) := by simp [World.cell?, Ax]
  have AB := Lib.hid Ab
  clear Ab Ax HF
  by_cases hb : bf = false
  · subst hb
    go_wp2_with fail
    go_ret
    exact ⟨_, rfl, AB.out, fun h => absurd h (by simp)⟩
  obtain rfl : bf = true := by cases bf <;> simp at hb ⊢
  clear hb
  by_cases h1 : (40 : Int) < n
  · have h1' : decide ((40 : Int) < (n : Int)) = true := decide_eq_true h1
    go_wp2_with fail
    go_ret
    exact ⟨_, rfl, AB.out, fun h => absurd h (by simp)⟩
  have h1' : decide ((40 : Int) < (n : Int)) = false := decide_eq_false h1
  by_cases h2 : 6 < t ∧ t ≤ 256
  · have h2' : decide (6 < t) = true := decide_eq_true h2.1
    have h3' : decide (t ≤ 256) = true := decide_eq_true h2.2
    go_wp2_with fail
    go_ret
    exact ⟨_, rfl, AB.out, fun h => absurd h (by simp)⟩
  have key : decide (6 < t) = false ∨ (decide (6 < t) = true ∧ decide (t ≤ 256) = false) := by
    by_cases h : 6 < t
    · exact .inr ⟨decide_eq_true h, decide_eq_false fun h' => h2 ⟨h, h'⟩⟩
    · exact .inl (decide_eq_false h)
  by_cases h4 : (300 : Int) < dm
  · have h4' : decide ((300 : Int) < (dm : Int)) = true := decide_eq_true h4
    rcases key with k1 | ⟨k1, k2⟩
    all_goals
      go_wp2_with fail
      go_ret
      exact ⟨_, rfl, AB.out, fun h => absurd h (by simp)⟩
  have h4' : decide ((300 : Int) < (dm : Int)) = false := decide_eq_false h4
  by_cases h5 : (1100 : Int) < vm
  · have h5' : decide ((1100 : Int) < (vm : Int)) = true := decide_eq_true h5
    rcases key with k1 | ⟨k1, k2⟩
    all_goals
      go_wp2_with fail
      go_ret
      exact ⟨_, rfl, AB.out, fun h => absurd h (by simp)⟩
  have h5' : decide ((1100 : Int) < (vm : Int)) = false := decide_eq_false h5
  rcases key with k1 | ⟨k1, k2⟩
  all_goals
    go_wp2_with fail
    go_ret
    exact ⟨_, rfl, AB.out, fun _ => ⟨by omega, h2, by omega, by omega⟩⟩
theorem R20_calls (LA : Option Addr) (n lc : Nat) (t l d : Int) (sc : Bool) (sd : Int) (DA : Option Addr) (dm dc : Nat) (w : World) :
    Calls Tryz.prog 43 #[.slice LA n lc, .agg #[.int .i64 t, .int .i64 l, .int .i64 d, .bool sc, .int .u64 sd, .slice DA dm dc]] w fun e w' => e = .returned (.int .i64 (treeErr n t l d)) ∧ Below w.heap.size w w' := by
  obtain ⟨f, hf⟩ : ∃ f, growErr t l d = f := ⟨_, rfl⟩
  have HF := Lib.hid hf
  clear hf
  go_enter Tryz.func43, Tryz.ntmps43
  go_wp2_with fail
  obtain ⟨w1, AW⟩ : ∃ W, w.alloc (.cells #[.int .i64 t, .int .i64 l, .int .i64 d, .bool sc, .int .u64 sd, .slice DA dm dc] 28) = W := ⟨_, rfl⟩
  have Ab : Below w.heap.size w w1 := by rw [← AW]; exact below_alloc1 (Below.refl _ _) _
  have Ax : w1.heap[w.heap.size]? = some (.cells #[.int .i64 t, .int .i64 l, .int .i64 d, .bool sc, .int .u64 sd, .slice DA dm dc] 28 (0, 0)) := by rw [← AW]; exact heap_alloc_new _ _
  rw [AW]
  clear AW
  refine (RCheck_calls t l d sc sd DA dm dc w1).mono ?_
  rintro e w2 ⟨he, hb2⟩
  rw [HF.out] at he
  subst he
  have AB2 := Lib.hid (Ab.trans (hb2.mono Ab.size))
  clear Ab Ax hb2
  by_cases hfz : f = 0
  · subst hfz
    by_cases hn : n = 0
    · subst hn
      go_wp2_with fail
      go_ret
      exact ⟨by unfold treeErr; rw [if_neg (by rw [HF.out]; simp), if_pos rfl]; rfl, AB2.out⟩
    · have hz : ((n : Int) == 0) = false := by simp; omega
      have hz2 : ¬ (n : Int) = 0 := by omega
      go_wp2_with fail
      go_ret
      exact ⟨by unfold treeErr; rw [if_neg (by rw [HF.out]; simp), if_neg hn]; rfl, AB2.out⟩
  · have hfz' : (f != 0) = true := by simp [hfz]
    go_wp2_with fail
    go_ret
    exact ⟨by unfold treeErr; rw [HF.out, if_pos hfz]; rfl, AB2.out⟩
/-- What right says. -/
structure RightOk (dim : Int) (ls : List (List Int)) (t l d : Int) (m : Nat) (ys : List Int) : Prop where
  n40 : ls.length ≤ 40
  t6 : ¬ (6 < t ∧ t ≤ 256)
  m300 : m ≤ 300
  chk : chkV dim ls = 0
  err : treeErr ls.length t l d = 0
  chk1 : chkV dim [ys] = 0
def RightPost (dim : Int) (ls : List (List Int)) (t l d : Int) (m : Nat) (ys : List Int) (w : World) (e : Ending) (w' : World) : Prop := ∃ bb, e = .returned (.bool bb) ∧ Below w.heap.size w w' ∧ (bb = true → RightOk dim ls t l d m ys)
theorem rows_one (w : World) (VA : Option Addr) (vc : Nat) (ys : List Int) (ty : TypeId) (hV : Rd w .i32 VA ys) (hvc : ys.length ≤ vc) : Rows (w.alloc (.cells #[.slice VA ys.length vc] ty)) .i32 (some ⟨w.heap.size, 0, none⟩) [ys] := by
  refine ⟨by simp, fun j hj => ?_⟩
  obtain rfl : j = 0 := by simp at hj; omega
  refine ⟨_, VA, vc, rfl, ?_, hvc, hV.below ((Below.refl _ _).alloc (Nat.le_refl _) _)⟩
  have h := heap_alloc_new w (.cells #[.slice VA ys.length vc] ty)
  show (w.alloc (.cells #[.slice VA ys.length vc] ty)).cell? ⟨w.heap.size, 0, none⟩ = some (.slice VA ys.length vc)
  unfold World.cell?
  rw [h]
  rfl
set_option maxHeartbeats 3200000 in
theorem right_calls (dim : Int) (LA : Option Addr) (lc : Nat) (ls : List (List Int)) (t l d : Int) (sc : Bool) (sd : Int) (DA : Option Addr) (dm dc : Nat) (VA : Option Addr) (vc : Nat) (ys : List Int) (w : World) (hls : Rows w .i32 LA ls) (hV : Rd w .i32 VA ys) (hvc : ys.length ≤ vc) :
    Calls Tryz.prog 11 #[.int .i64 dim, .slice LA ls.length lc, .agg #[.int .i64 t, .int .i64 l, .int .i64 d, .bool sc, .int .u64 sd, .slice DA dm dc], .slice VA ys.length vc] w (RightPost dim ls t l d dm ys w) := by
  have HB := Lib.hid (fun W h => big_calls LA lc ls t l d sc sd DA dm dc VA ys.length vc W (hls.below (w1 := W) h))
  have HK := Lib.hid (fun W (h : Below w.heap.size w W) (hn : ls.length ≤ 1000) => refCheckL_calls dim LA lc ls W (hls.below h) hn)
  have HR := Lib.hid (fun W => R20_calls LA ls.length lc t l d sc sd DA dm dc W)
  have HV := Lib.hid hV
  have HV1 := Lib.hid (fun W (h : Below w.heap.size w W) => refCheckL_calls dim (some ⟨W.heap.size, 0, none⟩) 1 [ys] _ (rows_one W VA vc ys 29 (hV.below h) hvc) (by simp))
  obtain ⟨n, hn⟩ : ∃ n, ls.length = n := ⟨_, rfl⟩
  obtain ⟨m, hm⟩ : ∃ m, ys.length = m := ⟨_, rfl⟩
  obtain ⟨E1, hE1⟩ : ∃ E, chkV dim ls = E := ⟨_, rfl⟩
  obtain ⟨E2, hE2⟩ : ∃ E, treeErr n t l d = E := ⟨_, rfl⟩
  obtain ⟨E3, hE3⟩ : ∃ E, chkV dim [ys] = E := ⟨_, rfl⟩
  rw [hn, hm] at HB
  rw [hn, hE1] at HK
  rw [hn, hE2] at HR
  rw [hm, hE3] at HV1
  have HN := Lib.hid hn
  have HE1 := Lib.hid hE1
  have HE2 := Lib.hid hE2
  have HE3 := Lib.hid hE3
  rw [hn, hm]
  clear hls hV hn hm hE1 hE2 hE3
  go_enter Tryz.func11, Tryz.ntmps11
  go_wp2_with fail
  obtain ⟨w1, AW⟩ : ∃ W, w.alloc (.cells #[.int .i64 t, .int .i64 l, .int .i64 d, .bool sc, .int .u64 sd, .slice DA dm dc] 28) = W := ⟨_, rfl⟩
  have Ab : Below w.heap.size w w1 := by rw [← AW]; exact below_alloc1 (Below.refl _ _) _
  have Ax : w1.heap[w.heap.size]? = some (.cells #[.int .i64 t, .int .i64 l, .int .i64 d, .bool sc, .int .u64 sd, .slice DA dm dc] 28 (0, 0)) := by rw [← AW]; exact heap_alloc_new _ _
  rw [AW]
  clear AW
  refine (HB.out w1 Ab).mono ?_
  rintro e w2 ⟨bb, he, hb2, hok⟩
  subst he
  have AB2 := Lib.hid (Ab.trans (hb2.mono Ab.size))
  have hx2 := obj_below hb2 Ax (obj_lt Ax)
  have HX := Lib.hid hx2
  have HOK := Lib.hid hok
  clear Ab Ax hb2 hok hx2
  cases bb with
  | true =>
    go_wp2_with fail
    go_ret
    exact ⟨_, rfl, AB2.out, fun h => absurd h (by simp)⟩
  | false =>
    obtain ⟨hn40, ht6, hm3, hv1⟩ := HOK.out rfl
    go_wp2_with fail
    refine (HK.out w2 AB2.out (by have := HN.out; omega)).mono ?_
    rintro e w3 ⟨he, hw⟩
    subst he hw
    by_cases h1 : E1 = 0
    case neg =>
      have h1' : (E1 == 0) = false := by simp [h1]
      go_wp2_with fail
      go_ret
      exact ⟨_, rfl, AB2.out, fun h => absurd h (by simp)⟩
    subst h1
    have p := HX.out
    have p0 : w2.cell? ⟨w.heap.size, 0, none⟩ = some (.int .i64 t) := by simp [World.cell?, p]
    have p1 : w2.cell? ⟨w.heap.size, 1, none⟩ = some (.int .i64 l) := by simp [World.cell?, p]
    have p2 : w2.cell? ⟨w.heap.size, 2, none⟩ = some (.int .i64 d) := by simp [World.cell?, p]
    have p3 : w2.cell? ⟨w.heap.size, 3, none⟩ = some (.bool sc) := by simp [World.cell?, p]
    have p4 : w2.cell? ⟨w.heap.size, 4, none⟩ = some (.int .u64 sd) := by simp [World.cell?, p]
    have p5 : w2.cell? ⟨w.heap.size, 5, none⟩ = some (.slice DA dm dc) := by simp [World.cell?, p]
    clear p
    go_wp2_with fail
    refine (HR.out w2).mono ?_
    rintro e w3 ⟨he, hb3⟩
    subst he
    have AB3 := Lib.hid (AB2.out.trans (hb3.mono AB2.out.size))
    clear hb3 p0 p1 p2 p3 p4 p5
    by_cases h2 : E2 = 0
    case neg =>
      have h2' : (E2 == 0) = false := by simp [h2]
      go_wp2_with fail
      go_ret
      exact ⟨_, rfl, AB3.out, fun h => absurd h (by simp)⟩
    subst h2
    go_wp2_with fail
    refine (HV1.out w3 AB3.out).mono ?_
    rintro e w4 ⟨he, hw⟩
    subst he hw
    by_cases h3 : E3 = 0
    case neg =>
      have h3' : (E3 == 0) = false := by simp [h3]
      go_wp2_with fail
      go_ret
      exact ⟨_, rfl, AB3.out.trans ((below_alloc1 (Below.refl _ _) _).mono AB3.out.size), fun h => absurd h (by simp)⟩
    subst h3
    go_wp2_with fail
    go_ret
    exact ⟨_, rfl, AB3.out.trans ((below_alloc1 (Below.refl _ _) _).mono AB3.out.size), fun _ => ⟨by have := HN.out; omega, ht6, by omega, HE1.out, by rw [HN.out]; exact HE2.out, HE3.out⟩⟩
theorem items_calls (dim : Int) (LA : Option Addr) (lc : Nat) (ls : List (List Int)) (w : World) (hls : Rows w .i32 LA ls) (hl : ls.length ≤ 1000) :
    Calls Tryz.prog 13 #[.int .i64 dim, .slice LA ls.length lc] w fun e w' => ∃ v, e = .returned (.pointer v) ∧ Below w.heap.size w w' ∧ (chkV dim ls ≠ 0 → v = none) ∧ (chkV dim ls = 0 → ∃ b, v = some ⟨b, 0, none⟩ ∧ w.heap.size ≤ b ∧ It w' b dim.toNat ls) := by
  have HO := Lib.hid (Of_calls dim LA lc ls w hls hl)
  obtain ⟨n, hn⟩ : ∃ n, ls.length = n := ⟨_, rfl⟩
  rw [hn] at HO ⊢
  clear hls hn
  go_enter Tryz.func13, Tryz.ntmps13
  go_wp2_with fail
  refine HO.out.mono ?_
  rintro e w1 ⟨v, f, he, hf, hbad, hgood, hb⟩
  subst he
  have HB := Lib.hid hb
  have HF := Lib.hid hf
  have HBAD := Lib.hid hbad
  have HGOOD := Lib.hid hgood
  clear hb hf hbad hgood
  by_cases hz : f = 0
  · subst hz
    obtain ⟨b, rfl, hwb, hit⟩ := HGOOD.out rfl
    have HIT := Lib.hid hit
    clear hit
    go_wp2_with fail
    go_ret
    exact ⟨_, rfl, HB.out, fun h => absurd HF.out h, fun _ => ⟨b, rfl, hwb, HIT.out⟩⟩
  · obtain rfl := HBAD.out hz
    have hz' : (f != 0) = true := by simp [hz]
    go_wp2_with fail
    go_ret
    exact ⟨_, rfl, HB.out, fun _ => rfl, fun h => absurd (HF.out.symm.trans h) hz⟩
end Go.Proofs.YticdmglondpgaaaGreat
