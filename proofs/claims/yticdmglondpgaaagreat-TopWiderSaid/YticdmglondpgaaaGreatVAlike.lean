/-
  alike: two indexes answer alike. Condition: their forests are of the same shape, and what they answer is the same.
-/
import Derived.Deep.RegionHeld3
import Derived.Test.YticdmglondpgaaaGreatVRef4R
import Derived.Test.YticdmglondpgaaaGreatVStanding
import Derived.Test.YticdmglondpgaaaGreatVStats

namespace Go.Proofs.YticdmglondpgaaaGreat
open Go.RowKit
set_option linter.unusedVariables false
set_option maxRecDepth 100000
set_option linter.unusedSimpArgs false

attribute [local go_sem] Oper.semAt_some

/-- What alike asks of one index. -/
structure AlkC (D : Nat) (rows : List (List Int)) (ts : List Tr) (lf dp : Nat) (ys : List Int) (k limit E : Int) (X : List (Int × Int)) (nn nl nd : Nat) : Prop where
  g : ForestG ts rows.length D lf dp
  r32 : ∀ r ∈ rows, R32 r
  cv : checkV ys D = 0
  t16 : ts.length ≤ 16
  e : queryE ys D k ts.length limit = E
  x : E = 0 → queryR rows ts ys k limit = X
  x0 : E ≠ 0 → X = []
  n : statN ts = nn
  l : statL ts = nl
  d : statD ts = nd
theorem AlkC.query {D : Nat} {rows : List (List Int)} {ts : List Tr} {lf dp : Nat} {ys : List Int} {k limit E : Int} {X : List (Int × Int)} {nn nl nd : Nat} (h : AlkC D rows ts lf dp ys k limit E X nn nl nd) (b bI : Nat) (VA : Option Addr) (vc : Nat) (w : World) (hx : IxU w b D bI rows lf dp ts) (hV : Rd w .i32 VA ys) :
    Calls Tryz.prog 15 #[.pointer (some ⟨b, 0, none⟩), .slice VA ys.length vc, .int .i64 k, .int .i64 limit] w fun e w' => ∃ A c, e = .returned (.tuple #[.slice A X.length c, .int .i64 E]) ∧ Below w.heap.size w w' ∧ RdP w' .i64 .i64 A X := by
  refine (Query_calls b D bI rows lf dp ts VA vc ys k limit w hx h.g h.r32 hV h.cv h.t16).mono ?_
  rintro e w1 ⟨vO, he, hb, h0, h1⟩
  rw [h.e] at he h0 h1
  by_cases hz : E = 0
  · have hO := h1 hz
    rw [h.x hz] at hO
    obtain ⟨A, c, rfl, _⟩ := hO.shape
    exact ⟨A, c, he, hb, hO.rdp rfl⟩
  · obtain rfl := h0 hz
    rw [h.x0 hz]
    exact ⟨none, 0, he, hb, RdP.nil _ _ _ _⟩
theorem AlkC.stats {D : Nat} {rows : List (List Int)} {ts : List Tr} {lf dp : Nat} {ys : List Int} {k limit E : Int} {X : List (Int × Int)} {nn nl nd : Nat} (h : AlkC D rows ts lf dp ys k limit E X nn nl nd) (b bI : Nat) (w : World) (hx : IxU w b D bI rows lf dp ts) :
    Calls Tryz.prog 80 #[.pointer (some ⟨b, 0, none⟩)] w fun e w' => ∃ n q z, e = .returned (.agg #[.int .i64 n, .int .i64 D, .int .i64 q, .int .i64 nn, .int .i64 nl, .int .i64 nd, .int .i64 z]) ∧ Below w.heap.size w w' := by
  refine (Stats_calls b D bI rows lf dp ts w hx h.g).mono ?_
  rintro e w1 ⟨z, he, hb⟩
  rw [h.n, h.l, h.d] at he
  exact ⟨_, _, z, he, hb⟩
set_option maxHeartbeats 6400000 in
set_option maxRecDepth 100000 in
theorem alike_calls (D D2 : Nat) (LA : Option Addr) (lc : Nat) (MA : Option Addr) (mc : Nat) (ls ms : List (List Int)) (t l d : Int) (sc : Bool) (sd : Int) (DA : Option Addr) (dc : Nat) (ds : List Int) (VA : Option Addr) (vc : Nat) (ys : List Int) (WA : Option Addr) (wc : Nat) (zs : List Int) (k limit E : Int) (X : List (Int × Int)) (nn nl nd : Nat) (w : World)
    (hls : Rows w .i32 LA ls) (hms : Rows w .i32 MA ms) (hc1 : chkV D ls = 0) (hc2 : chkV D2 ms = 0) (ht : treeErr ls.length t l d = 0) (hml : ms.length = ls.length) (hn : ls.length ≤ 400) (hD : Rd w .u64 DA ds) (hu : U64 ds) (hdl : ds.length ≤ 1000000) (hV : Rd w .i32 VA ys) (hW : Rd w .i32 WA zs)
    (ha1 : AlkC D ls (forestT ls D l.toNat d.toNat sc sd ds t.toNat) l.toNat d.toNat ys k limit E X nn nl nd) (ha2 : AlkC D2 ms (forestT ms D2 l.toNat d.toNat sc sd ds t.toNat) l.toNat d.toNat zs k limit E X nn nl nd) :
    Calls Tryz.prog 35 #[.int .i64 D, .int .i64 D2, .slice LA ls.length lc, .slice MA ms.length mc, .agg #[.int .i64 t, .int .i64 l, .int .i64 d, .bool sc, .int .u64 sd, .slice DA ds.length dc], .slice VA ys.length vc, .slice WA zs.length wc, .int .i64 k, .int .i64 limit] w fun e w' => e = .returned (.bool true) ∧ Below w.heap.size w w' := by
  obtain ⟨hl1, _, hd1, _, ht1, _, hn1⟩ := treeErr_zero ht
  obtain ⟨l, rfl⟩ : ∃ q : Nat, l = (q : Int) := ⟨l.toNat, by omega⟩
  obtain ⟨d, rfl⟩ : ∃ q : Nat, d = (q : Int) := ⟨d.toNat, by omega⟩
  have HS1 := Lib.hid (fun W (h : Below w.heap.size w W) => standing_calls D LA lc ls t l d sc sd DA dc ds 0 (.slice none 0 0) W (hls.below h) hc1 ht (by omega) (fun W' b bI A c hb hix => Ibuild0_calls b D bI ls A c t l d sc sd DA dc ds (.slice none 0 0) W' hix ha1.r32 hn ((hD.below h).below hb) hu hdl))
  have HS2 := Lib.hid (fun W (h : Below w.heap.size w W) => standing_calls D2 MA mc ms t l d sc sd DA dc ds 0 (.slice none 0 0) W (hms.below h) hc2 (by rw [hml]; exact ht) (by omega) (fun W' b bI A c hb hix => Ibuild0_calls b D2 bI ms A c t l d sc sd DA dc ds (.slice none 0 0) W' hix ha2.r32 (by omega) ((hD.below h).below hb) hu hdl))
  have HA1 := Lib.hid ha1
  have HA2 := Lib.hid ha2
  have HV := Lib.hid hV
  have HW := Lib.hid hW
  simp only [Int.toNat_natCast] at HA1 HA2
  obtain ⟨m, hm⟩ : ∃ m, ds.length = m := ⟨_, rfl⟩
  obtain ⟨n1, hn1⟩ : ∃ m, ls.length = m := ⟨_, rfl⟩
  obtain ⟨n2, hn2⟩ : ∃ m, ms.length = m := ⟨_, rfl⟩
  obtain ⟨v1, hv1⟩ : ∃ m, ys.length = m := ⟨_, rfl⟩
  obtain ⟨v2, hv2⟩ : ∃ m, zs.length = m := ⟨_, rfl⟩
  have hq1 := fun (b bI : Nat) W h1 h2 => ha1.query b bI VA vc W h1 h2
  have hq2 := fun (b bI : Nat) W h1 h2 => ha2.query b bI WA wc W h1 h2
  have hsA := fun (b bI : Nat) W h1 => ha1.stats b bI W h1
  have hsB := fun (b bI : Nat) W h1 => ha2.stats b bI W h1
  obtain ⟨G1, hG1⟩ : ∃ G, forestT ls D ((l : Int).toNat) ((d : Int).toNat) sc sd ds t.toNat = G := ⟨_, rfl⟩
  obtain ⟨G2, hG2⟩ : ∃ G, forestT ms D2 ((l : Int).toNat) ((d : Int).toNat) sc sd ds t.toNat = G := ⟨_, rfl⟩
  unfold StandPost at HS1 HS2
  rw [hG1] at HS1 hq1 hsA
  rw [hG2] at HS2 hq2 hsB
  simp only [Int.toNat_natCast] at hq1 hq2 hsA hsB
  rw [hm, hn1] at HS1
  rw [hm, hn2] at HS2
  rw [hv1] at hq1
  rw [hv2] at hq2
  obtain ⟨xl, hxl⟩ : ∃ m, X.length = m := ⟨_, rfl⟩
  have HSM := Lib.hid (fun (A B : Option Addr) (c d : Nat) W h1 h2 => SameR_calls A B c d X X W h1 h2)
  rw [hxl] at hq1 hq2 HSM
  have HQ1 := Lib.hid hq1
  have HQ2 := Lib.hid hq2
  have HSA := Lib.hid hsA
  have HSB := Lib.hid hsB
  rw [hm, hn1, hn2, hv1, hv2]
  clear hls hms hc1 hc2 ht hml hn hD hu hdl hV hW ha1 ha2 hm hn1 hn2 hv1 hv2 hq1 hq2 hsA hsB hG1 hG2 HA1 HA2 hxl hl1 hd1 ht1
  go_enter Tryz.func35, Tryz.ntmps35
  go_wp2_with fail
  obtain ⟨w1, AW⟩ : ∃ W, w.alloc (.cells #[.int .i64 t, .int .i64 l, .int .i64 d, .bool sc, .int .u64 sd, .slice DA m dc] 28) = W := ⟨_, rfl⟩
  have Ab : Below w.heap.size w w1 := by rw [← AW]; exact below_alloc1 (Below.refl _ _) _
  have Ax : w1.heap[w.heap.size]? = some (.cells #[.int .i64 t, .int .i64 l, .int .i64 d, .bool sc, .int .u64 sd, .slice DA m dc] 28 (0, 0)) := by rw [← AW]; exact heap_alloc_new _ _
  rw [AW]
  clear AW
  have lb := obj_lt Ax
  have p0 : w1.cell? ⟨w.heap.size, 0, none⟩ = some (.int .i64 t) := by simp [World.cell?, Ax]
  have p1 : w1.cell? ⟨w.heap.size, 1, none⟩ = some (.int .i64 l) := by simp [World.cell?, Ax]
  have p2 : w1.cell? ⟨w.heap.size, 2, none⟩ = some (.int .i64 d) := by simp [World.cell?, Ax]
  have p3 : w1.cell? ⟨w.heap.size, 3, none⟩ = some (.bool sc) := by simp [World.cell?, Ax]
  have p4 : w1.cell? ⟨w.heap.size, 4, none⟩ = some (.int .u64 sd) := by simp [World.cell?, Ax]
  have p5 : w1.cell? ⟨w.heap.size, 5, none⟩ = some (.slice DA m dc) := by simp [World.cell?, Ax]
  have AB := Lib.hid Ab
  have KP := Lib.hid (fun W (hBx : Below w1.heap.size w1 W) => (show W.cell? ⟨w.heap.size, 0, none⟩ = some (.int .i64 t) ∧ W.cell? ⟨w.heap.size, 1, none⟩ = some (.int .i64 l) ∧ W.cell? ⟨w.heap.size, 2, none⟩ = some (.int .i64 d) ∧ W.cell? ⟨w.heap.size, 3, none⟩ = some (.bool sc) ∧ W.cell? ⟨w.heap.size, 4, none⟩ = some (.int .u64 sd) ∧ W.cell? ⟨w.heap.size, 5, none⟩ = some (.slice DA m dc) ∧ Below w1.heap.size w1 W from ⟨cell_below hBx p0 lb, cell_below hBx p1 lb, cell_below hBx p2 lb, cell_below hBx p3 lb, cell_below hBx p4 lb, cell_below hBx p5 lb, hBx⟩))
  have hself : Below w1.heap.size w1 w1 := Below.refl _ _
  clear Ab Ax
  go_region_held3 (fun w' => w'.cell? ⟨w.heap.size, 0, none⟩ = some (.int .i64 t) ∧ w'.cell? ⟨w.heap.size, 1, none⟩ = some (.int .i64 l) ∧ w'.cell? ⟨w.heap.size, 2, none⟩ = some (.int .i64 d) ∧ w'.cell? ⟨w.heap.size, 3, none⟩ = some (.bool sc) ∧ w'.cell? ⟨w.heap.size, 4, none⟩ = some (.int .u64 sd) ∧ w'.cell? ⟨w.heap.size, 5, none⟩ = some (.slice DA m dc) ∧ Below w1.heap.size w1 w')
    (first | exact KP.out _ (by first | ((repeat (first | assumption | exact Below.refl _ _ | apply below_drew1 | apply below_alloc1)); done)) | go_keep)
    (first
      | (go_at_call 12; go_split_ands; (with_reducible refine Calls.mono (HS1.out _ (AB.out.trans (Below.mono (B := w1.heap.size) (by first | ((repeat (first | assumption | exact Below.refl _ _ | apply below_drew1 | apply below_alloc1)); done)) AB.out.size))) ?_); rintro e wz ⟨b1, bI1, he, hlb1, hux1, hb1⟩; subst he; have hBa : Below w1.heap.size w1 wz := Below.after (by first | ((repeat (first | assumption | exact Below.refl _ _ | apply below_drew1 | apply below_alloc1)); done)) hb1)
      | (go_at_call 12; go_split_ands; (with_reducible refine Calls.mono (HS2.out _ (AB.out.trans (Below.mono (B := w1.heap.size) (by first | ((repeat (first | assumption | exact Below.refl _ _ | apply below_drew1 | apply below_alloc1)); done)) AB.out.size))) ?_); rintro e wz ⟨b2, bI2, he, hlb2, hux2, hb2⟩; subst he; have hBb : Below w1.heap.size w1 wz := Below.after (by first | ((repeat (first | assumption | exact Below.refl _ _ | apply below_drew1 | apply below_alloc1)); done)) hb2))
  all_goals
    have u1 : IxU wz b1 D bI1 ls ((l : Nat) : Int) ((d : Nat) : Int) G1 := by first | exact hux1 | exact hux1.below hb2
    have u2 : IxU wz b2 D2 bI2 ms ((l : Nat) : Int) ((d : Nat) : Int) G2 := by first | exact hux2 | exact hux2.below hb1
    have bf : Below w.heap.size w wz := by first | exact AB.out.trans (hBb.mono AB.out.size) | exact AB.out.trans (hBa.mono AB.out.size)
    have U1 := Lib.hid u1
    have U2 := Lib.hid u2
    have BF := Lib.hid bf
    have hse : ∀ x : Int, (x == x) = true := fun x => by simp
    clear u1 u2 bf hux1 hux2 hb1 hb2 hBa hBb HS1 HS2 hlb1 hlb2 KP p0 p1 p2 p3 p4 p5
    go_wp2_with fail
    refine (HQ1.out b1 bI1 wz U1.out (HV.out.below BF.out)).mono ?_
    rintro e w3 ⟨A1, c1, he, hb3, hr1⟩
    subst he
    have U13 := Lib.hid (U1.out.below hb3)
    have U23 := Lib.hid (U2.out.below hb3)
    have B3 := Lib.hid (BF.out.trans (hb3.mono BF.out.size))
    have R13 := Lib.hid hr1
    clear hb3 hr1
    go_wp2_with fail
    refine (HQ2.out b2 bI2 w3 U23.out (HW.out.below B3.out)).mono ?_
    rintro e w4 ⟨A2, c2, he, hb4, hr2⟩
    subst he
    have U14 := Lib.hid (U13.out.below hb4)
    have U24 := Lib.hid (U23.out.below hb4)
    have B4 := Lib.hid (B3.out.trans (hb4.mono B3.out.size))
    have R14 := Lib.hid (R13.out.below hb4)
    have R24 := Lib.hid hr2
    clear hb4 hr2
    go_wp2_with fail
    refine (HSA.out b1 bI1 w4 U14.out).mono ?_
    rintro e w5 ⟨s1, s2, s3, he, hb5⟩
    subst he
    have U25 := Lib.hid (U24.out.below hb5)
    have B5 := Lib.hid (B4.out.trans (hb5.mono B4.out.size))
    have R15 := Lib.hid (R14.out.below hb5)
    have R25 := Lib.hid (R24.out.below hb5)
    clear hb5
    go_wp2_with fail
    refine (HSB.out b2 bI2 w5 U25.out).mono ?_
    rintro e w6 ⟨r1, r2, r3, he, hb6⟩
    subst he
    have B6 := Lib.hid (B5.out.trans (hb6.mono B5.out.size))
    have R16 := Lib.hid (R15.out.below hb6)
    have R26 := Lib.hid (R25.out.below hb6)
    clear hb6
    go_wp2_with fail
    obtain ⟨w7, hw7⟩ : ∃ X, (w6.alloc (.cells #[.int .i64 s1, .int .i64 D, .int .i64 s2, .int .i64 nn, .int .i64 nl, .int .i64 nd, .int .i64 s3] 158)).alloc (.cells #[.int .i64 r1, .int .i64 D2, .int .i64 r2, .int .i64 nn, .int .i64 nl, .int .i64 nd, .int .i64 r3] 158) = X := ⟨_, rfl⟩
    have hb7 : Below w6.heap.size w6 w7 := by rw [← hw7]; exact below_alloc1 (below_alloc1 (Below.refl _ _) _) _
    have y1 : w7.heap[w6.heap.size]? = some (.cells #[.int .i64 s1, .int .i64 D, .int .i64 s2, .int .i64 nn, .int .i64 nl, .int .i64 nd, .int .i64 s3] 158 (0, 0)) := by
      rw [← hw7]; exact obj_below (B := w6.heap.size + 1) ((Below.refl _ _).alloc (by simp) _) (heap_alloc_new w6 _) (by omega)
    have y2 : w7.heap[w6.heap.size + 1]? = some (.cells #[.int .i64 r1, .int .i64 D2, .int .i64 r2, .int .i64 nn, .int .i64 nl, .int .i64 nd, .int .i64 r3] 158 (0, 0)) := by
      have h := heap_alloc_new (w6.alloc (.cells #[.int .i64 s1, .int .i64 D, .int .i64 s2, .int .i64 nn, .int .i64 nl, .int .i64 nd, .int .i64 s3] 158)) (.cells #[.int .i64 r1, .int .i64 D2, .int .i64 r2, .int .i64 nn, .int .i64 nl, .int .i64 nd, .int .i64 r3] 158)
      rw [World.size_alloc] at h
      rw [← hw7]; exact h
    rw [hw7]
    refine (HSM.out A1 A2 c1 c2 w7 (R16.out.below hb7) (R26.out.below hb7)).mono ?_
    rintro e w8 ⟨he, q, hq⟩
    subst he
    have hb8 : Below w7.heap.size w7 w8 := by rw [hq]; exact below_drewN_self _ _
    have z1 := obj_below hb8 y1 (obj_lt y1)
    have z2 := obj_below hb8 y2 (obj_lt y2)
    obtain ⟨g1, hg1⟩ : ∃ x, w6.heap.size = x := ⟨_, rfl⟩
    obtain ⟨g2, hg2⟩ : ∃ x, w6.heap.size + 1 = x := ⟨_, rfl⟩
    have B8 := Lib.hid (B6.out.trans ((hb7.trans (hb8.mono hb7.size)).mono B6.out.size))
    rw [hg2] at z2 ⊢
    rw [hg1] at z1 ⊢
    have a3 : w8.cell? ⟨g1, 3, none⟩ = some (.int .i64 nn) := by simp [World.cell?, z1]
    have a4 : w8.cell? ⟨g1, 4, none⟩ = some (.int .i64 nl) := by simp [World.cell?, z1]
    have a5 : w8.cell? ⟨g1, 5, none⟩ = some (.int .i64 nd) := by simp [World.cell?, z1]
    have e3 : w8.cell? ⟨g2, 3, none⟩ = some (.int .i64 nn) := by simp [World.cell?, z2]
    have e4 : w8.cell? ⟨g2, 4, none⟩ = some (.int .i64 nl) := by simp [World.cell?, z2]
    have e5 : w8.cell? ⟨g2, 5, none⟩ = some (.int .i64 nd) := by simp [World.cell?, z2]
    clear hw7 hb7 y1 y2 hq hb8 z1 z2 hg1 hg2
    go_wp2_with fail
    go_ret
    exact ⟨rfl, B8.out⟩
end Go.Proofs.YticdmglondpgaaaGreat
