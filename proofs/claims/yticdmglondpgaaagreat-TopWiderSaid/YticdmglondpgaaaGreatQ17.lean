/-
  Texts on the program, part 17: Shape4, Shape5, Shape6, Marks2.
-/
import Derived.Shelf.Abstract
import Derived.Test.YticdmglondpgaaaGreatQ03
import Derived.Test.YticdmglondpgaaaGreatQ15
import Derived.Test.YticdmglondpgaaaGreatQ16

/-! ## Shape4: marks.Covers of the leaves of a tree of at most 64 ids: all are told, each once. Conditions: the nodes read as the list; their leaves hold the numbers from 0 on, each once. -/
namespace Go.Proofs.YticdmglondpgaaaGreat
open Go.RowKit
set_option linter.unusedVariables false
set_option maxRecDepth 100000
set_option linter.unusedSimpArgs false

attribute [local go_sem] Oper.semAt_some

theorem XL.putObj {ls : List (List Int)} {n : Nat} (pre : List LX) (x : LX) (A0 W : World) (o' : Obj) (hz : n + 2 ≤ A0.heap.size) (h : XL ls pre x A0 W) : XL ls pre x A0 (W.putObj (n + 1) o') := by
  obtain ⟨h1, h2, h3⟩ := h
  have ho : Only (fun k => k = n + 1) W (W.putObj (n + 1) o') := ⟨rfl, rfl, rfl, by simp, fun j _ hk => World.putObj_heap_other hk⟩
  exact ⟨h1, h2, h3.only ho fun b hb h => by have := (h3.lt b hb).1; omega⟩
theorem below_putObjW {B b : Nat} {w W : World} (h : Below B w W) (hb : B ≤ b) (o : Obj) : Below B w (W.putObj b o) := h.trans ⟨rfl, rfl, rfl, by simp, fun k hk => World.putObj_heap_other (by omega)⟩
/-- Of numbers that are 0 .. n - 1, each once, the next one is none of those ahead. -/
theorem next_new {n : Nat} {Ls Lc r : List Int} {x : Int} (hp : Ls.Perm (upTo n)) (he : Ls = Lc ++ x :: r) : 0 ≤ x ∧ x < n ∧ x ∉ Lc := by
  have hx : x ∈ upTo n := hp.subset (by rw [he]; simp)
  obtain ⟨h1, h2⟩ : 0 ≤ x ∧ x < n := by
    unfold upTo at hx
    obtain ⟨i, hi, rfl⟩ := List.mem_map.1 hx
    rw [List.mem_range] at hi
    omega
  refine ⟨h1, h2, fun h => ?_⟩
  have hn : (upTo n).Nodup := by
    unfold upTo
    rw [List.Nodup, List.pairwise_map]
    exact (List.nodup_range (n := n)).imp fun h e => h (by omega)
  have h3 := hp.nodup_iff.2 hn
  rw [he] at h3
  have h4 := (List.nodup_append.1 h3).2.2 x h x (by simp)
  exact h4 rfl
/-- Between two rounds. -/
def CI (w : World) (b g bs n : Nat) (ls : List (List Int)) (k : Nat) (W : World) : Prop :=
  Below w.heap.size w W ∧ W.heap[w.heap.size]? = some (.cells #[.bool false] 4 (0, 0)) ∧ W.heap[bs]? = some (.cells #[.pointer (some ⟨b, 0, none⟩)] 131 (0, 0)) ∧ SetM W b g n (ls.take k).flatten
set_option maxHeartbeats 6400000 in
set_option maxRecDepth 1000000 in
theorem Covers_calls (n bX : Nat) (A : Option Addr) (c : Nat) (N : List NodeV) (P : Nat → Prop) (w : World) (hN : RdN w P (.slice A N.length c) N) (hl : N.length ≤ 1000000) (h1 : ∀ x ∈ N, x.leaf = true → 1 ≤ x.ids.length ∧ x.ids.length ≤ 1000000) (hbX : w.heap[bX]? = some (.cells #[.slice A N.length c] 48 (0, 0)))
    (hn1 : 1 ≤ n) (hn2 : n ≤ 64) (hp : (leavesN N).flatten.Perm (upTo n)) :
    Calls Tryz.prog 193 #[.int .i64 n, .func (.func 217) #[] #[.pointer (some ⟨bX, 0, none⟩)]] w fun e w' => e = .returned (.bool true) ∧ Below w.heap.size w w' := by
  have HN := Lib.hid hN
  have H1 := Lib.hid h1
  have HBX := Lib.hid hbX
  have HP := Lib.hid hp
  have hXl := obj_lt hbX
  have hdn : decide ((n : Int) < 0) = false := decide_eq_false (by omega)
  clear hN h1 hbX hp
  refine (callsIn_wide (n := 5)).1 ?_
  refine callsIn_of_wp_marks Tryz.func193 rfl trivial ?_ rfl
  refine wpIn_wide.2 ?_
  simp only [Tryz.ntmps193, List.size_toArray, List.length_cons, List.length_nil, Nat.reduceAdd, Nat.reduceSub, Array.replicate_succ, Array.replicate_zero, List.push_toArray, List.append_toArray, List.nil_append, List.cons_append]
  go_wp2_with fail
  obtain ⟨w1, aW⟩ : ∃ W, w.alloc (.cells #[.bool false] 4) = W := ⟨_, rfl⟩
  have ab : Below w.heap.size w w1 := by rw [← aW]; exact below_alloc1 (Below.refl _ _) _
  have ax : w1.heap[w.heap.size]? = some (.cells #[.bool false] 4 (0, 0)) := by rw [← aW]; exact heap_alloc_new _ _
  rw [aW]
  clear aW
  refine (MNew_calls n w1 hn1 hn2).mono ?_
  rintro e w2 ⟨b, g, he, hs, hb0, hg0, hb2⟩
  subst he
  have hax2 := obj_below hb2 ax (obj_lt ax)
  have hz1 := ab.size
  have hz2 := hb2.size
  have hzw : w.heap.size < w1.heap.size := obj_lt ax
  have HB2 := Lib.hid (ab.trans (hb2.mono hz1))
  have HS2 := Lib.hid hs
  have hsl := hs.lt
  have AX2 := Lib.hid hax2
  clear ab ax hb2 hs hax2
  go_wp2_with fail
  obtain ⟨w3, sW⟩ : ∃ W, w2.alloc (.cells #[.pointer (some ⟨b, 0, none⟩)] 131) = W := ⟨_, rfl⟩
  have sb : Below w2.heap.size w2 w3 := by rw [← sW]; exact below_alloc1 (Below.refl _ _) _
  have sx : w3.heap[w2.heap.size]? = some (.cells #[.pointer (some ⟨b, 0, none⟩)] 131 (0, 0)) := by rw [← sW]; exact heap_alloc_new _ _
  rw [sW]
  clear sW
  have hz3 := sb.size
  have hsl3 := obj_lt sx
  have HI0 := Lib.hid (show CI w b g w2.heap.size n (leavesN N) 0 w3 from ⟨HB2.out.trans (sb.mono (by omega)), obj_below sb AX2.out (obj_lt AX2.out), sx, HS2.out.keep sb⟩)
  have HB3 := Lib.hid (HB2.out.trans (sb.mono (by omega)))
  have BX3 := Lib.hid (obj_below (HB2.out.trans (sb.mono (by omega))) HBX.out hXl)
  clear sb sx
  refine (wpIn_wide (n := 5)).1 ?_
  refine wpIn_rangeD rfl (by omega) (gf := 217) (lb := #[.pointer (some ⟨bX, 0, none⟩)]) rfl trivial (enters_of Tryz.func217 (by kernel_rfl) rfl)
    (leaves_iter _ bX A c N P w w3 HB3.out HN.out hl H1.out BX3.out)
    (fun k h => h.elim) (fun h k => Only.trans h k) (fun W l o o' hl _ _ => KpL.putObj (by omega) (by omega)) XL.putObj
    (fun xs A B h _ => h) (fun xs A B h _ => h) (fun _ => rfl)
    (fun pre W => CI w b g w2.heap.size n (leavesN N) pre.length W)
    (fun c pre W => False)
    (fun pre A B h hs => by
      have hs' : Only (fun k => k = w3.heap.size + 1) A B := Only.mono hs fun k _ h => h.elim (fun h => h.elim) fun h => h
      exact ⟨h.1.trans (hs'.below h.1.size fun k hk h => by omega), hs'.obj h.2.1 (by omega), hs'.obj h.2.2.1 (by omega), h.2.2.2.only hs' (by omega) (by omega)⟩) (fun c pre A B h hs => h) HI0.out ?a1 ?assign ?body ?done ?stop
  case assign =>
    intro l x W K hK
    gi_wp2
    exact hK
  case body =>
    clear HI0 BX3
    rintro l2 pre ⟨B1, n1, c1⟩ A0 W hIW hlen hsz hIA hst' ⟨hx1, hx2, hx3⟩
    simp only at hx1 hx2 hx3
    subst hx1
    obtain ⟨ids, hids⟩ : ∃ r, (leavesN N).getD pre.length [] = r := ⟨_, rfl⟩
    have hdr : (leavesN N).flatten = ((leavesN N).take pre.length).flatten ++ (ids ++ ((leavesN N).drop (pre.length + 1)).flatten) := by
      have h2 := List.take_append_drop pre.length (leavesN N)
      rw [List.drop_eq_getElem_cons hlen] at h2
      have h3 : (leavesN N)[pre.length] = ids := by rw [← hids]; simp [List.getD, hlen]
      rw [h3] at h2
      conv => lhs; rw [← h2]
      simp
    have htk : ((leavesN N).take (pre.length + 1)).flatten = ((leavesN N).take pre.length).flatten ++ ids := by
      rw [List.take_add_one, List.flatten_append, ← hids]
      simp [List.getD, hlen]
    obtain ⟨T0, hT0⟩ : ∃ r, ((leavesN N).take pre.length).flatten = r := ⟨_, rfl⟩
    obtain ⟨T1, hT1⟩ : ∃ r, ((leavesN N).drop (pre.length + 1)).flatten = r := ⟨_, rfl⟩
    rw [hids] at hx2 hx3 ⊢
    rw [hT0, hT1] at hdr
    rw [hT0] at htk
    have hS0 := hIW.2.2.2
    rw [hT0] at hS0
    obtain ⟨m, hm⟩ : ∃ m, ids.length = m := ⟨_, rfl⟩
    rw [hm] at hx2 hx3 ⊢
    have hm64 : m ≤ 64 := by
      have h2 := HP.out.length_eq
      rw [hdr, upTo_length] at h2
      simp only [List.length_append] at h2
      omega
    have HID := Lib.hid hx3.rd.2
    have HDR := Lib.hid hdr
    have HTK := Lib.hid htk
    have HM := Lib.hid hm
    have HX3 := Lib.hid hx3
    have HIW := Lib.hid hIW
    have HS0 := Lib.hid hS0
    have hzA : A0.heap.size ≤ W.heap.size := hsz.2
    clear hids hdr htk hT0 hT1 hx3 hm hIW hIA hst' hS0
    gi_wp2
    gi_loopw [15] (fun v15 wr => ∃ j : Nat, j ≤ m ∧ v15 = .int .i64 j ∧ SetM wr b g n (T0 ++ ids.take j) ∧ Only (fun k => k = b ∨ k = g) W wr) (fun v15 _ => m - (intOf v15).toNat)
    case atStart => exact ⟨0, Nat.zero_le _, rfl, by simpa using HS0.out, Only.refl _ _⟩
    case round =>
      obtain ⟨j, hj, rfl, hS, ho⟩ := hrel
      have HS := Lib.hid hS
      have HO := Lib.hid ho
      clear hS ho
      have hsx : wr.cell? ⟨w2.heap.size, 0, none⟩ = some (.pointer (some ⟨b, 0, none⟩)) := by
        have h := HO.out.obj HIW.out.2.2.1 (by omega)
        simp [World.cell?, h]
      by_cases hlt : j < m
      · have hlt0 : decide ((j : Int) < (m : Int)) = true := decide_eq_true (by omega)
        have hltI : (j : Int) < (m : Int) := by omega
        have hjl : j < ids.length := by rw [HM.out]; exact hlt
        have hnx := next_new HP.out (show (leavesN N).flatten = (T0 ++ ids.take j) ++ ids[j] :: (ids.drop (j + 1) ++ T1) by
          rw [HDR.out]
          have h2 := List.take_append_drop j ids
          rw [List.drop_eq_getElem_cons hjl] at h2
          have h3 : ids ++ T1 = (ids.take j ++ ids[j] :: ids.drop (j + 1)) ++ T1 := by rw [h2]
          rw [h3]
          simp only [List.append_assoc, List.cons_append])
        obtain ⟨x, hx⟩ : ∃ x, ids[j] = x := ⟨_, rfl⟩
        have hgd : ids.getD j 0 = x := by rw [← hx]; simp [List.getD, hjl]
        have htj : T0 ++ ids.take (j + 1) = T0 ++ ids.take j ++ [x] := by rw [List.take_add_one, List.append_assoc, ← hx]; simp [hjl]
        rw [hx] at hnx
        obtain ⟨hn0, hn1, hn2⟩ := hnx
        obtain ⟨ad, rfl, hca⟩ := (HX3.out.only HO.out fun q hq h => by have := (HX3.out.lt q hq).1; omega).rd.2.2 j hjl
        rw [hgd] at hca
        have HAD := Lib.hid (MAdd_calls b g n (T0 ++ ids.take j) x wr HS.out (by omega))
        have hwj : IntKind.i64.wrap ((j : Int) + 1) = ((j + 1 : Nat) : Int) := by rw [i64_w]; exact wrap64_id _ (by omega)
        have HN2 := Lib.hid hn2
        have HTJ := Lib.hid htj
        clear hx hgd hn2 htj
        gi_wp2
        refine ⟨trivial, (CallsIn.inRound l2 (callsIn_wide.2 HAD.out)).mono ?_⟩
        rintro e w5 ⟨hpo, ho5⟩
        obtain ⟨he, hs5⟩ := hpo.2 hn0 hn1 HN2.out
        subst he
        have HS5 := Lib.hid hs5
        have HO5 := Lib.hid (HO.out.trans ho5)
        clear hpo hs5 ho5
        gi_wp2
        go_roundw
        case rel => exact ⟨j + 1, by omega, rfl, by rw [HTJ.out]; exact HS5.out, HO5.out⟩
        case measure => simp [intOf]; omega
      · obtain rfl : j = m := by omega
        have hlt0 : decide ((j : Int) < (j : Int)) = false := decide_eq_false (by omega)
        have hS6 : SetM wr b g n ((leavesN N).take (pre.length + 1)).flatten := by
          rw [HTK.out]
          have h := HS.out
          rwa [List.take_of_length_le (by rw [HM.out]; exact Nat.le_refl _)] at h
        have HS6 := Lib.hid hS6
        clear hS6
        gi_wp2
        have hO := HO.out
        refine ⟨⟨hO.size, fun k o hk hh hc => hO.obj hh (by omega)⟩, hO.mono fun k _ h he => by omega, HIW.out.1.trans (hO.below HIW.out.1.size fun k hk h => by omega), hO.obj HIW.out.2.1 (by omega), hO.obj HIW.out.2.2.1 (by omega), ?_⟩
        rw [List.length_append, List.length_singleton]
        exact HS6.out
  case done =>
    rintro _ ps W rfl hps hIW hK
    clear HI0 BX3
    obtain ⟨i1, i2, i3, i4⟩ := hIW
    rw [hps, List.take_length] at i4
    have hlen : (leavesN N).flatten.length = n := by rw [HP.out.length_eq, upTo_length]
    have hml := MLen_calls b g n _ W i4
    rw [hlen] at hml
    have HML := Lib.hid hml
    have hsx : W.cell? ⟨w2.heap.size, 0, none⟩ = some (.pointer (some ⟨b, 0, none⟩)) := by simp [World.cell?, i3]
    have hcr : W.cell? ⟨w.heap.size, 0, none⟩ = some (.bool false) := by simp [World.cell?, i2]
    have hfr : W.frozen? ⟨w.heap.size, 0, none⟩ = false := by simp [World.frozen?, i2]
    have hF := set_other hK 0 (.bool true) (by omega : w3.heap.size ≠ w.heap.size)
    have hR := set_blk (cs := [_]) i2 0 (.bool true)
    have hRB : Below w.heap.size w (W.setCell ⟨w.heap.size, 0, none⟩ (.bool true)) := below_set i1 (Nat.le_refl _) _ _
    have hF1 := Lib.hid hF
    have hR1 := Lib.hid hR
    have hRB1 := Lib.hid hRB
    have hzW := i1.size
    clear hF hR hK i1 i2 i3 i4 hml hps hRB
    go_wp2_with fail
    refine HML.out.mono ?_
    rintro e _ ⟨he, rfl⟩
    subst he
    go_wp2_with fail
    exact ⟨by simp, .inl ⟨_, _, rfl, run_takeDeferred hF1.out, _, results_boxed rfl rfl _ _ true rfl (by
      have h := (World.putObj_heap_other (o := .deferred none) (by omega : w.heap.size ≠ w3.heap.size)).trans hR1.out
      simp only [World.cell?, h]
      rfl), rfl, below_putObjW hRB1.out (by omega) _⟩⟩
  case stop =>
    rintro b cc pre W _ _ h
    exact h.elim
end Go.Proofs.YticdmglondpgaaaGreat

/-! ## Shape5: Package shape: Check, of a tree that is grown; Count. Conditions: the nodes read as a tree laid from place 0; its planes may be; it is no deeper than 64; its leaves hold the numbers from 0 on, each once; none is empty. -/
namespace Go.Proofs.YticdmglondpgaaaGreat
open Go.RowKit
set_option linter.unusedVariables false
set_option maxRecDepth 100000
set_option linter.unusedSimpArgs false

attribute [local go_sem] Oper.semAt_some

/-- A tree of n items of a dimension, as it is grown. -/
structure Grown (t : Tr) (n dim : Nat) : Prop where
  ok : t.Ok dim
  deep : t.depth ≤ 64
  perm : t.ids.Perm (upTo n)
  full : ∀ x ∈ t.leaves, 1 ≤ x.length
  n1 : 1 ≤ n
  n2 : n ≤ 64
  d1 : 1 ≤ dim
  d2 : dim ≤ 1024
theorem sum_ge : ∀ (ls : List (List Int)), (∀ x ∈ ls, 1 ≤ x.length) → ls.length ≤ ls.flatten.length
  | [], _ => by simp
  | a :: ls, h => by
    have h1 := h a (List.mem_cons_self)
    have h2 := sum_ge ls (fun x hx => h x (List.mem_cons_of_mem _ hx))
    simp only [List.length_cons, List.flatten_cons, List.length_append]
    omega
theorem len_le_flat : ∀ {ls : List (List Int)} {x : List Int}, x ∈ ls → x.length ≤ ls.flatten.length
  | a :: ls, x, h => by
    simp only [List.flatten_cons, List.length_append]
    rcases List.mem_cons.1 h with rfl | h
    · omega
    · have := len_le_flat h; omega
theorem Grown.leaves_le {t : Tr} {n dim : Nat} (h : Grown t n dim) : t.leaves.length ≤ n ∧ ∀ x ∈ t.leaves, x.length ≤ n := by
  have e := h.perm.length_eq
  rw [upTo_length] at e
  unfold Tr.ids at e
  refine ⟨by rw [← e]; exact sum_ge _ h.full, fun x hx => ?_⟩
  rw [← e]
  exact len_le_flat hx
theorem Grown.size_le {t : Tr} {n dim : Nat} (h : Grown t n dim) : t.size ≤ 127 := by
  have h1 := t.size_leaves
  have h2 := h.leaves_le.1
  have := h.n2
  omega
theorem leavesN_lay (t : Tr) : leavesN (t.lay 0) = t.leaves := t.lay_leaves 0
theorem leaf_mem {t : Tr} {x : NodeV} (hx : x ∈ t.lay 0) (hl : x.leaf = true) : x.ids ∈ t.leaves := by
  rw [← t.lay_leaves 0]
  exact List.mem_map.2 ⟨x, List.mem_filter.2 ⟨hx, hl⟩, rfl⟩
theorem Grown.leafy {t : Tr} {n dim : Nat} (h : Grown t n dim) : ∀ x ∈ t.lay 0, x.leaf = true → 1 ≤ x.ids.length ∧ x.ids.length ≤ 1000000 := fun x hx hl => by
  have h1 := h.full _ (leaf_mem hx hl)
  have h2 := h.leaves_le.2 _ (leaf_mem hx hl)
  have := h.n2
  omega
set_option maxHeartbeats 3200000 in
theorem SCheck_calls (t : Tr) (n dim : Nat) (A : Option Addr) (c : Nat) (P : Nat → Prop) (w : World) (hN : RdN w P (.slice A (t.lay 0).length c) (t.lay 0)) (hg : Grown t n dim) :
    Calls Tryz.prog 140 #[.slice A t.size c, .int .i64 n, .int .i64 dim] w fun e w' => e = .returned (.int .i64 0) ∧ Below w.heap.size w w' := by
  have hsz := hg.size_le
  have hlen : (t.lay 0).length = t.size := Tr.lay_length _ _
  have hct := fun (W : World) (b : Nat) (h : RdN W P (.slice A (t.lay 0).length c) (t.lay 0)) hb => ContainsN_calls A c (t.lay 0) P dim b W h (by rw [hlen]; omega) (t.lay_ok 0 hg.ok) hb
  have hwh := fun (W : World) (h : RdN W P (.slice A (t.lay 0).length c) (t.lay 0)) => Whole_calls A c t P W h (by omega) hg.deep
  have hcv := fun (W : World) (b : Nat) (h : RdN W P (.slice A (t.lay 0).length c) (t.lay 0)) hb => Covers_calls n b A c (t.lay 0) P W h (by rw [hlen]; omega) hg.leafy hb hg.n1 hg.n2 (by rw [leavesN_lay]; exact hg.perm)
  rw [hlen] at hN
  simp only [hlen] at hct hwh hcv
  have HCT := Lib.hid hct
  have HWH := Lib.hid hwh
  have HCV := Lib.hid hcv
  have HN := Lib.hid hN
  obtain ⟨m, hm⟩ : ∃ m, t.size = m := ⟨_, rfl⟩
  rw [hm] at HCT HWH HCV HN ⊢
  have hn1 := hg.n1
  have hn2 := hg.n2
  have hd1 := hg.d1
  have hd2 := hg.d2
  have t1 : decide ((n : Int) < 0) = false := decide_eq_false (by omega)
  have t2 : decide (1048576 < (n : Int)) = false := decide_eq_false (by omega)
  have t3 : decide ((dim : Int) < 1) = false := decide_eq_false (by omega)
  have t4 : decide (1024 < (dim : Int)) = false := decide_eq_false (by omega)
  clear hct hwh hcv hN hg hsz hlen hm
  go_enter Tryz.func140, Tryz.ntmps140
  go_wp2_with fail
  obtain ⟨w1, aW⟩ : ∃ W, w.alloc (.cells #[.int .i64 (dim : Int)] 3) = W := ⟨_, rfl⟩
  have ab : Below w.heap.size w w1 := by rw [← aW]; exact below_alloc1 (Below.refl _ _) _
  have ax : w1.heap[w.heap.size]? = some (.cells #[.int .i64 (dim : Int)] 3 (0, 0)) := by rw [← aW]; exact heap_alloc_new _ _
  rw [aW]
  clear aW
  have HN1 := Lib.hid (HN.out.below ab)
  have HB1 := Lib.hid ab
  refine (HCT.out w1 _ HN1.out ax).mono ?_
  rintro e w2 ⟨he, hb2⟩
  subst he
  have HN2 := Lib.hid (HN1.out.below hb2)
  have HB2 := Lib.hid (HB1.out.trans (hb2.mono HB1.out.size))
  clear HN1 HB1 ab ax hb2
  go_wp2_with fail
  refine (HWH.out w2 HN2.out).mono ?_
  rintro e w3 ⟨he, hb3⟩
  subst he
  have HN3 := Lib.hid (HN2.out.below hb3)
  have HB3 := Lib.hid (HB2.out.trans (hb3.mono HB2.out.size))
  clear HN2 HB2 hb3
  go_wp2_with fail
  refine (Leaves_calls A m c w3).mono ?_
  rintro e w4 ⟨he, hw4⟩
  subst he
  have hb4 : Below w3.heap.size w3 w4 := by rw [hw4]; exact below_alloc1 (Below.refl _ _) _
  have hx4 : w4.heap[w3.heap.size]? = some (.cells #[.slice A m c] 48 (0, 0)) := by rw [hw4]; exact heap_alloc_new _ _
  have HX4 := Lib.hid hx4
  have HN4 := Lib.hid (HN3.out.below hb4)
  have HB4 := Lib.hid (HB3.out.trans (hb4.mono HB3.out.size))
  clear HN3 HB3 hb4 hw4 hx4
  go_wp2_with fail
  refine (HCV.out w4 _ HN4.out HX4.out).mono ?_
  rintro e w5 ⟨he, hb5⟩
  subst he
  have HB5 := Lib.hid (HB4.out.trans (hb5.mono HB4.out.size))
  clear HN4 HB4 hb5
  go_wp2_with fail
  go_ret
  exact ⟨rfl, HB5.out⟩
end Go.Proofs.YticdmglondpgaaaGreat

/-! ## Shape6: Package shape: Count: how many nodes, and leaves. Conditions: the nodes read as the list; no leaf of it is empty. -/
namespace Go.Proofs.YticdmglondpgaaaGreat
open Go.RowKit
set_option linter.unusedVariables false
set_option maxRecDepth 100000
set_option linter.unusedSimpArgs false

attribute [local go_sem] Oper.semAt_some

/-- Between two rounds: the counter's block holds k. -/
def NI (w : World) (k : Nat) (W : World) : Prop := Below w.heap.size w W ∧ W.heap[w.heap.size]? = some (.cells #[.int .i64 (k : Int)] 3 (0, 0))
set_option maxHeartbeats 6400000 in
set_option maxRecDepth 1000000 in
theorem SCount_calls (A : Option Addr) (c : Nat) (N : List NodeV) (P : Nat → Prop) (w : World) (hN : RdN w P (.slice A N.length c) N) (hl : N.length ≤ 1000000) (h1 : ∀ x ∈ N, x.leaf = true → 1 ≤ x.ids.length ∧ x.ids.length ≤ 1000000) :
    Calls Tryz.prog 124 #[.slice A N.length c] w fun e w' => e = .returned (.tuple #[.int .i64 N.length, .int .i64 (leavesN N).length]) ∧ Below w.heap.size w w' := by
  have HN := Lib.hid hN
  have H1 := Lib.hid h1
  obtain ⟨n, hn⟩ : ∃ n, N.length = n := ⟨_, rfl⟩
  have EN := Lib.hid hn
  have hll : (leavesN N).length ≤ 1000000 := by
    unfold leavesN
    rw [List.length_map]
    exact Nat.le_trans (List.length_filter_le _ _) hl
  rw [hn]
  clear hN h1 hn
  refine (callsIn_wide (n := 5)).1 ?_
  refine callsIn_of_wp_marks Tryz.func124 rfl trivial ?_ rfl
  refine wpIn_wide.2 ?_
  simp only [Tryz.ntmps124, List.size_toArray, List.length_cons, List.length_nil, Nat.reduceAdd, Nat.reduceSub, Array.replicate_succ, Array.replicate_zero, List.push_toArray, List.append_toArray, List.nil_append, List.cons_append]
  go_wp2_with fail
  obtain ⟨w1, aW⟩ : ∃ W, w.alloc (.cells #[.int .i64 0] 3) = W := ⟨_, rfl⟩
  have ab : Below w.heap.size w w1 := by rw [← aW]; exact below_alloc1 (Below.refl _ _) _
  have ax : w1.heap[w.heap.size]? = some (.cells #[.int .i64 0] 3 (0, 0)) := by rw [← aW]; exact heap_alloc_new _ _
  rw [aW]
  clear aW
  refine (Leaves_calls A n c w1).mono ?_
  rintro e w2 ⟨he, hw2⟩
  subst he
  have hb2 : Below w1.heap.size w1 w2 := by rw [hw2]; exact below_alloc1 (Below.refl _ _) _
  have hx2 : w2.heap[w1.heap.size]? = some (.cells #[.slice A N.length c] 48 (0, 0)) := by rw [hw2, EN.out]; exact heap_alloc_new _ _
  have hz1 := ab.size
  have hz2 := hb2.size
  have hzw : w.heap.size < w1.heap.size := obj_lt ax
  have hx2l := obj_lt hx2
  have HB2 := Lib.hid (ab.trans (hb2.mono hz1))
  have HX2 := Lib.hid hx2
  have HI0 := Lib.hid (show NI w 0 w2 from ⟨ab.trans (hb2.mono hz1), obj_below hb2 ax (obj_lt ax)⟩)
  clear hw2 hb2 hx2 ab ax
  go_wp2_with fail
  refine (wpIn_wide (n := 5)).1 ?_
  refine wpIn_rangeD rfl (by omega) (gf := 217) (lb := #[.pointer (some ⟨w1.heap.size, 0, none⟩)]) rfl trivial (enters_of Tryz.func217 (by kernel_rfl) rfl)
    (leaves_iter _ w1.heap.size A c N P w w2 HB2.out HN.out hl H1.out HX2.out)
    (fun k h => h.elim) (fun h k => Only.trans h k) (fun W l o o' hl _ _ => KpL.putObj (by omega) (by omega)) XL.putObj
    (fun xs A B h _ => h) (fun xs A B h _ => h) (fun _ => rfl)
    (fun pre W => NI w pre.length W)
    (fun c pre W => False)
    (fun pre A B h hs => by
      have hs' : Only (fun k => k = w2.heap.size + 1) A B := Only.mono hs fun k _ h => h.elim (fun h => h.elim) fun h => h
      exact ⟨h.1.trans (hs'.below h.1.size fun k hk h => by omega), hs'.obj h.2 (by omega)⟩) (fun c pre A B h hs => h) HI0.out ?a1 ?assign ?body ?done ?stop
  case assign =>
    intro l x W K hK
    gi_wp2
    exact hK
  case body =>
    clear HI0
    rintro l2 pre ⟨B1, n1, c1⟩ A0 W hIW hlen hsz hIA hst' hx
    obtain ⟨i1, i2⟩ := hIW
    have hcc : W.cell? ⟨w.heap.size, 0, none⟩ = some (.int .i64 (pre.length : Int)) := by simp [World.cell?, i2]
    have hcf : W.frozen? ⟨w.heap.size, 0, none⟩ = false := by simp [World.frozen?, i2]
    have hwp : IntKind.i64.wrap ((pre.length : Int) + 1) = ((pre.length + 1 : Nat) : Int) := by rw [i64_w]; exact wrap64_id _ (by omega)
    have I1 := Lib.hid i1
    have I2 := Lib.hid i2
    clear i1 i2 hx hst' hIA
    gi_wp2
    refine ⟨⟨by simp [World.setCell], fun k o hk hh hc => set_other hh _ _ (by omega)⟩, (only_set W _ _ _).mono fun k _ h he => by omega, below_set I1.out (Nat.le_refl _) _ _, ?_⟩
    rw [List.length_append, List.length_singleton]
    exact set_blk (cs := [_]) I2.out 0 _
  case done =>
    rintro _ ps W rfl hps hIW hK
    clear HI0
    obtain ⟨i1, i20⟩ := hIW
    obtain ⟨q, hq⟩ : ∃ q, (leavesN N).length = q := ⟨_, rfl⟩
    have i2 : W.heap[w.heap.size]? = some (.cells #[.int .i64 (q : Int)] 3 (0, 0)) := by rw [← hq, ← hps]; exact i20
    have HQ := Lib.hid hq
    clear i20
    have hcc : W.cell? ⟨w.heap.size, 0, none⟩ = some (.int .i64 (q : Int)) := by simp [World.cell?, i2]
    have I1 := Lib.hid i1
    have HK := Lib.hid hK
    have hzW := i1.size
    clear i1 i2 hK hps hq
    go_wp2_with fail
    go_quiet (fail)
    go_wp2_with fail
    exact ⟨by simp, .inl ⟨_, _, rfl, run_takeDeferred (show (W.drewN _).heap[w2.heap.size]? = _ from obj_below (below_drewN_self _ _) HK.out (obj_lt HK.out)), _, results_tmp2 rfl _ _ _, by rw [HQ.out]; rfl, below_putObjW (below_drewN I1.out _) (by omega) _⟩⟩
  case stop =>
    rintro b cc pre W _ _ h
    exact h.elim
end Go.Proofs.YticdmglondpgaaaGreat

/-! ## Marks2: Package marks: All, as an iterator. Condition: a set of at most 64 ids. -/
namespace Go.Proofs.YticdmglondpgaaaGreat
open Go.RowKit
set_option linter.unusedVariables false
set_option maxRecDepth 100000
set_option linter.unusedSimpArgs false

attribute [local go_sem] Oper.semAt_some

/-- The ids of a set, in order. -/
def inS (n : Nat) (L : List Int) : List Int := (upTo n).filter (· ∈ L)
/-- A set's blocks, and the variable q, stay. -/
def KpM (b g q : Nat) (A B : World) : Prop := Only (fun k => ¬ (k = b ∨ k = g ∨ k = q)) A B
theorem KpM.putObj {W : World} {b g q k : Nat} {o' : Obj} (h : k ≠ b ∧ k ≠ g ∧ k ≠ q) : KpM b g q W (W.putObj k o') :=
  ⟨rfl, rfl, rfl, by simp, fun j _ hj => World.putObj_heap_other fun e => hj fun h2 => by omega⟩
def XM (F : List Int) (pre : List Int) (x : Int) (A0 W : World) : Prop := x = F.getD pre.length 0
theorem MAll_calls (b : Nat) (w : World) :
    Calls Tryz.prog 70 #[.pointer (some ⟨b, 0, none⟩)] w fun e w' => e = .returned (.func (.func 117) #[] #[.pointer (some ⟨w.heap.size, 0, none⟩)]) ∧ w' = w.alloc (.cells #[.pointer (some ⟨b, 0, none⟩)] 131) := by
  go_enter Tryz.func70, Tryz.ntmps70
  go_wp2_with fail
  go_ret
  exact ⟨rfl, rfl⟩
set_option maxHeartbeats 3200000 in
theorem marks_iter (m b g q n : Nat) (L : List Int) (w : World) (hS : SetM w b g n L) (hq : w.heap[q]? = some (.cells #[.pointer (some ⟨b, 0, none⟩)] 131 (0, 0))) :
    IterD Fence.wide m Tryz.prog 117 #[.pointer (some ⟨q, 0, none⟩)] (fun x : Int => #[.int .i64 x]) (fun _ => False) (KpM b g q) (XM (inS n L))
      (fun xs W => xs.length = (inS n L).length) (fun xs W => True) (inS n L).length w := by
  intro lp J Jx W hW hJ hJx hY h0
  refine callsIn_of_wp Tryz.func117 rfl trivial ?_ rfl
  simp only [Tryz.ntmps117, List.size_toArray, List.length_cons, List.length_nil, Nat.reduceAdd, Nat.reduceSub, Array.replicate_succ, Array.replicate_zero, List.push_toArray, List.append_toArray, List.nil_append, List.cons_append]
  have hX0 := obj_below hW hq (obj_lt hq)
  have hcX0 : W.cell? ⟨q, 0, none⟩ = some (.pointer (some ⟨b, 0, none⟩)) := by simp [World.cell?, hX0]
  have hS0 := hS.keep hW
  have hb0 := hS0.2.2.2.2.2
  obtain ⟨M, _, _, hbb, _⟩ := hb0
  have hcn : W.cell? ⟨b, 0, none⟩ = some (.int .i64 (n : Int)) := by simp [World.cell?, hbb]
  have hn64 := hS.2.1
  have HJ := Lib.hid hJ
  have HJX := Lib.hid hJx
  have HY := Lib.hid hY
  have H0 := Lib.hid h0
  have HS0 := Lib.hid hS0
  have HX0 := Lib.hid hX0
  clear hJ hJx hY h0 hS hX0 hq hbb hS0
  gi_wp2
  gi_loopw [8] (fun v8 wr => ∃ k : Nat, k ≤ n ∧ v8 = .int .i64 k ∧ ∃ pre : List Int, pre.length = ((upTo k).filter (· ∈ L)).length ∧ J pre wr ∧ SetM wr b g n L ∧ wr.heap[q]? = some (.cells #[.pointer (some ⟨b, 0, none⟩)] 131 (0, 0))) (fun v8 _ => n - (intOf v8).toNat)
  case atStart => exact ⟨0, Nat.zero_le _, rfl, [], rfl, H0.out, HS0.out, HX0.out⟩
  case round =>
    clear HX0 H0 hcX0 HS0 hcn
    obtain ⟨k, hk, rfl, pre, hpl, hJs, hs, hX⟩ := hrel
    have hcX : wr.cell? ⟨q, 0, none⟩ = some (.pointer (some ⟨b, 0, none⟩)) := by simp [World.cell?, hX]
    have HPL := Lib.hid hpl
    have HJS := Lib.hid hJs
    have HX := Lib.hid hX
    have HS := Lib.hid hs
    clear hpl hJs hX hs
    by_cases hlt : k < n
    · have hlt0' : decide ((k : Int) < (n : Int)) = true := decide_eq_true (by omega)
      have hltI : (k : Int) < (n : Int) := by omega
      obtain ⟨d, hd⟩ : ∃ d, decide ((k : Int) ∈ L) = d := ⟨_, rfl⟩
      have HHS := Lib.hid (hd ▸ MHas_calls b g n L (k : Int) wr HS.out (by omega))
      have HD := Lib.hid hd
      have hwj : IntKind.i64.wrap ((k : Int) + 1) = ((k + 1 : Nat) : Int) := by rw [i64_w]; exact wrap64_id _ (by omega)
      clear hd
      cases d with
      | false =>
        gi_wp2
        refine ⟨trivial, (fun h => by cases h), (callsIn_wide.2 HHS.out).mono ?_⟩
        rintro e w2 ⟨he, hw2⟩
        subst he hw2
        gi_wp2
        refine ⟨(fun f h => by cases h), ?_⟩
        gi_wp2
        go_roundw
        case rel => exact ⟨k + 1, by omega, by simp, pre, by rw [upTo_succ, List.filter_append, HPL.out]; simp [of_decide_eq_false HD.out], HJS.out, HS.out, HX.out⟩
        case measure => simp [intOf]; omega
      | true =>
        have hin : (k : Int) ∈ L := of_decide_eq_true HD.out
        have hsplit : inS n L = (upTo k).filter (· ∈ L) ++ (k : Int) :: ((upTo n).drop (k + 1)).filter (· ∈ L) := by
          have h1 : upTo n = upTo k ++ (k : Int) :: (upTo n).drop (k + 1) := by
            have h2 := List.take_append_drop k (upTo n)
            rw [List.drop_eq_getElem_cons (by rw [upTo_length]; exact hlt)] at h2
            have h3 : (upTo n)[k]'(by rw [upTo_length]; exact hlt) = (k : Int) := by simp [upTo]
            have h4 : (upTo n).take k = upTo k := by simp [upTo, ← List.map_take, List.take_range, Nat.min_eq_left hk]
            rw [h3, h4] at h2
            exact h2.symm
          unfold inS
          conv => lhs; rw [h1]
          rw [List.filter_append, List.filter_cons, if_pos (by simpa using hin)]
        have hpn : pre.length < (inS n L).length := by rw [hsplit, HPL.out]; simp
        have hxx : (k : Int) = (inS n L).getD pre.length 0 := by rw [hsplit, HPL.out]; simp [List.getD]
        have hfy : ((upTo (k + 1)).filter (· ∈ L)).length = ((upTo k).filter (· ∈ L)).length + 1 := by rw [upTo_succ, List.filter_append]; simp [hin]
        have HFY := Lib.hid hfy
        obtain ⟨fn, tmps, assign, body, hy, hR⟩ := HY.out pre (k : Int) wr wr HJS.out (Only.refl _ _) hpn hxx
        have HRR := Lib.hid hR
        clear hsplit hpn hxx hfy hin hR
        gi_wp2
        refine ⟨trivial, (fun h => by cases h), (callsIn_wide.2 HHS.out).mono ?_⟩
        rintro e w2 ⟨he, hw2⟩
        subst he hw2
        gi_wp2
        refine ⟨(fun h => by cases h), HRR.out.mono ?_⟩
        rintro e W3 (⟨rfl, hJ3, hk3⟩ | ⟨rfl, hJx3, hk3⟩)
        · have HJ3 := Lib.hid hJ3
          have HS3 := Lib.hid (HS.out.only hk3 (fun h => h (.inl rfl)) (fun h => h (.inr (.inl rfl))))
          have HX3 := Lib.hid (Only.obj hk3 HX.out fun h => h (.inr (.inr rfl)))
          clear hJ3 hk3
          gi_wp2
          go_roundw
          case rel => exact ⟨k + 1, by omega, by simp, _, by rw [List.length_append, HPL.out, HFY.out]; rfl, HJ3.out, HS3.out, HX3.out⟩
          case measure => simp [intOf]; omega
        · have HJ3 := Lib.hid hJx3
          clear hJx3 hk3
          gi_wp2
          refine bodyPost_ret (results_none rfl _ _ _) rfl ?_
          exact ⟨⟨_, rfl⟩, .inr ⟨_, trivial, HJ3.out⟩⟩
    · obtain rfl : k = n := by omega
      have hlt0' : decide ((k : Int) < (k : Int)) = false := decide_eq_false (by omega)
      gi_wp2
      go_end0
      exact ⟨⟨_, rfl⟩, .inl ⟨_, HPL.out, HJS.out⟩⟩
end Go.Proofs.YticdmglondpgaaaGreat
