
/-
  Parting ids in two (package split): by a plane, whether that is good, by halves. Condition: the items and the ids lie as the words say; no more than a million ids.
-/
import Derived.Test.YtohmcpblagcfeaaPlaneMath
import Derived.Test.YtohmcpblagcfeaaData2
import Derived.Deep.RegionLaw
namespace Go.Proofs.Ytohmcpblagcfeaa
open Go.RowKit
set_option linter.unusedVariables false
set_option maxRecDepth 100000
set_option linter.unusedSimpArgs false

/-! ### plain -/
/-- The item of an id; the empty one, if there is none. -/
def itemZ (rows : List (List Int)) (id : Int) : List Int := if 0 ≤ id ∧ id < rows.length then rows.getD id.toNat [] else []
theorem itemZ_nat {rows : List (List Int)} {i : Nat} (h : i < rows.length) : itemZ rows (i : Int) = rows.getD i [] := by unfold itemZ; rw [if_pos ⟨by omega, by omega⟩]; rfl
theorem itemZ_none {rows : List (List Int)} {id : Int} (h : id < 0 ∨ (rows.length : Int) ≤ id) : itemZ rows id = [] := by unfold itemZ; rw [if_neg (by omega)]
theorem itemZ_r32 {rows : List (List Int)} (h : ∀ r ∈ rows, R32 r) (id : Int) : R32 (itemZ rows id) := by
  unfold itemZ
  split
  · rename_i hh
    have hl : id.toNat < rows.length := by omega
    exact h _ (by simp [List.getD, hl])
  · intro x hx; simp at hx
theorem itemZ_len {rows : List (List Int)} {dim : Nat} (h : ∀ r ∈ rows, r.length = dim) (hd : dim ≤ 1024) (id : Int) : (itemZ rows id).length ≤ 1024 := by
  unfold itemZ
  split
  · rename_i hh
    have hl : id.toNat < rows.length := by omega
    have := h (rows.getD id.toNat []) (by simp [List.getD, hl])
    omega
  · simp
def onB (rows : List (List Int)) (ns : List Int) (off id : Int) : Bool := decide (0 ≤ margin ns off (itemZ rows id))
def sideL (rows : List (List Int)) (ns : List Int) (off : Int) (ids : List Int) (on : Bool) : List Int := ids.filter fun id => onB rows ns off id == on
def goodB (n m : Nat) : Bool := decide (0 < min n m) && decide (n + m ≤ 8 * min n m)
theorem sideL_len (rows : List (List Int)) (ns : List Int) (off : Int) (ids : List Int) (on : Bool) : (sideL rows ns off ids on).length ≤ ids.length := List.length_filter_le _ _
theorem sideL_snoc (rows : List (List Int)) (ns : List Int) (off : Int) (ids : List Int) (id : Int) (on : Bool) : sideL rows ns off (ids ++ [id]) on = sideL rows ns off ids on ++ (if onB rows ns off id == on then [id] else []) := by
  unfold sideL
  rw [List.filter_append]
  congr 1
  cases h : (onB rows ns off id == on) <;> simp [h]
theorem At_any (b dim : Nat) (rows : List (List Int)) (id : Int) (w : World) (h : It w b dim rows) :
    Calls Try.prog 44 #[.pointer (some ⟨b, 0, none⟩), .int .i64 id] w fun e w' => ∃ v ok, e = .returned (.tuple #[v, .bool ok]) ∧ Own w' w.heap.size 21 .i32 v (itemZ rows id) ∧ Below w.heap.size w w' := by
  by_cases hid : id < 0 ∨ (rows.length : Int) ≤ id
  · rw [itemZ_none hid]
    exact (At_none b dim rows id w h hid).mono fun e w' ⟨he, hb⟩ => ⟨_, _, he, World.ownsRow_nil _ _ _ _, hb⟩
  · obtain ⟨i, rfl⟩ : ∃ i : Nat, id = (i : Int) := ⟨id.toNat, by omega⟩
    rw [itemZ_nat (by omega)]
    exact (At_calls b dim rows i w h (by omega)).mono fun e w' ⟨v, he, ho, hb⟩ => ⟨v, _, he, ho, hb⟩
theorem info_int : (Try.prog.info? 3).map (fun i => (i.zero, i.size, i.bytes)) = some (some (.int .i64 0), 1, 8) := by kernel_rfl

/-! ### one id more on a side -/
/-- Both sides, in the block bs. -/
def SD (w : World) (bs : Nat) (v0 v1 : Value) (xs0 xs1 : List Int) : Prop :=
  w.heap[bs]? = some (.cells #[v0, v1] 90 (0, 0)) ∧ Own w (bs + 1) 3 .i64 v0 xs0 ∧ Own w (bs + 1) 3 .i64 v1 xs1 ∧ Apart v0 v1
set_option maxHeartbeats 1600000 in
theorem put0_calls (bs : Nat) (v0 v1 : Value) (xs0 xs1 : List Int) (id : Int) (w : World) (h : SD w bs v0 v1 xs0 xs1) (hl : xs0.length ≤ 1000000) :
    Calls Try.prog 43 #[.int .i64 0, .int .i64 id, .pointer (some ⟨bs, 0, none⟩)] w fun e w' => e = .returned (.tuple #[]) ∧ ∃ v', SD w' bs v' v1 (xs0 ++ [id]) xs1 ∧ Below bs w w' := by
  obtain ⟨h1, h2, h3, h4⟩ := h
  have hb := obj_lt h1
  obtain ⟨A, c, rfl, hlc, _⟩ := h2.shape
  have hc0 : w.cell? ⟨bs, 0, none⟩ = some (.slice A xs0.length c) := by simp [World.cell?, h1]
  have hlt0 := fun k hk => (h2.lt k hk).2
  have hlt1 := fun k hk => (h3.lt k hk).2
  have H1 := Lib.hid h1
  have H2 := Lib.hid h2
  have H3 := Lib.hid h3
  have H4 := Lib.hid h4
  have HLT0 := Lib.hid hlt0
  have HLT1 := Lib.hid hlt1
  clear h1 h2 h3 h4 hlt0 hlt1
  go_enter Try.func43, Try.ntmps43
  go_wp2_with (first
    | (at_builtin; refine wpList_appI _ rfl (.tmp 8) (.tmp 10) 23 3 rfl .i64 8 Try.underlying23 info_int (by omega) (bs + 1) (.slice A xs0.length c) xs0 rfl (some ⟨w.heap.size, 0, none⟩) 1 [id] rfl (H2.out.alloc1 _) w ((Below.refl _ _).alloc (by omega) _) (by rw [World.size_alloc]; omega) (Rd.new w .i64 [id] 3 (by simp)) (by simp; omega) ?_; intro v1' w2 ho hgrow hbn hat hnil; obtain ⟨A1, c1, hv1, hcv, _⟩ := ho.shape; rw [show (xs0 ++ [id]).length = xs0.length + 1 by simp] at hv1 hcv; subst hv1; have HO := Lib.hid ho; have HG := Lib.hid hgrow; have HBN := Lib.hid hbn; have HAT := Lib.hid hat; have hob := obj_below hbn H1.out (by omega); have hcb : w2.cell? ⟨bs, 0, none⟩ = some (.slice A xs0.length c) := (by simp [World.cell?, hob]); have hfb : w2.frozen? ⟨bs, 0, none⟩ = false := (by simp [World.frozen?, hob]); have HOB := Lib.hid hob; clear ho hgrow hbn hat hnil hob))
  go_end0
  have hlo : ∀ k, (Value.slice A1 (xs0.length + 1) c1).ownBlock = some k → bs + 1 ≤ k := fun k hk => by
    have h := (HO.out.lt k hk).1
    exact h
  refine ⟨rfl, _, ⟨set_blk (cs := [_, _]) HOB.out 0 _, ?_, ?_, ?_⟩, ?_⟩
  · exact HO.out.only (only_set _ _ _ _) fun k hk e => by have := hlo k hk; omega
  · exact (((H3.out.alloc1 _).only HG.out fun k hk e => H4.out k e hk)).only (only_set _ _ _ _) fun k hk e => by have := (H3.out.lt k hk).1; omega
  · exact fun k h5 h6 => by
      rcases HAT.out with h | h
      · exact H4.out k (h ▸ h5) h6
      · rw [h5] at h
        injection h with h
        have := HLT1.out k h6
        rw [World.size_alloc] at h
        omega
  · exact below_set (HBN.out.mono (by omega)) (Nat.le_refl _) _ _
set_option maxHeartbeats 1600000 in
theorem put1_calls (bs : Nat) (v0 v1 : Value) (xs0 xs1 : List Int) (id : Int) (w : World) (h : SD w bs v0 v1 xs0 xs1) (hl : xs1.length ≤ 1000000) :
    Calls Try.prog 43 #[.int .i64 1, .int .i64 id, .pointer (some ⟨bs, 0, none⟩)] w fun e w' => e = .returned (.tuple #[]) ∧ ∃ v', SD w' bs v0 v' xs0 (xs1 ++ [id]) ∧ Below bs w w' := by
  obtain ⟨h1, h2, h3, h4⟩ := h
  have hb := obj_lt h1
  obtain ⟨A, c, rfl, hlc, _⟩ := h3.shape
  have hc0 : w.cell? ⟨bs, 1, none⟩ = some (.slice A xs1.length c) := by simp [World.cell?, h1]
  have hlt0 := fun k hk => (h2.lt k hk).2
  have hlt1 := fun k hk => (h3.lt k hk).2
  have H1 := Lib.hid h1
  have H2 := Lib.hid h2
  have H3 := Lib.hid h3
  have H4 := Lib.hid h4
  have HLT0 := Lib.hid hlt0
  have HLT1 := Lib.hid hlt1
  clear h1 h2 h3 h4 hlt0 hlt1
  go_enter Try.func43, Try.ntmps43
  go_wp2_with (first
    | (at_builtin; refine wpList_appI _ rfl (.tmp 8) (.tmp 10) 23 3 rfl .i64 8 Try.underlying23 info_int (by omega) (bs + 1) (.slice A xs1.length c) xs1 rfl (some ⟨w.heap.size, 0, none⟩) 1 [id] rfl (H3.out.alloc1 _) w ((Below.refl _ _).alloc (by omega) _) (by rw [World.size_alloc]; omega) (Rd.new w .i64 [id] 3 (by simp)) (by simp; omega) ?_; intro v1' w2 ho hgrow hbn hat hnil; obtain ⟨A1, c1, hv1, hcv, _⟩ := ho.shape; rw [show (xs1 ++ [id]).length = xs1.length + 1 by simp] at hv1 hcv; subst hv1; have HO := Lib.hid ho; have HG := Lib.hid hgrow; have HBN := Lib.hid hbn; have HAT := Lib.hid hat; have hob := obj_below hbn H1.out (by omega); have hcb : w2.cell? ⟨bs, 1, none⟩ = some (.slice A xs1.length c) := (by simp [World.cell?, hob]); have hfb : w2.frozen? ⟨bs, 1, none⟩ = false := (by simp [World.frozen?, hob]); have HOB := Lib.hid hob; clear ho hgrow hbn hat hnil hob))
  go_end0
  have hlo : ∀ k, (Value.slice A1 (xs1.length + 1) c1).ownBlock = some k → bs + 1 ≤ k := fun k hk => by
    have h := (HO.out.lt k hk).1
    exact h
  refine ⟨rfl, _, ⟨set_blk (cs := [_, _]) HOB.out 1 _, ?_, ?_, ?_⟩, ?_⟩
  · exact (((H2.out.alloc1 _).only HG.out fun k hk e => H4.out k hk e)).only (only_set _ _ _ _) fun k hk e => by have := (H2.out.lt k hk).1; omega
  · exact HO.out.only (only_set _ _ _ _) fun k hk e => by have := hlo k hk; omega
  · exact fun k h6 h5 => by
      rcases HAT.out with h | h
      · exact H4.out k h6 (h ▸ h5)
      · rw [h5] at h
        injection h with h
        have := HLT0.out k h6
        rw [World.size_alloc] at h
        omega
  · exact below_set (HBN.out.mono (by omega)) (Nat.le_refl _) _ _

/-! ### Part -/
set_option maxHeartbeats 3200000 in
theorem Part_calls (b dim : Nat) (rows : List (List Int)) (A : Option Addr) (c : Nat) (ids : List Int) (B : Option Addr) (d : Nat) (ns : List Int) (off : Int) (w : World) (hit : It w b dim rows) (hr : ∀ r ∈ rows, R32 r) (ha : Rd w .i64 A ids) (hl : ids.length ≤ 1000000) (hn : Rd w .i32 B ns) (hn32 : R32 ns) :
    Calls Try.prog 15 #[.pointer (some ⟨b, 0, none⟩), .slice A ids.length c, .agg #[.slice B ns.length d, .int .i64 off]] w fun e w' => ∃ v0 v1, e = .returned (.tuple #[v0, v1]) ∧ Own w' w.heap.size 3 .i64 v0 (sideL rows ns off ids false) ∧ Own w' w.heap.size 3 .i64 v1 (sideL rows ns off ids true) ∧ Below w.heap.size w w' := by
  have KA := Lib.hid ha
  have KN := Lib.hid hn
  have HIT := Lib.hid hit
  have HR := Lib.hid hr
  have HN32 := Lib.hid hn32
  clear ha hn hit hr hn32
  go_enter Try.func15, Try.ntmps15
  go_wp2_with fail
  obtain ⟨w2, hw2⟩ : ∃ W, (w.alloc (.cells #[.slice B ns.length d, .int .i64 off] 26)).alloc (.cells #[.slice none 0 0, .slice none 0 0] 90) = W := ⟨_, rfl⟩
  rw [hw2]
  have hb2 : Below w.heap.size w w2 := by rw [← hw2]; exact below_alloc1 (below_alloc1 (Below.refl _ _) _) _
  have bp2 : w2.heap[w.heap.size]? = some (.cells #[.slice B ns.length d, .int .i64 off] 26 (0, 0)) := by
    rw [← hw2]; exact obj_below ((Below.refl _ _).alloc (Nat.le_refl _) _) (heap_alloc_new w _) (obj_lt (heap_alloc_new w _))
  have bs2 : w2.heap[w.heap.size + 1]? = some (.cells #[.slice none 0 0, .slice none 0 0] 90 (0, 0)) := by
    rw [← hw2]; have h := heap_alloc_new (w.alloc (.cells #[.slice B ns.length d, .int .i64 off] 26)) (.cells #[.slice none 0 0, .slice none 0 0] 90); rwa [World.size_alloc] at h
  have HS2 := Lib.hid (show SD w2 (w.heap.size + 1) (.slice none 0 0) (.slice none 0 0) [] [] from ⟨bs2, World.ownsRow_nil _ _ _ _, World.ownsRow_nil _ _ _ _, Apart.nil _⟩)
  have HP2 := Lib.hid bp2
  clear hw2 bp2 bs2
  go_loopg [17] ids.length (fun kq v17 w' => kq ≤ ids.length ∧ v17 = .int .i64 ((ids.length - kq : Nat) : Int) ∧ ∃ v0 v1, SD w' (w.heap.size + 1) v0 v1 (sideL rows ns off (ids.take (ids.length - kq)) false) (sideL rows ns off (ids.take (ids.length - kq)) true) ∧ Below w.heap.size w w' ∧ w'.heap[w.heap.size]? = some (.cells #[.slice B ns.length d, .int .i64 off] 26 (0, 0)))
  case atStart => exact ⟨Nat.le_refl _, by simp, _, _, by simp [sideL]; exact HS2.out, hb2, HP2.out⟩
  case round =>
    clear HS2 HP2 hb2
    obtain ⟨hk, rfl, v0, v1, hS, hB, hP⟩ := hrel
    have HB := Lib.hid hB
    have HP := Lib.hid hP
    have hc0 : wr.cell? ⟨w.heap.size, 0, none⟩ = some (.slice B ns.length d) := by simp [World.cell?, hP]
    have hc1 : wr.cell? ⟨w.heap.size, 1, none⟩ = some (.int .i64 off) := by simp [World.cell?, hP]
    clear hB hP
    cases gk with
    | zero =>
      simp only [Nat.sub_zero, List.take_length] at hS ⊢
      have hd0 : wr.cell? ⟨w.heap.size + 1, 0, none⟩ = some v0 := by have h := hS.1; simp [World.cell?, h]
      have hd1 : wr.cell? ⟨w.heap.size + 1, 1, none⟩ = some v1 := by have h := hS.1; simp [World.cell?, h]
      have HS := Lib.hid hS
      clear hS
      have hlt0 : ¬ ((ids.length : Int) < (ids.length : Int)) := by omega
      go_wp2_with fail
      go_quiet (fail)
      go_wp2_with fail
      go_ret2
      exact ⟨_, _, rfl, (HS.out.2.1.low (by omega)).keep (below_drewN_self _ _), (HS.out.2.2.1.low (by omega)).keep (below_drewN_self _ _), below_drewN HB.out _⟩
    | succ k1 =>
      obtain ⟨i, hi⟩ : ∃ i, ids.length - (k1 + 1) = i := ⟨_, rfl⟩
      have hi2 : ids.length - k1 = i + 1 := by omega
      have HI := Lib.hid hi2
      have hlt : i < ids.length := by omega
      rw [hi] at hS ⊢
      have HS := Lib.hid hS
      obtain ⟨ad, rfl, hca⟩ := (KA.out.below HB.out).2 i hlt
      obtain ⟨id, hid⟩ : ∃ x, ids.getD i 0 = x := ⟨_, rfl⟩
      rw [hid] at hca
      have htk : ids.take (i + 1) = ids.take i ++ [id] := by rw [← hid, List.take_add_one]; simp [List.getD, hlt]
      have HTK := Lib.hid htk
      have hti : (ids.take i).length ≤ 1000000 := by simp; omega
      have hl0 : (sideL rows ns off (ids.take i) false).length ≤ 1000000 := Nat.le_trans (sideL_len _ _ _ _ _) hti
      have hl1 : (sideL rows ns off (ids.take i) true).length ≤ 1000000 := Nat.le_trans (sideL_len _ _ _ _ _) hti
      have hwz := HB.out.size
      obtain ⟨on, hon⟩ : ∃ on, onB rows ns off id = on := ⟨_, rfl⟩
      have HON := Lib.hid hon
      obtain ⟨yl, hyl⟩ : ∃ yl, itemZ rows id = yl := ⟨_, rfl⟩
      have HYL := Lib.hid hyl
      have bi : (i : Int) < (ids.length : Int) := by omega
      clear hi hi2 hid htk hS hti hon hyl
      go_wp2_with fail
      refine (At_any b dim rows id _ (HIT.out.below HB.out)).mono ?_
      rintro e w4 ⟨vy, ok, he, hoy, hb4⟩
      subst he
      rw [HYL.out] at hoy
      obtain ⟨Ay, cy, rfl, hcy, hry⟩ := hoy.shape
      have HRY := Lib.hid hry
      have hB4 : Below w.heap.size w w4 := HB.out.trans (hb4.mono hwz)
      have HB4 := Lib.hid hb4
      have hP4 := obj_below hb4 HP.out (obj_lt HP.out)
      have HP4 := Lib.hid hP4
      have HBW4 := Lib.hid hB4
      have hd0 : w4.cell? ⟨w.heap.size, 0, none⟩ = some (.slice B ns.length d) := by simp [World.cell?, hP4]
      have hd1 : w4.cell? ⟨w.heap.size, 1, none⟩ = some (.int .i64 off) := by simp [World.cell?, hP4]
      clear hoy hry hb4 hP4 hB4 hc0 hc1
      go_wp2_with fail
      refine (Side_calls B Ay d cy ns yl off w4 (KN.out.below HBW4.out) HRY.out HN32.out (by rw [← HYL.out]; exact itemZ_r32 HR.out id)).mono ?_
      rintro e w5 ⟨he, hb5⟩
      have hon2 : decide (0 ≤ margin ns off yl) = on := by rw [← HON.out, ← HYL.out]; rfl
      rw [hon2] at he
      subst he
      have hbr5 := HB4.out.trans (hb5.mono HB4.out.size)
      have hS5 : SD w5 (w.heap.size + 1) v0 v1 _ _ := ⟨obj_below hbr5 HS.out.1 (obj_lt HS.out.1), HS.out.2.1.keep hbr5, HS.out.2.2.1.keep hbr5, HS.out.2.2.2⟩
      have HS5 := Lib.hid hS5
      have HP5 := Lib.hid (obj_below hb5 HP4.out (obj_lt HP4.out))
      have HBW5 := Lib.hid (HBW4.out.trans (hb5.mono HBW4.out.size))
      clear hb5 hbr5 hS5 hon2 hd0 hd1
      cases on with
      | true =>
        go_wp2_with fail
        refine (put1_calls _ v0 v1 _ _ id w5 HS5.out hl1).mono ?_
        rintro e w6 ⟨he, v', hS6, hb6⟩
        subst he
        have HS6 := Lib.hid hS6
        have HB6 := Lib.hid hb6
        clear hS6 hb6
        go_wp2_with fail
        go_roundg k1
        case measure => omega
        case rel =>
          refine ⟨by omega, by rw [HI.out]; rfl, v0, v', ?_, HBW5.out.trans (HB6.out.mono (by omega)), obj_below HB6.out HP5.out (by omega)⟩
          rw [HI.out, HTK.out, sideL_snoc, sideL_snoc, HON.out]
          simpa using HS6.out
      | false =>
        go_wp2_with fail
        refine (put0_calls _ v0 v1 _ _ id w5 HS5.out hl0).mono ?_
        rintro e w6 ⟨he, v', hS6, hb6⟩
        subst he
        have HS6 := Lib.hid hS6
        have HB6 := Lib.hid hb6
        clear hS6 hb6
        go_wp2_with fail
        go_roundg k1
        case measure => omega
        case rel =>
          refine ⟨by omega, by rw [HI.out]; rfl, v', v1, ?_, HBW5.out.trans (HB6.out.mono (by omega)), obj_below HB6.out HP5.out (by omega)⟩
          rw [HI.out, HTK.out, sideL_snoc, sideL_snoc, HON.out]
          simpa using HS6.out
/-! ### Good, Halves -/
theorem Good_calls (A B : Option Addr) (n m c d : Nat) (w : World) (hn : n ≤ 1000000) (hm : m ≤ 1000000) :
    Calls Try.prog 19 #[.slice A n c, .slice B m d] w fun e w' => e = .returned (.bool (goodB n m)) ∧ w = w' := by
  have hmin := @min2_run Try.prog
  rcases (by omega : (m < n ∧ min n m = m) ∨ (¬ m < n ∧ min n m = n)) with ⟨h1, h2⟩ | ⟨h1, h2⟩
  · have hm1 : (m : Int) < (n : Int) := by omega
    have HG := Lib.hid (show goodB n m = (decide (0 < m) && decide (n + m ≤ 8 * m)) by unfold goodB; rw [h2])
    have hw1 : IntKind.i64.wrap (8 * (m : Int)) = 8 * (m : Int) := by rw [i64_w]; exact wrap64_id _ (by omega)
    have hw2 : IntKind.i64.wrap ((n : Int) + (m : Int)) = (n : Int) + (m : Int) := by rw [i64_w]; exact wrap64_id _ (by omega)
    clear h2
    by_cases h0 : 0 < m
    · have h0' : decide (0 < m) = true := decide_eq_true h0
      go_enter Try.func19, Try.ntmps19
      go_wp2_with fail
      go_ret
      refine ⟨ret_bool ?_, rfl⟩
      rw [HG.out, h0', Bool.true_and, Bool.eq_iff_iff, decide_eq_true_iff, decide_eq_true_iff]
      omega
    · have h0' : decide (0 < m) = false := decide_eq_false h0
      go_enter Try.func19, Try.ntmps19
      go_wp2_with fail
      go_ret
      exact ⟨ret_bool (by rw [HG.out, h0']; rfl), rfl⟩
  · have hm1 : ¬ (m : Int) < (n : Int) := by omega
    have HG := Lib.hid (show goodB n m = (decide (0 < n) && decide (n + m ≤ 8 * n)) by unfold goodB; rw [h2])
    have hw1 : IntKind.i64.wrap (8 * (n : Int)) = 8 * (n : Int) := by rw [i64_w]; exact wrap64_id _ (by omega)
    have hw2 : IntKind.i64.wrap ((n : Int) + (m : Int)) = (n : Int) + (m : Int) := by rw [i64_w]; exact wrap64_id _ (by omega)
    clear h2
    by_cases h0 : 0 < n
    · have h0' : decide (0 < n) = true := decide_eq_true h0
      go_enter Try.func19, Try.ntmps19
      go_wp2_with fail
      go_ret
      refine ⟨ret_bool ?_, rfl⟩
      rw [HG.out, h0', Bool.true_and, Bool.eq_iff_iff, decide_eq_true_iff, decide_eq_true_iff]
      omega
    · have h0' : decide (0 < n) = false := decide_eq_false h0
      go_enter Try.func19, Try.ntmps19
      go_wp2_with fail
      go_ret
      exact ⟨ret_bool (by rw [HG.out, h0']; rfl), rfl⟩
theorem Rd.cutA {w : World} {k : IntKind} {A : Option Addr} {c m : Nat} {xs : List Int} (h : Rd w k A xs) (hm : m ≤ xs.length) (hc : xs.length ≤ c) : RdC w A (nums k (xs.take m)) ∧ RdC w (if c = m then A else Option.map (fun x => x.add m) A) (nums k (xs.drop m)) := by
  have hc0 := h.c
  refine ⟨fun j u hu => hc0 j u ?_, fun j u hu => ?_⟩
  · rw [show nums k xs = nums k (xs.take m) ++ nums k (xs.drop m) by rw [← nums_append, List.take_append_drop], List.getElem?_append_left (List.getElem?_eq_some_iff.1 hu).1]
    exact hu
  · have hl : (nums k (xs.take m)).length = m := by rw [nums_length, List.length_take]; omega
    have hu2 : (nums k xs)[m + j]? = some u := by
      rw [show nums k xs = nums k (xs.take m) ++ nums k (xs.drop m) by rw [← nums_append, List.take_append_drop], List.getElem?_append_right (by omega), hl, Nat.add_sub_cancel_left]
      exact hu
    obtain ⟨ad, rfl, hcell⟩ := hc0 _ _ hu2
    have hj := (List.getElem?_eq_some_iff.1 hu).1
    rw [nums_length, List.length_drop] at hj
    rw [if_neg (by omega)]
    exact ⟨_, rfl, by rw [Addr.add_add]; exact hcell⟩
def halfN (n : Nat) : Nat := (n + 1) / 2
set_option maxHeartbeats 1600000 in
theorem Halves_calls (A : Option Addr) (c : Nat) (ids : List Int) (w : World) (ha : Rd w .i64 A ids) (hc : ids.length ≤ c) (hl : ids.length ≤ 1000000) :
    Calls Try.prog 16 #[.slice A ids.length c] w fun e w' => ∃ v0 v1, e = .returned (.tuple #[v0, v1]) ∧ Own w' w.heap.size 3 .i64 v0 (ids.take (halfN ids.length)) ∧ Own w' w.heap.size 3 .i64 v1 (ids.drop (halfN ids.length)) ∧ Below w.heap.size w w' := by
  obtain ⟨n, hn⟩ : ∃ n, ids.length = n := ⟨_, rfl⟩
  obtain ⟨m, hm⟩ : ∃ m, halfN n = m := ⟨_, rfl⟩
  have hmn : m ≤ n := by rw [← hm]; unfold halfN; omega
  obtain ⟨h1, h2⟩ := ha.cutA (m := m) (by omega) hc
  rw [hn] at hc hl ⊢
  have hw1 : IntKind.i64.wrap ((n : Int) + 1) = (n : Int) + 1 := by rw [i64_w]; exact wrap64_id _ (by omega)
  have hdv : ((n : Int) + 1).tdiv 2 = (m : Int) := by rw [Int.tdiv_eq_ediv_of_nonneg (by omega), ← hm]; unfold halfN; omega
  have hw2 : IntKind.i64.wrap (m : Int) = (m : Int) := by rw [i64_w]; exact wrap64_id _ (by omega)
  have b0 : (0 : Int) ≤ (m : Int) := by omega
  have b1 : (m : Int) ≤ (n : Int) := by omega
  have b2 : (m : Int) ≤ (c : Int) := by omega
  have hl1 : (ids.take m).length = m := by simp; omega
  have hl2 : (ids.drop m).length = n - m := by simp; omega
  have R1 := Lib.hid h1
  have R2 := Lib.hid h2
  have L1 := Lib.hid hl1
  have L2 := Lib.hid hl2
  have HM := Lib.hid hm
  clear h1 h2 hn hm hl1 hl2 ha
  go_enter Try.func16, Try.ntmps16
  go_wp2_with fail
  go_region_law
    (first
      | (refine step_app _ (by rfl) (.const (.slice none 0 0)) (.tmp 11) 23 3 (by rfl) (.int .i64 0) 1 8 Try.underlying23 info_int rfl (by omega) (by omega) w.heap.size (.slice none 0 0) 0 [] (by rfl) A m c (by rfl) (World.ownsRow_nil _ _ _ _) w (by first | ((repeat (first | assumption | exact Below.refl _ _ | apply below_drew1 | apply below_alloc1)); done)) (by first | omega | (simp; done) | (simp; omega)) (nums .i64 (ids.take m)) (by rw [nums_length, L1.out]; omega) (R1.out.below (by first | ((repeat (first | assumption | exact Below.refl _ _ | apply below_drew1 | apply below_alloc1)); done))) (nums_one _ _) (by omega) ?_; intro v1 w3 hown hgrow hbel hat hnil; obtain ⟨A1, c1, rfl, hc1⟩ := own_shape hown; have hzb := hbel.size)
      | (refine step_app _ (by rfl) (.const (.slice none 0 0)) (.tmp 15) 23 3 (by rfl) (.int .i64 0) 1 8 Try.underlying23 info_int rfl (by omega) (by omega) w.heap.size (.slice none 0 0) 0 [] (by rfl) _ (n - m) (c - m) (by rfl) (World.ownsRow_nil _ _ _ _) w (by first | ((repeat (first | assumption | exact Below.refl _ _ | apply below_drew1 | apply below_alloc1)); done)) (by first | omega | (simp; done) | (simp; omega)) (nums .i64 (ids.drop m)) (by rw [nums_length, L2.out]; omega) (R2.out.below (by first | ((repeat (first | assumption | exact Below.refl _ _ | apply below_drew1 | apply below_alloc1)); done))) (nums_one _ _) (by omega) ?_; intro v2 w4 hown2 hgrow2 hbel2 hat2 hnil2; obtain ⟨A2, c2, rfl, hc2⟩ := own_shape hown2; have hzb2 := hbel2.size))
  all_goals
    have o1 : Own w3 w.heap.size 3 .i64 (.slice A1 m c1) (ids.take m) := by unfold Own; rw [L1.out]; simpa using hown
    have o2 : Own w4 w.heap.size 3 .i64 (.slice A2 (n - m) c2) (ids.drop m) := by unfold Own; rw [L2.out]; simpa using hown2
    have O1 := Lib.hid o1
    have O2 := Lib.hid o2
    have G1 := Lib.hid hgrow
    have G2 := Lib.hid hgrow2
    have B1 := Lib.hid hbel
    have B2 := Lib.hid hbel2
    clear o1 o2 hown hown2 hgrow hgrow2 hbel hbel2 hat hat2 hnil hnil2 hc1 hc2
    go_wp2_with fail
    all_goals
      go_ret2
      rw [HM.out]
      refine ⟨_, _, rfl, ?_, ?_, ?_⟩
      · first | exact O1.out | exact O1.out.only G2.out fun b hb h => by simp [OwnB, Value.ownBlock] at h
      · first | exact O2.out | exact O2.out.only G1.out fun b hb h => by simp [OwnB, Value.ownBlock] at h
      · first | exact B2.out | exact B1.out
end Go.Proofs.Ytohmcpblagcfeaa
