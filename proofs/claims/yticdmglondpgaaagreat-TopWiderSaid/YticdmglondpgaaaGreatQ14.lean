/-
  Texts on the program, part 14: Data2, Split, Split2, WholeL, GrowL, Stru, Stru2.
-/
import Derived.Deep.RegionLaw
import Derived.Laws.ResultCell
import Derived.Test.YticdmglondpgaaaGreatQ02
import Derived.Test.YticdmglondpgaaaGreatQ08
import Derived.Test.YticdmglondpgaaaGreatQ12

/-! ## Data2: Items with the place of their numbers told, the iterator of all items, and a row of lists that is the call's own. Condition of each: the blocks are as the words say. -/
namespace Go.Proofs.YticdmglondpgaaaGreat
open Go.RowKit
set_option linter.unusedVariables false
set_option maxRecDepth 100000
set_option linter.unusedSimpArgs false
attribute [local go_sem] Oper.semAt_some

def ItV (w : World) (b dim : Nat) (rows : List (List Int)) (A : Option Addr) (c : Nat) : Prop :=
  1 ≤ dim ∧ dim ≤ 1024 ∧ (∀ r ∈ rows, r.length = dim) ∧ rows.length ≤ 1048576 ∧ w.heap[b]? = some (.cells #[.int .i64 dim, .slice A rows.flatten.length c] 166 (0, 0)) ∧ Own w (b + 1) 21 .i32 (.slice A rows.flatten.length c) rows.flatten ∧ rows.flatten.length ≤ c
theorem ItV.it {w : World} {b dim : Nat} {rows : List (List Int)} {A : Option Addr} {c : Nat} (h : ItV w b dim rows A c) : It w b dim rows := ⟨h.1, h.2.1, h.2.2.1, h.2.2.2.1, A, c, h.2.2.2.2⟩
theorem It.v {w : World} {b dim : Nat} {rows : List (List Int)} (h : It w b dim rows) : ∃ A c, ItV w b dim rows A c := by
  obtain ⟨h1, h2, h3, h4, A, c, h5⟩ := h
  exact ⟨A, c, h1, h2, h3, h4, h5⟩
def ItB (b : Nat) (A : Option Addr) (n c : Nat) (k : Nat) : Prop := k = b ∨ OwnB (.slice A n c) k
theorem ItV.only {w w' : World} {S : Nat → Prop} {b dim : Nat} {rows : List (List Int)} {A : Option Addr} {c : Nat} (h : ItV w b dim rows A c) (ho : Only S w w') (hs : ∀ k, ItB b A rows.flatten.length c k → ¬ S k) : ItV w' b dim rows A c :=
  ⟨h.1, h.2.1, h.2.2.1, h.2.2.2.1, ho.obj h.2.2.2.2.1 (hs b (.inl rfl)), h.2.2.2.2.2.1.only ho fun k hk => hs k (.inr hk), h.2.2.2.2.2.2⟩
theorem ItV.blk {w : World} {b dim : Nat} {rows : List (List Int)} {A : Option Addr} {c : Nat} (h : ItV w b dim rows A c) (k : Nat) (hk : ItB b A rows.flatten.length c k) : b ≤ k ∧ k < w.heap.size := by
  rcases hk with rfl | hk
  · exact ⟨Nat.le_refl _, obj_lt h.2.2.2.2.1⟩
  · have := h.2.2.2.2.2.1.lt k hk
    omega
def AddTo (w w' : World) (b dim : Nat) (rows : List (List Int)) (A : Option Addr) (c : Nat) (ys : List Int) : Prop :=
  ∃ A' c', ItV w' b dim (rows ++ [ys]) A' c' ∧ Only (ItB b A rows.flatten.length c) w w' ∧ ∀ k, ItB b A' (rows ++ [ys]).flatten.length c' k → ItB b A rows.flatten.length c k ∨ w.heap.size ≤ k
set_option maxHeartbeats 1600000 in
theorem AddV_calls (b dim : Nat) (rows : List (List Int)) (A : Option Addr) (c : Nat) (B : Option Addr) (d : Nat) (ys : List Int) (w : World) (h : ItV w b dim rows A c) (hb : Rd w .i32 B ys) (hf : checkV ys dim = 0) (hn : rows.length < 1048576) :
    Calls Tryz.prog 83 #[.pointer (some ⟨b, 0, none⟩), .slice B ys.length d] w fun e w' => e = .returned (.tuple #[.int .i64 rows.length, .int .i64 0]) ∧ AddTo w w' b dim rows A c ys := by
  have hlen := Lib.hid (Len_calls b dim rows w h.it)
  have hlt := h.it.lt
  obtain ⟨h1, h2, h3, h4, h5, h6, h7⟩ := h
  have hyl : ys.length = dim := by
    unfold checkV at hf
    split at hf
    · cases hf
    · split at hf
      · cases hf
      · omega
  have hfl := flat_length h3
  have hfb : rows.flatten.length ≤ 1073741824 := by rw [hfl]; exact Nat.le_trans (Nat.mul_le_mul h4 h2) (by omega)
  have hfin : ∀ w' A' c', w'.heap[b]? = some (.cells #[.int .i64 dim, .slice A' (rows.flatten.length + ys.length) c'] 166 (0, 0)) → Own w' (b + 1) 21 .i32 (.slice A' (rows.flatten.length + ys.length) c') (rows.flatten ++ ys) → rows.flatten.length + ys.length ≤ c' →
      Only (ItB b A rows.flatten.length c) w w' → (∀ k, (Value.slice A' (rows.flatten.length + ys.length) c').ownBlock = some k → (Value.slice A rows.flatten.length c).ownBlock = some k ∨ w.heap.size ≤ k) → AddTo w w' b dim rows A c ys := fun w' A' c' x y z ho hfr => by
    have e : (rows ++ [ys]).flatten = rows.flatten ++ ys := by simp
    have e2 : (rows ++ [ys]).flatten.length = rows.flatten.length + ys.length := by rw [e, List.length_append]
    refine ⟨A', c', ⟨h1, h2, ?_, by simp; omega, by rw [e2]; exact x, by rw [e2, e]; exact y, by rw [e2]; exact z⟩, ho, fun k hk => ?_⟩
    · intro r hr
      rcases List.mem_append.1 hr with hr | hr
      · exact h3 r hr
      · simp at hr; rw [hr]; exact hyl
    · rw [e2] at hk
      rcases hk with hk | hk
      · exact .inl (.inl hk)
      · exact (hfr k hk).imp .inr id
  have HFIN := Lib.hid hfin
  obtain ⟨L, hL⟩ : ∃ L, rows.flatten = L := ⟨_, rfl⟩
  obtain ⟨n, hnn⟩ : ∃ n, rows.length = n := ⟨_, rfl⟩
  rw [hL] at h5 h6 h7 hfb HFIN
  rw [hnn] at hlen hn ⊢
  have hc0 : w.cell? ⟨b, 0, none⟩ = some (.int .i64 dim) := by simp [World.cell?, h5]
  have hc1 : w.cell? ⟨b, 1, none⟩ = some (.slice A L.length c) := by simp [World.cell?, h5]
  have hn' : decide ((1048576 : Int) ≤ (n : Int)) = false := decide_eq_false (by omega)
  have KB := Lib.hid hb
  have HF := Lib.hid hf
  have H5 := Lib.hid h5
  have H6 := Lib.hid h6
  have hyb : ys.length ≤ 1024 := by omega
  clear h5 h6 hb hf hL hnn hfin hfl h3 hyl hn
  go_enter Tryz.func83, Tryz.ntmps83
  go_wp2_with fail
  refine (Check_calls B d ys dim _ KB.out).mono ?_
  rintro e _ ⟨he, rfl⟩
  rw [HF.out] at he
  subst he
  go_wp2_with fail
  refine hlen.out.mono ?_
  rintro e w1 ⟨he, m, rfl⟩
  subst he
  have hc1' : (w.drewN m).cell? ⟨b, 1, none⟩ = some (.slice A L.length c) := hc1
  go_wp2_with (at_builtin; refine wpList_appI _ rfl (.tmp 25) (.tmp 26) 29 21 rfl .i32 4 Tryz.underlying29 info_i32 (by omega) (b + 1) (.slice A L.length c) L rfl B d ys rfl (H6.out.keep (below_drewN_self w m)) w (below_drewN (Below.refl _ _) m) (by show b + 1 ≤ w.heap.size; omega) (KB.out.drewN _) (by omega) ?_; intro v1 w2 ho hgrow hbel hat hnil; obtain ⟨A1, c1, hv1, hcc, _⟩ := ho.shape; subst hv1; have hob := hgrow.obj (b := b) H5.out (fun hk => by have := own_base (H6.out) b hk; omega); rw [List.length_append] at ho hcc hat ⊢; have hcb : w2.cell? ⟨b, 1, none⟩ = some (.slice A L.length c) := (by simp [World.cell?, hob]); have hfb2 : w2.frozen? ⟨b, 1, none⟩ = false := (by simp [World.frozen?, hob]); have HOB := Lib.hid hob; have HO := Lib.hid ho; have HG := Lib.hid hgrow; have HAT := Lib.hid hat; clear ho hob hat hnil hgrow)
  go_ret2
  refine ⟨rfl, HFIN.out _ A1 c1 (set_blk (cs := [_, _]) HOB.out 1 _) (HO.out.only (only_set _ _ _ _) fun k hk e => by have := (HO.out.lt k hk).1; omega) hcc ?_ fun k hk => ?_⟩
  · exact ((Only.of_below (below_drewN_self w m)).trans (HG.out.mono fun k _ h => .inr h)).trans ((only_set _ _ _ _).mono fun k _ h => .inl h)
  · rcases HAT.out with h | h
    · exact .inl (h ▸ hk)
    · rw [hk] at h
      injection h with h
      exact .inr (by rw [h]; exact Nat.le_refl _)
/-! ### two lists of lists -/
end Go.Proofs.YticdmglondpgaaaGreat

/-! ## Split: Parting ids in two (package split): by a plane, whether that is good, by halves. Condition: the items and the ids lie as the words say; no more than a million ids. -/
namespace Go.Proofs.YticdmglondpgaaaGreat
open Go.RowKit
set_option linter.unusedVariables false
set_option maxRecDepth 100000
set_option linter.unusedSimpArgs false

/-! ### plain -/
/-- The item of an id; the empty one, if there is none. -/
def itemZ (rows : List (List Int)) (id : Int) : List Int := if 0 ≤ id ∧ id < rows.length then rows.getD id.toNat [] else []
theorem itemZ_nat {rows : List (List Int)} {i : Nat} (h : i < rows.length) : itemZ rows (i : Int) = rows.getD i [] := by unfold itemZ; rw [if_pos ⟨by omega, by omega⟩]; rfl
theorem itemZ_none {rows : List (List Int)} {id : Int} (h : id < 0 ∨ (rows.length : Int) ≤ id) : itemZ rows id = [] := by unfold itemZ; rw [if_neg (by omega)]
theorem itemZ_r32 {rows : List (List Int)} (h : ∀ r ∈ rows, R32 r) (id : Int) : R32 (itemZ rows id) := by
  unfold itemZ
  split
  · rename_i hh
    have hl : id.toNat < rows.length := by omega
    exact h _ (by simp [List.getD, hl])
  · intro x hx; simp at hx
theorem itemZ_len {rows : List (List Int)} {dim : Nat} (h : ∀ r ∈ rows, r.length = dim) (hd : dim ≤ 1024) (id : Int) : (itemZ rows id).length ≤ 1024 := by
  unfold itemZ
  split
  · rename_i hh
    have hl : id.toNat < rows.length := by omega
    have := h (rows.getD id.toNat []) (by simp [List.getD, hl])
    omega
  · simp
def onB (rows : List (List Int)) (ns : List Int) (off id : Int) : Bool := decide (0 ≤ margin ns off (itemZ rows id))
def sideL (rows : List (List Int)) (ns : List Int) (off : Int) (ids : List Int) (on : Bool) : List Int := ids.filter fun id => onB rows ns off id == on
def goodB (n m : Nat) : Bool := decide (0 < min n m) && decide (n + m ≤ 8 * min n m)
theorem sideL_len (rows : List (List Int)) (ns : List Int) (off : Int) (ids : List Int) (on : Bool) : (sideL rows ns off ids on).length ≤ ids.length := List.length_filter_le _ _
theorem sideL_snoc (rows : List (List Int)) (ns : List Int) (off : Int) (ids : List Int) (id : Int) (on : Bool) : sideL rows ns off (ids ++ [id]) on = sideL rows ns off ids on ++ (if onB rows ns off id == on then [id] else []) := by
  unfold sideL
  rw [List.filter_append]
  congr 1
  cases h : (onB rows ns off id == on) <;> simp [h]
theorem At_any (b dim : Nat) (rows : List (List Int)) (id : Int) (w : World) (h : It w b dim rows) :
    Calls Tryz.prog 96 #[.pointer (some ⟨b, 0, none⟩), .int .i64 id] w fun e w' => ∃ v ok, e = .returned (.tuple #[v, .bool ok]) ∧ Own w' w.heap.size 21 .i32 v (itemZ rows id) ∧ Below w.heap.size w w' := by
  by_cases hid : id < 0 ∨ (rows.length : Int) ≤ id
  · rw [itemZ_none hid]
    exact (At_none b dim rows id w h hid).mono fun e w' ⟨he, hb⟩ => ⟨_, _, he, World.ownsRow_nil _ _ _ _, hb⟩
  · obtain ⟨i, rfl⟩ : ∃ i : Nat, id = (i : Int) := ⟨id.toNat, by omega⟩
    rw [itemZ_nat (by omega)]
    exact (At_calls b dim rows i w h (by omega)).mono fun e w' ⟨v, he, ho, hb⟩ => ⟨v, _, he, ho, hb⟩
theorem info_int : (Tryz.prog.info? 3).map (fun i => (i.zero, i.size, i.bytes)) = some (some (.int .i64 0), 1, 8) := by kernel_rfl

/-! ### one id more on a side -/
/-- Both sides, in the block bs. -/
def SD (w : World) (bs : Nat) (v0 v1 : Value) (xs0 xs1 : List Int) : Prop :=
  w.heap[bs]? = some (.cells #[v0, v1] 241 (0, 0)) ∧ Own w (bs + 1) 3 .i64 v0 xs0 ∧ Own w (bs + 1) 3 .i64 v1 xs1 ∧ Apart v0 v1
set_option maxHeartbeats 1600000 in
theorem put0_calls (bs : Nat) (v0 v1 : Value) (xs0 xs1 : List Int) (id : Int) (w : World) (h : SD w bs v0 v1 xs0 xs1) (hl : xs0.length ≤ 1000000) :
    Calls Tryz.prog 146 #[.int .i64 0, .int .i64 id, .pointer (some ⟨bs, 0, none⟩)] w fun e w' => e = .returned (.tuple #[]) ∧ ∃ v', SD w' bs v' v1 (xs0 ++ [id]) xs1 ∧ Below bs w w' := by
  obtain ⟨h1, h2, h3, h4⟩ := h
  have hb := obj_lt h1
  obtain ⟨A, c, rfl, hlc, _⟩ := h2.shape
  have hc0 : w.cell? ⟨bs, 0, none⟩ = some (.slice A xs0.length c) := by simp [World.cell?, h1]
  have hlt0 := fun k hk => (h2.lt k hk).2
  have hlt1 := fun k hk => (h3.lt k hk).2
  have H1 := Lib.hid h1
  have H2 := Lib.hid h2
  have H3 := Lib.hid h3
  have H4 := Lib.hid h4
  have HLT0 := Lib.hid hlt0
  have HLT1 := Lib.hid hlt1
  clear h1 h2 h3 h4 hlt0 hlt1
  go_enter Tryz.func146, Tryz.ntmps146
  go_wp2_with (first
    | (at_builtin; refine wpList_appI _ rfl (.tmp 8) (.tmp 10) 64 3 rfl .i64 8 Tryz.underlying64 info_int (by omega) (bs + 1) (.slice A xs0.length c) xs0 rfl (some ⟨w.heap.size, 0, none⟩) 1 [id] rfl (H2.out.alloc1 _) w ((Below.refl _ _).alloc (by omega) _) (by rw [World.size_alloc]; omega) (Rd.new w .i64 [id] 3 (by simp)) (by simp; omega) ?_; intro v1' w2 ho hgrow hbn hat hnil; obtain ⟨A1, c1, hv1, hcv, _⟩ := ho.shape; rw [show (xs0 ++ [id]).length = xs0.length + 1 by simp] at hv1 hcv; subst hv1; have HO := Lib.hid ho; have HG := Lib.hid hgrow; have HBN := Lib.hid hbn; have HAT := Lib.hid hat; have hob := obj_below hbn H1.out (by omega); have hcb : w2.cell? ⟨bs, 0, none⟩ = some (.slice A xs0.length c) := (by simp [World.cell?, hob]); have hfb : w2.frozen? ⟨bs, 0, none⟩ = false := (by simp [World.frozen?, hob]); have HOB := Lib.hid hob; clear ho hgrow hbn hat hnil hob))
  go_end0
  have hlo : ∀ k, (Value.slice A1 (xs0.length + 1) c1).ownBlock = some k → bs + 1 ≤ k := fun k hk => by
    have h := (HO.out.lt k hk).1
    exact h
  refine ⟨rfl, _, ⟨set_blk (cs := [_, _]) HOB.out 0 _, ?_, ?_, ?_⟩, ?_⟩
  · exact HO.out.only (only_set _ _ _ _) fun k hk e => by have := hlo k hk; omega
  · exact (((H3.out.alloc1 _).only HG.out fun k hk e => H4.out k e hk)).only (only_set _ _ _ _) fun k hk e => by have := (H3.out.lt k hk).1; omega
  · exact fun k h5 h6 => by
      rcases HAT.out with h | h
      · exact H4.out k (h ▸ h5) h6
      · rw [h5] at h
        injection h with h
        have := HLT1.out k h6
        rw [World.size_alloc] at h
        omega
  · exact below_set (HBN.out.mono (by omega)) (Nat.le_refl _) _ _
set_option maxHeartbeats 1600000 in
theorem put1_calls (bs : Nat) (v0 v1 : Value) (xs0 xs1 : List Int) (id : Int) (w : World) (h : SD w bs v0 v1 xs0 xs1) (hl : xs1.length ≤ 1000000) :
    Calls Tryz.prog 146 #[.int .i64 1, .int .i64 id, .pointer (some ⟨bs, 0, none⟩)] w fun e w' => e = .returned (.tuple #[]) ∧ ∃ v', SD w' bs v0 v' xs0 (xs1 ++ [id]) ∧ Below bs w w' := by
  obtain ⟨h1, h2, h3, h4⟩ := h
  have hb := obj_lt h1
  obtain ⟨A, c, rfl, hlc, _⟩ := h3.shape
  have hc0 : w.cell? ⟨bs, 1, none⟩ = some (.slice A xs1.length c) := by simp [World.cell?, h1]
  have hlt0 := fun k hk => (h2.lt k hk).2
  have hlt1 := fun k hk => (h3.lt k hk).2
  have H1 := Lib.hid h1
  have H2 := Lib.hid h2
  have H3 := Lib.hid h3
  have H4 := Lib.hid h4
  have HLT0 := Lib.hid hlt0
  have HLT1 := Lib.hid hlt1
  clear h1 h2 h3 h4 hlt0 hlt1
  go_enter Tryz.func146, Tryz.ntmps146
  go_wp2_with (first
    | (at_builtin; refine wpList_appI _ rfl (.tmp 8) (.tmp 10) 64 3 rfl .i64 8 Tryz.underlying64 info_int (by omega) (bs + 1) (.slice A xs1.length c) xs1 rfl (some ⟨w.heap.size, 0, none⟩) 1 [id] rfl (H3.out.alloc1 _) w ((Below.refl _ _).alloc (by omega) _) (by rw [World.size_alloc]; omega) (Rd.new w .i64 [id] 3 (by simp)) (by simp; omega) ?_; intro v1' w2 ho hgrow hbn hat hnil; obtain ⟨A1, c1, hv1, hcv, _⟩ := ho.shape; rw [show (xs1 ++ [id]).length = xs1.length + 1 by simp] at hv1 hcv; subst hv1; have HO := Lib.hid ho; have HG := Lib.hid hgrow; have HBN := Lib.hid hbn; have HAT := Lib.hid hat; have hob := obj_below hbn H1.out (by omega); have hcb : w2.cell? ⟨bs, 1, none⟩ = some (.slice A xs1.length c) := (by simp [World.cell?, hob]); have hfb : w2.frozen? ⟨bs, 1, none⟩ = false := (by simp [World.frozen?, hob]); have HOB := Lib.hid hob; clear ho hgrow hbn hat hnil hob))
  go_end0
  have hlo : ∀ k, (Value.slice A1 (xs1.length + 1) c1).ownBlock = some k → bs + 1 ≤ k := fun k hk => by
    have h := (HO.out.lt k hk).1
    exact h
  refine ⟨rfl, _, ⟨set_blk (cs := [_, _]) HOB.out 1 _, ?_, ?_, ?_⟩, ?_⟩
  · exact (((H2.out.alloc1 _).only HG.out fun k hk e => H4.out k hk e)).only (only_set _ _ _ _) fun k hk e => by have := (H2.out.lt k hk).1; omega
  · exact HO.out.only (only_set _ _ _ _) fun k hk e => by have := hlo k hk; omega
  · exact fun k h6 h5 => by
      rcases HAT.out with h | h
      · exact H4.out k h6 (h ▸ h5)
      · rw [h5] at h
        injection h with h
        have := HLT0.out k h6
        rw [World.size_alloc] at h
        omega
  · exact below_set (HBN.out.mono (by omega)) (Nat.le_refl _) _ _

/-! ### Part -/
set_option maxHeartbeats 3200000 in
theorem Part_calls (b dim : Nat) (rows : List (List Int)) (A : Option Addr) (c : Nat) (ids : List Int) (B : Option Addr) (d : Nat) (ns : List Int) (off : Int) (w : World) (hit : It w b dim rows) (hr : ∀ r ∈ rows, R32 r) (ha : Rd w .i64 A ids) (hl : ids.length ≤ 1000000) (hn : Rd w .i32 B ns) (hn32 : R32 ns) :
    Calls Tryz.prog 98 #[.pointer (some ⟨b, 0, none⟩), .slice A ids.length c, .agg #[.slice B ns.length d, .int .i64 off]] w fun e w' => ∃ v0 v1, e = .returned (.tuple #[v0, v1]) ∧ Own w' w.heap.size 3 .i64 v0 (sideL rows ns off ids false) ∧ Own w' w.heap.size 3 .i64 v1 (sideL rows ns off ids true) ∧ Below w.heap.size w w' := by
  have KA := Lib.hid ha
  have KN := Lib.hid hn
  have HIT := Lib.hid hit
  have HR := Lib.hid hr
  have HN32 := Lib.hid hn32
  clear ha hn hit hr hn32
  go_enter Tryz.func98, Tryz.ntmps98
  go_wp2_with fail
  obtain ⟨w2, hw2⟩ : ∃ W, (w.alloc (.cells #[.slice B ns.length d, .int .i64 off] 111)).alloc (.cells #[.slice none 0 0, .slice none 0 0] 241) = W := ⟨_, rfl⟩
  rw [hw2]
  have hb2 : Below w.heap.size w w2 := by rw [← hw2]; exact below_alloc1 (below_alloc1 (Below.refl _ _) _) _
  have bp2 : w2.heap[w.heap.size]? = some (.cells #[.slice B ns.length d, .int .i64 off] 111 (0, 0)) := by
    rw [← hw2]; exact obj_below ((Below.refl _ _).alloc (Nat.le_refl _) _) (heap_alloc_new w _) (obj_lt (heap_alloc_new w _))
  have bs2 : w2.heap[w.heap.size + 1]? = some (.cells #[.slice none 0 0, .slice none 0 0] 241 (0, 0)) := by
    rw [← hw2]; have h := heap_alloc_new (w.alloc (.cells #[.slice B ns.length d, .int .i64 off] 111)) (.cells #[.slice none 0 0, .slice none 0 0] 241); rwa [World.size_alloc] at h
  have HS2 := Lib.hid (show SD w2 (w.heap.size + 1) (.slice none 0 0) (.slice none 0 0) [] [] from ⟨bs2, World.ownsRow_nil _ _ _ _, World.ownsRow_nil _ _ _ _, Apart.nil _⟩)
  have HP2 := Lib.hid bp2
  clear hw2 bp2 bs2
  go_loopg [17] ids.length (fun kq v17 w' => kq ≤ ids.length ∧ v17 = .int .i64 ((ids.length - kq : Nat) : Int) ∧ ∃ v0 v1, SD w' (w.heap.size + 1) v0 v1 (sideL rows ns off (ids.take (ids.length - kq)) false) (sideL rows ns off (ids.take (ids.length - kq)) true) ∧ Below w.heap.size w w' ∧ w'.heap[w.heap.size]? = some (.cells #[.slice B ns.length d, .int .i64 off] 111 (0, 0)))
  case atStart => exact ⟨Nat.le_refl _, by simp, _, _, by simp [sideL]; exact HS2.out, hb2, HP2.out⟩
  case round =>
    clear HS2 HP2 hb2
    obtain ⟨hk, rfl, v0, v1, hS, hB, hP⟩ := hrel
    have HB := Lib.hid hB
    have HP := Lib.hid hP
    have hc0 : wr.cell? ⟨w.heap.size, 0, none⟩ = some (.slice B ns.length d) := by simp [World.cell?, hP]
    have hc1 : wr.cell? ⟨w.heap.size, 1, none⟩ = some (.int .i64 off) := by simp [World.cell?, hP]
    clear hB hP
    cases gk with
    | zero =>
      simp only [Nat.sub_zero, List.take_length] at hS ⊢
      have hd0 : wr.cell? ⟨w.heap.size + 1, 0, none⟩ = some v0 := by have h := hS.1; simp [World.cell?, h]
      have hd1 : wr.cell? ⟨w.heap.size + 1, 1, none⟩ = some v1 := by have h := hS.1; simp [World.cell?, h]
      have HS := Lib.hid hS
      clear hS
      have hlt0 : ¬ ((ids.length : Int) < (ids.length : Int)) := by omega
      go_wp2_with fail
      go_quiet (fail)
      go_wp2_with fail
      go_ret2
      exact ⟨_, _, rfl, (HS.out.2.1.low (by omega)).keep (below_drewN_self _ _), (HS.out.2.2.1.low (by omega)).keep (below_drewN_self _ _), below_drewN HB.out _⟩
    | succ k1 =>
      obtain ⟨i, hi⟩ : ∃ i, ids.length - (k1 + 1) = i := ⟨_, rfl⟩
      have hi2 : ids.length - k1 = i + 1 := by omega
      have HI := Lib.hid hi2
      have hlt : i < ids.length := by omega
      rw [hi] at hS ⊢
      have HS := Lib.hid hS
      obtain ⟨ad, rfl, hca⟩ := (KA.out.below HB.out).2 i hlt
      obtain ⟨id, hid⟩ : ∃ x, ids.getD i 0 = x := ⟨_, rfl⟩
      rw [hid] at hca
      have htk : ids.take (i + 1) = ids.take i ++ [id] := by rw [← hid, List.take_add_one]; simp [List.getD, hlt]
      have HTK := Lib.hid htk
      have hti : (ids.take i).length ≤ 1000000 := by simp; omega
      have hl0 : (sideL rows ns off (ids.take i) false).length ≤ 1000000 := Nat.le_trans (sideL_len _ _ _ _ _) hti
      have hl1 : (sideL rows ns off (ids.take i) true).length ≤ 1000000 := Nat.le_trans (sideL_len _ _ _ _ _) hti
      have hwz := HB.out.size
      obtain ⟨on, hon⟩ : ∃ on, onB rows ns off id = on := ⟨_, rfl⟩
      have HON := Lib.hid hon
      obtain ⟨yl, hyl⟩ : ∃ yl, itemZ rows id = yl := ⟨_, rfl⟩
      have HYL := Lib.hid hyl
      have bi : (i : Int) < (ids.length : Int) := by omega
      clear hi hi2 hid htk hS hti hon hyl
      go_wp2_with fail
      refine (At_any b dim rows id _ (HIT.out.below HB.out)).mono ?_
      rintro e w4 ⟨vy, ok, he, hoy, hb4⟩
      subst he
      rw [HYL.out] at hoy
      obtain ⟨Ay, cy, rfl, hcy, hry⟩ := hoy.shape
      have HRY := Lib.hid hry
      have hB4 : Below w.heap.size w w4 := HB.out.trans (hb4.mono hwz)
      have HB4 := Lib.hid hb4
      have hP4 := obj_below hb4 HP.out (obj_lt HP.out)
      have HP4 := Lib.hid hP4
      have HBW4 := Lib.hid hB4
      have hd0 : w4.cell? ⟨w.heap.size, 0, none⟩ = some (.slice B ns.length d) := by simp [World.cell?, hP4]
      have hd1 : w4.cell? ⟨w.heap.size, 1, none⟩ = some (.int .i64 off) := by simp [World.cell?, hP4]
      clear hoy hry hb4 hP4 hB4 hc0 hc1
      go_wp2_with fail
      refine (Side_calls B Ay d cy ns yl off w4 (KN.out.below HBW4.out) HRY.out HN32.out (by rw [← HYL.out]; exact itemZ_r32 HR.out id)).mono ?_
      rintro e w5 ⟨he, hb5⟩
      have hon2 : decide (0 ≤ margin ns off yl) = on := by rw [← HON.out, ← HYL.out]; rfl
      rw [hon2] at he
      subst he
      have hbr5 := HB4.out.trans (hb5.mono HB4.out.size)
      have hS5 : SD w5 (w.heap.size + 1) v0 v1 _ _ := ⟨obj_below hbr5 HS.out.1 (obj_lt HS.out.1), HS.out.2.1.keep hbr5, HS.out.2.2.1.keep hbr5, HS.out.2.2.2⟩
      have HS5 := Lib.hid hS5
      have HP5 := Lib.hid (obj_below hb5 HP4.out (obj_lt HP4.out))
      have HBW5 := Lib.hid (HBW4.out.trans (hb5.mono HBW4.out.size))
      clear hb5 hbr5 hS5 hon2 hd0 hd1
      cases on with
      | true =>
        go_wp2_with fail
        refine (put1_calls _ v0 v1 _ _ id w5 HS5.out hl1).mono ?_
        rintro e w6 ⟨he, v', hS6, hb6⟩
        subst he
        have HS6 := Lib.hid hS6
        have HB6 := Lib.hid hb6
        clear hS6 hb6
        go_wp2_with fail
        go_roundg k1
        case measure => omega
        case rel =>
          refine ⟨by omega, by rw [HI.out]; rfl, v0, v', ?_, HBW5.out.trans (HB6.out.mono (by omega)), obj_below HB6.out HP5.out (by omega)⟩
          rw [HI.out, HTK.out, sideL_snoc, sideL_snoc, HON.out]
          simpa using HS6.out
      | false =>
        go_wp2_with fail
        refine (put0_calls _ v0 v1 _ _ id w5 HS5.out hl0).mono ?_
        rintro e w6 ⟨he, v', hS6, hb6⟩
        subst he
        have HS6 := Lib.hid hS6
        have HB6 := Lib.hid hb6
        clear hS6 hb6
        go_wp2_with fail
        go_roundg k1
        case measure => omega
        case rel =>
          refine ⟨by omega, by rw [HI.out]; rfl, v', v1, ?_, HBW5.out.trans (HB6.out.mono (by omega)), obj_below HB6.out HP5.out (by omega)⟩
          rw [HI.out, HTK.out, sideL_snoc, sideL_snoc, HON.out]
          simpa using HS6.out
/-! ### Good, Halves -/
theorem Good_calls (A B : Option Addr) (n m c d : Nat) (w : World) (hn : n ≤ 1000000) (hm : m ≤ 1000000) :
    Calls Tryz.prog 99 #[.slice A n c, .slice B m d] w fun e w' => e = .returned (.bool (goodB n m)) ∧ w = w' := by
  have hmin := @min2_run Tryz.prog
  rcases (by omega : (m < n ∧ min n m = m) ∨ (¬ m < n ∧ min n m = n)) with ⟨h1, h2⟩ | ⟨h1, h2⟩
  · have hm1 : (m : Int) < (n : Int) := by omega
    have HG := Lib.hid (show goodB n m = (decide (0 < m) && decide (n + m ≤ 8 * m)) by unfold goodB; rw [h2])
    have hw1 : IntKind.i64.wrap (8 * (m : Int)) = 8 * (m : Int) := by rw [i64_w]; exact wrap64_id _ (by omega)
    have hw2 : IntKind.i64.wrap ((n : Int) + (m : Int)) = (n : Int) + (m : Int) := by rw [i64_w]; exact wrap64_id _ (by omega)
    clear h2
    by_cases h0 : 0 < m
    · have h0' : decide (0 < m) = true := decide_eq_true h0
      go_enter Tryz.func99, Tryz.ntmps99
      go_wp2_with fail
      go_ret
      refine ⟨ret_bool ?_, rfl⟩
      rw [HG.out, h0', Bool.true_and, Bool.eq_iff_iff, decide_eq_true_iff, decide_eq_true_iff]
      omega
    · have h0' : decide (0 < m) = false := decide_eq_false h0
      go_enter Tryz.func99, Tryz.ntmps99
      go_wp2_with fail
      go_ret
      exact ⟨ret_bool (by rw [HG.out, h0']; rfl), rfl⟩
  · have hm1 : ¬ (m : Int) < (n : Int) := by omega
    have HG := Lib.hid (show goodB n m = (decide (0 < n) && decide (n + m ≤ 8 * n)) by unfold goodB; rw [h2])
    have hw1 : IntKind.i64.wrap (8 * (n : Int)) = 8 * (n : Int) := by rw [i64_w]; exact wrap64_id _ (by omega)
    have hw2 : IntKind.i64.wrap ((n : Int) + (m : Int)) = (n : Int) + (m : Int) := by rw [i64_w]; exact wrap64_id _ (by omega)
    clear h2
    by_cases h0 : 0 < n
    · have h0' : decide (0 < n) = true := decide_eq_true h0
      go_enter Tryz.func99, Tryz.ntmps99
      go_wp2_with fail
      go_ret
      refine ⟨ret_bool ?_, rfl⟩
      rw [HG.out, h0', Bool.true_and, Bool.eq_iff_iff, decide_eq_true_iff, decide_eq_true_iff]
      omega
    · have h0' : decide (0 < n) = false := decide_eq_false h0
      go_enter Tryz.func99, Tryz.ntmps99
      go_wp2_with fail
      go_ret
      exact ⟨ret_bool (by rw [HG.out, h0']; rfl), rfl⟩
theorem Rd.cutA {w : World} {k : IntKind} {A : Option Addr} {c m : Nat} {xs : List Int} (h : Rd w k A xs) (hm : m ≤ xs.length) (hc : xs.length ≤ c) : RdC w A (nums k (xs.take m)) ∧ RdC w (if c = m then A else Option.map (fun x => x.add m) A) (nums k (xs.drop m)) := by
  have hc0 := h.c
  refine ⟨fun j u hu => hc0 j u ?_, fun j u hu => ?_⟩
  · rw [show nums k xs = nums k (xs.take m) ++ nums k (xs.drop m) by rw [← nums_append, List.take_append_drop], List.getElem?_append_left (List.getElem?_eq_some_iff.1 hu).1]
    exact hu
  · have hl : (nums k (xs.take m)).length = m := by rw [nums_length, List.length_take]; omega
    have hu2 : (nums k xs)[m + j]? = some u := by
      rw [show nums k xs = nums k (xs.take m) ++ nums k (xs.drop m) by rw [← nums_append, List.take_append_drop], List.getElem?_append_right (by omega), hl, Nat.add_sub_cancel_left]
      exact hu
    obtain ⟨ad, rfl, hcell⟩ := hc0 _ _ hu2
    have hj := (List.getElem?_eq_some_iff.1 hu).1
    rw [nums_length, List.length_drop] at hj
    rw [if_neg (by omega)]
    exact ⟨_, rfl, by rw [Addr.add_add]; exact hcell⟩
def halfN (n : Nat) : Nat := (n + 1) / 2
set_option maxHeartbeats 1600000 in
theorem Halves_calls (A : Option Addr) (c : Nat) (ids : List Int) (w : World) (ha : Rd w .i64 A ids) (hc : ids.length ≤ c) (hl : ids.length ≤ 1000000) :
    Calls Tryz.prog 101 #[.slice A ids.length c] w fun e w' => ∃ v0 v1, e = .returned (.tuple #[v0, v1]) ∧ Own w' w.heap.size 3 .i64 v0 (ids.take (halfN ids.length)) ∧ Own w' w.heap.size 3 .i64 v1 (ids.drop (halfN ids.length)) ∧ Below w.heap.size w w' := by
  obtain ⟨n, hn⟩ : ∃ n, ids.length = n := ⟨_, rfl⟩
  obtain ⟨m, hm⟩ : ∃ m, halfN n = m := ⟨_, rfl⟩
  have hmn : m ≤ n := by rw [← hm]; unfold halfN; omega
  obtain ⟨h1, h2⟩ := ha.cutA (m := m) (by omega) hc
  rw [hn] at hc hl ⊢
  have hw1 : IntKind.i64.wrap ((n : Int) + 1) = (n : Int) + 1 := by rw [i64_w]; exact wrap64_id _ (by omega)
  have hdv : ((n : Int) + 1).tdiv 2 = (m : Int) := by rw [Int.tdiv_eq_ediv_of_nonneg (by omega), ← hm]; unfold halfN; omega
  have hw2 : IntKind.i64.wrap (m : Int) = (m : Int) := by rw [i64_w]; exact wrap64_id _ (by omega)
  have b0 : (0 : Int) ≤ (m : Int) := by omega
  have b1 : (m : Int) ≤ (n : Int) := by omega
  have b2 : (m : Int) ≤ (c : Int) := by omega
  have hl1 : (ids.take m).length = m := by simp; omega
  have hl2 : (ids.drop m).length = n - m := by simp; omega
  have R1 := Lib.hid h1
  have R2 := Lib.hid h2
  have L1 := Lib.hid hl1
  have L2 := Lib.hid hl2
  have HM := Lib.hid hm
  clear h1 h2 hn hm hl1 hl2 ha
  go_enter Tryz.func101, Tryz.ntmps101
  go_wp2_with fail
  go_region_law
    (first
      | (refine step_app _ (by rfl) (.const (.slice none 0 0)) (.tmp 11) 64 3 (by rfl) (.int .i64 0) 1 8 Tryz.underlying64 info_int rfl (by omega) (by omega) w.heap.size (.slice none 0 0) 0 [] (by rfl) A m c (by rfl) (World.ownsRow_nil _ _ _ _) w (by first | ((repeat (first | assumption | exact Below.refl _ _ | apply below_drew1 | apply below_alloc1)); done)) (by first | omega | (simp; done) | (simp; omega)) (nums .i64 (ids.take m)) (by rw [nums_length, L1.out]; omega) (R1.out.below (by first | ((repeat (first | assumption | exact Below.refl _ _ | apply below_drew1 | apply below_alloc1)); done))) (nums_one _ _) (by omega) ?_; intro v1 w3 hown hgrow hbel hat hnil; obtain ⟨A1, c1, rfl, hc1⟩ := own_shape hown; have hzb := hbel.size)
      | (refine step_app _ (by rfl) (.const (.slice none 0 0)) (.tmp 15) 64 3 (by rfl) (.int .i64 0) 1 8 Tryz.underlying64 info_int rfl (by omega) (by omega) w.heap.size (.slice none 0 0) 0 [] (by rfl) _ (n - m) (c - m) (by rfl) (World.ownsRow_nil _ _ _ _) w (by first | ((repeat (first | assumption | exact Below.refl _ _ | apply below_drew1 | apply below_alloc1)); done)) (by first | omega | (simp; done) | (simp; omega)) (nums .i64 (ids.drop m)) (by rw [nums_length, L2.out]; omega) (R2.out.below (by first | ((repeat (first | assumption | exact Below.refl _ _ | apply below_drew1 | apply below_alloc1)); done))) (nums_one _ _) (by omega) ?_; intro v2 w4 hown2 hgrow2 hbel2 hat2 hnil2; obtain ⟨A2, c2, rfl, hc2⟩ := own_shape hown2; have hzb2 := hbel2.size))
  all_goals
    have o1 : Own w3 w.heap.size 3 .i64 (.slice A1 m c1) (ids.take m) := by unfold Own; rw [L1.out]; simpa using hown
    have o2 : Own w4 w.heap.size 3 .i64 (.slice A2 (n - m) c2) (ids.drop m) := by unfold Own; rw [L2.out]; simpa using hown2
    have O1 := Lib.hid o1
    have O2 := Lib.hid o2
    have G1 := Lib.hid hgrow
    have G2 := Lib.hid hgrow2
    have B1 := Lib.hid hbel
    have B2 := Lib.hid hbel2
    clear o1 o2 hown hown2 hgrow hgrow2 hbel hbel2 hat hat2 hnil hnil2 hc1 hc2
    go_wp2_with fail
    all_goals
      go_ret2
      rw [HM.out]
      refine ⟨_, _, rfl, ?_, ?_, ?_⟩
      · first | exact O1.out | exact O1.out.only G2.out fun b hb h => by simp [OwnB, Value.ownBlock] at h
      · first | exact O2.out | exact O2.out.only G1.out fun b hb h => by simp [OwnB, Value.ownBlock] at h
      · first | exact B2.out | exact B1.out
end Go.Proofs.YticdmglondpgaaaGreat

/-! ## Split2: The split that is chosen by a source (package split, Choose). Condition: the items, the ids and the source lie as the words say, apart from one another; no more than a million ids. -/
namespace Go.Proofs.YticdmglondpgaaaGreat
open Go.RowKit
set_option linter.unusedVariables false
set_option maxRecDepth 100000
set_option linter.unusedSimpArgs false

/-! ### plain -/
structure SplitV where
  ns : List Int
  off : Int
  left : List Int
  right : List Int
  tries : Nat
def flatV (dim : Nat) (ids : List Int) (t : Nat) : SplitV := ⟨List.replicate dim 0, 0, ids.take (halfN ids.length), ids.drop (halfN ids.length), t⟩
/-- The items that a try takes: by the draws k and k + 1. -/
def itemA (rows : List (List Int)) (ids : List Int) (s : Nat → Int) (k : Nat) : List Int := itemZ rows (ids.getD (pX s k ids.length).toNat 0)
def itemB (rows : List (List Int)) (ids : List Int) (s : Nat → Int) (k : Nat) : List Int := itemZ rows (ids.getD (pY s k ids.length).toNat 0)
def tryV (rows : List (List Int)) (ids : List Int) (s : Nat → Int) (k t : Nat) : SplitV :=
  ⟨less (itemA rows ids s k) (itemB rows ids s k), betweenOff (itemA rows ids s k) (itemB rows ids s k),
    sideL rows (less (itemA rows ids s k) (itemB rows ids s k)) (betweenOff (itemA rows ids s k) (itemB rows ids s k)) ids false,
    sideL rows (less (itemA rows ids s k) (itemB rows ids s k)) (betweenOff (itemA rows ids s k) (itemB rows ids s k)) ids true, t⟩
def chooseF (rows : List (List Int)) (dim : Nat) (ids : List Int) (s : Nat → Int) (k : Nat) : Nat → Nat → SplitV
  | 0, t => flatV dim ids t
  | f + 1, t => if 1 < ids.length then
      (if goodB (tryV rows ids s (k + 2 * t) (t + 1)).left.length (tryV rows ids s (k + 2 * t) (t + 1)).right.length = true then tryV rows ids s (k + 2 * t) (t + 1) else chooseF rows dim ids s k f (t + 1))
    else flatV dim ids t
def choose (rows : List (List Int)) (dim : Nat) (ids : List Int) (s : Nat → Int) (k : Nat) : SplitV := chooseF rows dim ids s k 4 0
theorem pX_bd (s : Nat → Int) (k : Nat) (n : Nat) (h : 1 < n) : ∃ i : Nat, pX s k n = (i : Int) ∧ i < n := by
  have hx : pX s k n = belowN (s k) n := by unfold pX; rw [if_neg (by omega)]
  have := belowN_bd (s k) n (by omega)
  exact ⟨(pX s k n).toNat, by omega, by omega⟩
theorem pY_bd (s : Nat → Int) (k : Nat) (n : Nat) (h : 1 < n) : ∃ i : Nat, pY s k n = (i : Int) ∧ i < n := by
  have hx : pY s k n = pairB (s k) (s (k + 1)) n := by unfold pY; rw [if_neg (by omega)]
  have := pairB_bd (s k) (s (k + 1)) n (by omega)
  exact ⟨(pY s k n).toNat, by omega, by omega⟩
theorem less_r32 (xs ys : List Int) : R32 (less xs ys) := by
  intro x hx
  unfold less lessN at hx
  obtain ⟨i, _, rfl⟩ := List.mem_map.1 hx
  exact wrap32_bd _
theorem Rd.onlyB {w w' : World} {S : Nat → Prop} {k : IntKind} {A : Option Addr} {xs : List Int} (h : Rd w k A xs) (ho : Only S w w') (hs : ∀ ad, 0 < xs.length → A = some ad → ¬ S ad.block) : Rd w' k A xs :=
  ⟨h.1, fun j hj => by
    obtain ⟨ad, e, hc⟩ := h.2 j hj
    exact ⟨ad, e, ho.cell hc (by
      have := hs ad (by omega) e
      have hb : (ad.add j).block = ad.block := by unfold Addr.add; split <;> rfl
      rw [hb]; exact this)⟩⟩

theorem Only.trans2 {S T : Nat → Prop} {a b c : World} (h1 : Only S a b) (h2 : Only T b c) (h : ∀ k, k < a.heap.size → T k → S k) : Only S a c :=
  ⟨h2.os.trans h1.os, h2.tape.trans h1.tape, h2.output.trans h1.output, Nat.le_trans h1.size h2.size, fun k hk hs => (h2.block k (by have := h1.size; omega) fun ht => hs (h k hk ht)).trans (h1.block k hk hs)⟩
theorem results_cell1 {fn : Func} {p : Tmp} {ty : TypeId} (h : fn.results = #[.cell p ty]) (tmps : Array Value) (P : Program) (w : World) :
    (results fn tmps).run P w = ((asAddr (tmps.getD p undef)).run P w).andThen fun a w₁ => (loadVar ty a).run P w₁ := by
  simp only [results, h]
  simp [Sem.run_bind, Result.andThen]
/-! ### the words -/
/-- Inside Choose: bR the result's block, bR + 1 the split's. -/
structure CS (w : World) (lo hi bR : Nat) (cs : List Value) (W : World) : Prop where
  own : W.heap[bR + 1]? = some (.cells cs.toArray 115 (0, 0))
  res : W.heap[bR]? = some (.cells #[.slice none 0 0, .int .i64 0, .slice none 0 0, .slice none 0 0, .int .i64 0] 115 (0, 0))
  only : Only (Within lo hi) w W
theorem CS.below {w W W' : World} {lo hi bR : Nat} {cs : List Value} (h : CS w lo hi bR cs W) (hb : Below W.heap.size W W') : CS w lo hi bR cs W' :=
  ⟨obj_below hb h.own (obj_lt h.own), obj_below hb h.res (obj_lt h.res), h.only.trans (Only.of_below hb)⟩
theorem CS.draw {w W W' : World} {lo hi bR : Nat} {cs : List Value} (h : CS w lo hi bR cs W) (ho : Only (Within lo hi) W W') (hh : hi ≤ bR) : CS w lo hi bR cs W' :=
  ⟨ho.obj h.own fun h => by have := h.2; omega, ho.obj h.res fun h => by have := h.2; omega, h.only.trans ho⟩
theorem CS.set {w W : World} {lo hi bR : Nat} {cs : List Value} (h : CS w lo hi bR cs W) (hw : w.heap.size ≤ bR) (j : Nat) (u : Value) : CS w lo hi bR (cs.set j u) (W.setCell ⟨bR + 1, j, none⟩ u) :=
  ⟨set_blk h.own j u, set_other h.res j u (by omega), h.only.trans2 (only_set W (bR + 1) j u) fun k hk e => by omega⟩
theorem At.setCell {w : World} {lo hi b j : Nat} {v u : Value} {s : Nat → Int} {k : Nat} (h : At w lo hi v s k) (hb : hi ≤ b) : At (w.setCell ⟨b, j, none⟩ u) lo hi v s k := h.only (only_set w b j u) fun q _ hq e => by omega
def ChPost (w : World) (lo hi : Nat) (v : Value) (s : Nat → Int) (k : Nat) (R : SplitV) (e : Ending) (w' : World) : Prop :=
  ∃ vn vl vr, e = .returned (.agg #[vn, .int .i64 R.off, vl, vr, .int .i64 R.tries]) ∧ Own w' w.heap.size 21 .i32 vn R.ns ∧ Own w' w.heap.size 3 .i64 vl R.left ∧ Own w' w.heap.size 3 .i64 vr R.right ∧ At w' lo hi v s (k + 2 * R.tries) ∧ Only (Within lo hi) w w'
set_option maxHeartbeats 6400000 in
theorem Choose_calls (b dim : Nat) (rows : List (List Int)) (AI : Option Addr) (cI : Nat) (A : Option Addr) (c : Nat) (ids : List Int) (lo hi : Nat) (v : Value) (s : Nat → Int) (k : Nat) (w : World)
    (hit : ItV w b dim rows AI cI) (hr : ∀ r ∈ rows, R32 r) (ha : Rd w .i64 A ids) (hc : ids.length ≤ c) (hl : ids.length ≤ 1000000) (hat : At w lo hi v s k) (hk : k ≤ 900000) (hs1 : ∀ q, ItB b AI rows.flatten.length cI q → ¬ Within lo hi q) (hs2 : ∀ ad, 0 < ids.length → A = some ad → ¬ Within lo hi ad.block) (hhi : hi ≤ w.heap.size) :
    Calls Tryz.prog 57 #[.pointer (some ⟨b, 0, none⟩), .slice A ids.length c, v] w (ChPost w lo hi v s k (choose rows dim ids s k)) := by
  have KA := Lib.hid ha
  have HIT := Lib.hid hit
  have HR := Lib.hid hr
  have HS1 := Lib.hid hs1
  have HS2 := Lib.hid hs2
  have hd1 := hit.1
  have hd2 := hit.2.1
  have hrl := hit.2.2.1
  have HRL := Lib.hid hrl
  obtain ⟨R, hR⟩ : ∃ R, choose rows dim ids s k = R := ⟨_, rfl⟩
  rw [hR]
  have HRR := Lib.hid hR
  obtain ⟨T, a, rfl, hT⟩ := hat.shape
  have HAT := Lib.hid hat
  obtain ⟨n, hn⟩ : ∃ n, ids.length = n := ⟨_, rfl⟩
  have HN := Lib.hid hn
  rw [hn] at hc hl ⊢
  clear ha hit hr hs1 hs2 hrl hR hat hn
  obtain ⟨bR, hbR⟩ : ∃ bR, w.heap.size = bR := ⟨_, rfl⟩
  go_enter Tryz.func57, Tryz.ntmps57
  go_wp2_with fail
  obtain ⟨w2, hw2⟩ : ∃ W, (w.alloc (.cells #[.slice none 0 0, .int .i64 0, .slice none 0 0, .slice none 0 0, .int .i64 0] 115)).alloc (.cells #[.slice none 0 0, .int .i64 0, .slice none 0 0, .slice none 0 0, .int .i64 0] 115) = W := ⟨_, rfl⟩
  rw [hw2]
  have hb2 : Below w.heap.size w w2 := by rw [← hw2]; exact below_alloc1 (below_alloc1 (Below.refl _ _) _) _
  have br2 : w2.heap[bR]? = some (.cells #[.slice none 0 0, .int .i64 0, .slice none 0 0, .slice none 0 0, .int .i64 0] 115 (0, 0)) := by
    rw [← hw2, ← hbR]; exact obj_below ((Below.refl _ _).alloc (Nat.le_refl _) _) (heap_alloc_new w _) (obj_lt (heap_alloc_new w _))
  have bo2 : w2.heap[bR + 1]? = some (.cells #[.slice none 0 0, .int .i64 0, .slice none 0 0, .slice none 0 0, .int .i64 0] 115 (0, 0)) := by
    rw [← hw2, ← hbR]; have h := heap_alloc_new (w.alloc (.cells #[.slice none 0 0, .int .i64 0, .slice none 0 0, .slice none 0 0, .int .i64 0] 115)) (.cells #[.slice none 0 0, .int .i64 0, .slice none 0 0, .slice none 0 0, .int .i64 0] 115); rwa [World.size_alloc] at h
  have HC2 := Lib.hid (show CS w lo hi bR [.slice none 0 0, .int .i64 0, .slice none 0 0, .slice none 0 0, .int .i64 ((0 : Nat) : Int)] w2 from ⟨bo2, br2, Only.of_below hb2⟩)
  have HAT2 := Lib.hid (show At w2 lo hi (.iface T (.pointer (some a))) s (k + 2 * 0) from HAT.out.below hb2 hhi)
  have hwb : w.heap.size ≤ bR := Nat.le_of_eq hbR
  have hhb : hi ≤ bR := by omega
  clear hw2 hb2 br2 bo2 HAT hbR
  go_loopg [] 4 (fun kq w' => ∃ (t : Nat) (x0 x1 x2 x3 : Value), kq + t = 4 ∧ CS w lo hi bR [x0, x1, x2, x3, .int .i64 (t : Nat)] w' ∧ At w' lo hi (.iface T (.pointer (some a))) s (k + 2 * t) ∧ chooseF rows dim ids s k kq t = R)
  case atStart => exact ⟨0, _, _, _, _, rfl, HC2.out, HAT2.out, HRR.out⟩
  case round =>
    clear HC2 HAT2 HRR
    obtain ⟨t, x0, x1, x2, x3, hkt, hC, hat, hR⟩ := hrel
    have HC := Lib.hid hC
    have HAT := Lib.hid hat
    have hc4 : wr.cell? ⟨bR + 1, 4, none⟩ = some (.int .i64 (t : Nat)) := by have h := hC.own; simp [World.cell?, h]
    have hf4 : wr.frozen? ⟨bR + 1, 4, none⟩ = false := free_blk hC.own 4
    clear hC hat
    have hgo : (∃ g, gk = g + 1 ∧ 1 < n) ∨ ((gk = 0 ∨ ¬ 1 < n) ∧ flatV dim ids t = R) := by
      cases gk with
      | zero => exact .inr ⟨.inl rfl, hR⟩
      | succ g =>
        by_cases h1 : 1 < n
        · exact .inl ⟨g, rfl, h1⟩
        · refine .inr ⟨.inr h1, ?_⟩
          rw [← hR]
          unfold chooseF
          rw [if_neg (by rw [HN.out]; exact h1)]
    rcases hgo with ⟨g, rfl, h1⟩ | ⟨hex, hRf⟩
    · have ht3 : t ≤ 3 := by omega
      have HRE := Lib.hid hR
      have g1 : decide (t < 4) = true := decide_eq_true (by omega)
      have g2 : decide (1 < n) = true := decide_eq_true h1
      have hwt : IntKind.i64.wrap ((t : Int) + 1) = (t : Int) + 1 := by rw [i64_w]; exact wrap64_id _ (by omega)
      obtain ⟨i, hpx, hi1⟩ := pX_bd s (k + 2 * t) n h1
      obtain ⟨j, hpy, hj1⟩ := pY_bd s (k + 2 * t) n h1
      have HPX := Lib.hid hpx
      have HPY := Lib.hid hpy
      have hkt2 : g + t ≤ 3 ∧ 3 ≤ g + t := by omega
      clear hR hkt hpx hpy
      go_wp2_with fail
      obtain ⟨W1, hW1⟩ : ∃ W, wr.setCell ⟨bR + 1, 4, none⟩ (.int .i64 ((t : Int) + 1)) = W := ⟨_, rfl⟩
      rw [hW1]
      have HC1 := Lib.hid (show CS w lo hi bR [x0, x1, x2, x3, .int .i64 ((t : Int) + 1)] W1 by rw [← hW1]; exact HC.out.set hwb 4 _)
      have HAT1 := Lib.hid (show At W1 lo hi (.iface T (.pointer (some a))) s (k + 2 * t) by rw [← hW1]; exact HAT.out.setCell (by omega))
      clear hW1 hc4 hf4 HC HAT
      refine (At.pair_calls lo hi _ s (k + 2 * t) (n : Int) W1 HAT1.out (by omega) (by omega)).mono ?_
      rintro e W2 ⟨he, hat2, ho2⟩
      rw [HPX.out, HPY.out] at he
      subst he
      rw [show pK (n : Int) = 2 by unfold pK; rw [if_neg (by omega)]] at hat2
      have HC2 := Lib.hid (HC1.out.draw ho2 hhb)
      have HAT2 := Lib.hid (show At W2 lo hi (.iface T (.pointer (some a))) s (k + 2 * (t + 1)) by rw [show k + 2 * (t + 1) = k + 2 * t + 2 by omega]; exact hat2)
      have hka := KA.out.onlyB HC2.out.only HS2.out
      obtain ⟨ad, rfl, hci⟩ := hka.2 i (by rw [HN.out]; exact hi1)
      obtain ⟨ad', had, hcj⟩ := hka.2 j (by rw [HN.out]; exact hj1)
      injection had with had
      subst had
      obtain ⟨id1, hid1⟩ : ∃ x, ids.getD i 0 = x := ⟨_, rfl⟩
      obtain ⟨id2, hid2⟩ : ∃ x, ids.getD j 0 = x := ⟨_, rfl⟩
      rw [hid1] at hci
      rw [hid2] at hcj
      obtain ⟨ya, hya⟩ : ∃ x, itemZ rows id1 = x := ⟨_, rfl⟩
      obtain ⟨yb, hyb⟩ : ∃ x, itemZ rows id2 = x := ⟨_, rfl⟩
      have HIA := Lib.hid (show itemA rows ids s (k + 2 * t) = ya by unfold itemA; rw [HN.out, HPX.out, Int.toNat_natCast, hid1, hya])
      have HIB := Lib.hid (show itemB rows ids s (k + 2 * t) = yb by unfold itemB; rw [HN.out, HPY.out, Int.toNat_natCast, hid2, hyb])
      have ra : R32 ya := by rw [← hya]; exact itemZ_r32 HR.out _
      have rb : R32 yb := by rw [← hyb]; exact itemZ_r32 HR.out _
      have la : ya.length ≤ 1024 := by rw [← hya]; exact itemZ_len HRL.out hd2 _
      have lb : yb.length ≤ 1024 := by rw [← hyb]; exact itemZ_len HRL.out hd2 _
      have RA := Lib.hid ra
      have RB := Lib.hid rb
      have HYA := Lib.hid hya
      have HYB := Lib.hid hyb
      have bi : (i : Int) < (n : Int) := by omega
      have bj : (j : Int) < (n : Int) := by omega
      have hbk := World.block_lt_of_cell? _ _ hcj
      clear hat2 ho2 hka hid1 hid2 hya hyb ra rb
      go_wp2_with fail
      refine (At_any b dim rows id1 W2 (HIT.out.only HC2.out.only HS1.out).it).mono ?_
      rintro e W3 ⟨va, ok1, he, hoa, hb3⟩
      subst he
      rw [HYA.out] at hoa
      obtain ⟨Aa, ca, rfl, hca, _⟩ := hoa.shape
      have HOA := Lib.hid hoa
      have HB3 := Lib.hid hb3
      have HC3 := Lib.hid (HC2.out.below hb3)
      have hcj3 := cell_below hb3 hcj hbk
      clear hoa hb3 hci hcj
      go_wp2_with fail
      refine (At_any b dim rows id2 W3 (HIT.out.only HC3.out.only HS1.out).it).mono ?_
      rintro e W4 ⟨vb, ok2, he, hob, hb4⟩
      subst he
      rw [HYB.out] at hob
      obtain ⟨Ab, cb, rfl, hcb, hrb⟩ := hob.shape
      have HRB := Lib.hid hrb
      have HRA := Lib.hid ((HOA.out.keep hb4).rd.2)
      have HB4 := Lib.hid (HB3.out.trans (hb4.mono HB3.out.size))
      have HC4 := Lib.hid (HC3.out.below hb4)
      clear hob hb4 hrb hcj3
      go_wp2_with fail
      refine (Between_calls Aa Ab ca cb ya yb W4 HRA.out HRB.out RA.out RB.out (by omega)).mono ?_
      rintro e W5 ⟨vn, he, hon, hb5⟩
      subst he
      obtain ⟨An, cn, rfl, hcn, _⟩ := hon.shape
      obtain ⟨ns, hns⟩ : ∃ ns, less ya yb = ns := ⟨_, rfl⟩
      obtain ⟨off, hoff⟩ : ∃ off, betweenOff ya yb = off := ⟨_, rfl⟩
      have rn : R32 ns := by rw [← hns]; exact less_r32 _ _
      rw [hns] at hon hcn ⊢
      rw [hoff]
      have hC5 := HC4.out.below hb5
      have hz5 : w.heap.size ≤ W5.heap.size := hC5.only.size
      have HON := Lib.hid (show Own W5 (bR + 2) 21 .i32 (.slice An ns.length cn) ns from hon.low (by have := obj_lt HC4.out.own; omega))
      have HNS := Lib.hid hns
      have HO57 := Lib.hid hoff
      have RN := Lib.hid rn
      have HC5 := Lib.hid hC5
      have HAT5 := Lib.hid ((HAT2.out.below HB4.out (by have := HC2.out.only.size; omega)).below hb5 (by have := HC4.out.only.size; omega))
      have f0 : W5.frozen? ⟨bR + 1, 0, none⟩ = false := free_blk hC5.own 0
      have f1 : W5.frozen? ⟨bR + 1, 1, none⟩ = false := free_blk hC5.own 1
      have c0 : W5.cell? ⟨bR + 1, 0, none⟩ = some x0 := by have h := cell_blk hC5.own 0; exact h
      have c1 : W5.cell? ⟨bR + 1, 1, none⟩ = some x1 := by have h := cell_blk hC5.own 1; exact h
      clear hon hb5 hC5 hns hoff rn
      go_wp2_with fail
      obtain ⟨W6, hW6⟩ : ∃ W, (W5.setCell ⟨bR + 1, 0, none⟩ (.slice An ns.length cn)).setCell ⟨bR + 1, 1, none⟩ (.int .i64 off) = W := ⟨_, rfl⟩
      rw [hW6]
      have HC6 := Lib.hid (show CS w lo hi bR [.slice An ns.length cn, .int .i64 off, x2, x3, .int .i64 ((t : Int) + 1)] W6 by rw [← hW6]; exact (HC5.out.set hwb 0 _).set hwb 1 _)
      have HAT6 := Lib.hid (show At W6 lo hi (.iface T (.pointer (some a))) s (k + 2 * (t + 1)) by rw [← hW6]; exact (HAT5.out.setCell (by omega)).setCell (by omega))
      have HON6 := Lib.hid (show Own W6 (bR + 2) 21 .i32 (.slice An ns.length cn) ns by
        have hne : ∀ q, (Value.slice An ns.length cn).ownBlock = some q → ¬ q = bR + 1 := fun q hq => by have := (HON.out.lt q hq).1; omega
        rw [← hW6]; exact (HON.out.only (only_set _ _ _ _) hne).only (only_set _ _ _ _) hne)
      clear hW6 f0 f1 c0 c1 HC5 HAT5 HON
      refine (HN.out ▸ (Part_calls b dim rows (some ad) c ids An cn ns off W6 (HIT.out.only HC6.out.only HS1.out).it HR.out (KA.out.onlyB HC6.out.only HS2.out) (by rw [HN.out]; exact hl) HON6.out.rd.2 RN.out)).mono ?_
      rintro e W7 ⟨vl, vr, he, hol, hor, hb7⟩
      subst he
      have hlt6 := obj_lt HC6.out.own
      obtain ⟨Al, cl, rfl, hcl, _⟩ := hol.shape
      obtain ⟨Ar, cr, rfl, hcr, _⟩ := hor.shape
      obtain ⟨L, hL⟩ : ∃ L, sideL rows ns off ids false = L := ⟨_, rfl⟩
      obtain ⟨Q, hQ⟩ : ∃ Q, sideL rows ns off ids true = Q := ⟨_, rfl⟩
      have hLl : L.length ≤ 1000000 := by rw [← hL]; exact Nat.le_trans (sideL_len _ _ _ _ _) (by rw [HN.out]; exact hl)
      have hQl : Q.length ≤ 1000000 := by rw [← hQ]; exact Nat.le_trans (sideL_len _ _ _ _ _) (by rw [HN.out]; exact hl)
      rw [hL] at hol hcl ⊢
      rw [hQ] at hor hcr ⊢
      have HTV := Lib.hid (show tryV rows ids s (k + 2 * t) (t + 1) = ⟨ns, off, L, Q, t + 1⟩ by unfold tryV; rw [HIA.out, HIB.out, HNS.out, HO57.out, hL, hQ])
      have HOL := Lib.hid (hol.low (show bR + 2 ≤ W6.heap.size by omega))
      have HOR := Lib.hid (hor.low (show bR + 2 ≤ W6.heap.size by omega))
      have HON7 := Lib.hid (HON6.out.keep hb7)
      have hC7 := HC6.out.below hb7
      have HC7 := Lib.hid hC7
      have HAT7 := Lib.hid (HAT6.out.below hb7 (by have := HC6.out.only.size; omega))
      have f2 : W7.frozen? ⟨bR + 1, 2, none⟩ = false := free_blk hC7.own 2
      have f3 : W7.frozen? ⟨bR + 1, 3, none⟩ = false := free_blk hC7.own 3
      have c2 : W7.cell? ⟨bR + 1, 2, none⟩ = some x2 := by have h := cell_blk hC7.own 2; exact h
      have c3 : W7.cell? ⟨bR + 1, 3, none⟩ = some x3 := by have h := cell_blk hC7.own 3; exact h
      clear hol hor hb7 hC7 hL hQ
      go_wp2_with fail
      obtain ⟨W8, hW8⟩ : ∃ W, (W7.setCell ⟨bR + 1, 2, none⟩ (.slice Al L.length cl)).setCell ⟨bR + 1, 3, none⟩ (.slice Ar Q.length cr) = W := ⟨_, rfl⟩
      rw [hW8]
      have neB : ∀ {e : TypeId} {kk : IntKind} {u : Value} {xs : List Int}, Own W7 (bR + 2) e kk u xs → Own W8 (bR + 2) e kk u xs := fun {e kk u xs} h => by
        have hne : ∀ q, u.ownBlock = some q → ¬ q = bR + 1 := fun q hq => by have := (h.lt q hq).1; omega
        rw [← hW8]; exact (h.only (only_set _ _ _ _) hne).only (only_set _ _ _ _) hne
      have hC8 : CS w lo hi bR [.slice An ns.length cn, .int .i64 off, .slice Al L.length cl, .slice Ar Q.length cr, .int .i64 ((t : Int) + 1)] W8 := by rw [← hW8]; exact (HC7.out.set hwb 2 _).set hwb 3 _
      have HC8 := Lib.hid hC8
      have HAT8 := Lib.hid (show At W8 lo hi (.iface T (.pointer (some a))) s (k + 2 * (t + 1)) by rw [← hW8]; exact (HAT7.out.setCell (by omega)).setCell (by omega))
      have HO8 := Lib.hid (And.intro (neB HON7.out) (And.intro (neB HOL.out) (neB HOR.out)))
      have d0 : W8.cell? ⟨bR + 1, 0, none⟩ = some (.slice An ns.length cn) := by have h := cell_blk hC8.own 0; exact h
      have d1 : W8.cell? ⟨bR + 1, 1, none⟩ = some (.int .i64 off) := by have h := cell_blk hC8.own 1; exact h
      have d2 : W8.cell? ⟨bR + 1, 2, none⟩ = some (.slice Al L.length cl) := by have h := cell_blk hC8.own 2; exact h
      have d3 : W8.cell? ⟨bR + 1, 3, none⟩ = some (.slice Ar Q.length cr) := by have h := cell_blk hC8.own 3; exact h
      have d4 : W8.cell? ⟨bR + 1, 4, none⟩ = some (.int .i64 ((t : Int) + 1)) := by have h := cell_blk hC8.own 4; exact h
      have r0 : W8.cell? ⟨bR, 0, none⟩ = some (.slice none 0 0) := by have h := hC8.res; simp [World.cell?, h]
      have r1 : W8.cell? ⟨bR, 1, none⟩ = some (.int .i64 0) := by have h := hC8.res; simp [World.cell?, h]
      have r2 : W8.cell? ⟨bR, 2, none⟩ = some (.slice none 0 0) := by have h := hC8.res; simp [World.cell?, h]
      have r3 : W8.cell? ⟨bR, 3, none⟩ = some (.slice none 0 0) := by have h := hC8.res; simp [World.cell?, h]
      have r4 : W8.cell? ⟨bR, 4, none⟩ = some (.int .i64 0) := by have h := hC8.res; simp [World.cell?, h]
      have q0 : W8.frozen? ⟨bR, 0, none⟩ = false := free_blk hC8.res 0
      have q1 : W8.frozen? ⟨bR, 1, none⟩ = false := free_blk hC8.res 1
      have q2 : W8.frozen? ⟨bR, 2, none⟩ = false := free_blk hC8.res 2
      have q3 : W8.frozen? ⟨bR, 3, none⟩ = false := free_blk hC8.res 3
      have q4 : W8.frozen? ⟨bR, 4, none⟩ = false := free_blk hC8.res 4
      obtain ⟨gd, hgd⟩ : ∃ gd, goodB L.length Q.length = gd := ⟨_, rfl⟩
      have HGD := Lib.hid hgd
      clear hW8 f2 f3 c2 c3 neB hC8 hgd
      refine (Good_calls Al Ar L.length Q.length cl cr W8 hLl hQl).mono ?_
      rintro e _ ⟨he, rfl⟩
      rw [HGD.out] at he
      subst he
      have HRF := Lib.hid (show (if gd = true then (⟨ns, off, L, Q, t + 1⟩ : SplitV) else chooseF rows dim ids s k g (t + 1)) = R by
        have h := HRE.out
        unfold chooseF at h
        rw [if_pos (by rw [HN.out]; exact h1), HTV.out] at h
        rw [HGD.out] at h
        exact h)
      cases gd with
      | true =>
        have hRR : (⟨ns, off, L, Q, t + 1⟩ : SplitV) = R := by have h := HRF.out; rwa [if_pos rfl] at h
        have HRR := Lib.hid hRR
        clear hRR
        go_wp2_with fail
        -- RET BEGIN
        obtain ⟨W9, hW9⟩ : ∃ W9, (((((W8.setCell ⟨bR, 0, none⟩ (.slice An ns.length cn)).setCell ⟨bR, 1, none⟩ (.int .i64 off)).setCell ⟨bR, 2, none⟩ (.slice Al L.length cl)).setCell ⟨bR, 3, none⟩ (.slice Ar Q.length cr)).setCell ⟨bR, 4, none⟩ (.int .i64 ((t : Int) + 1))) = W9 := ⟨_, rfl⟩
        have neC : ∀ {e : TypeId} {kk : IntKind} {u : Value} {xs : List Int}, Own W8 (bR + 2) e kk u xs → Own W9 w.heap.size e kk u xs := fun {e kk u xs} h => by
          have hne : ∀ q, u.ownBlock = some q → ¬ q = bR := fun q hq => by have := (h.lt q hq).1; omega
          rw [← hW9]; exact ((((((h.only (only_set _ _ _ _) hne).only (only_set _ _ _ _) hne).only (only_set _ _ _ _) hne).only (only_set _ _ _ _) hne).only (only_set _ _ _ _) hne)).low (by omega)
        have hres : W9.heap[bR]? = some (.cells #[.slice An ns.length cn, .int .i64 off, .slice Al L.length cl, .slice Ar Q.length cr, .int .i64 ((t : Int) + 1)] 115 (0, 0)) := by
          rw [← hW9]; exact set_blk (cs := [_, _, _, _, _]) (set_blk (cs := [_, _, _, _, _]) (set_blk (cs := [_, _, _, _, _]) (set_blk (cs := [_, _, _, _, _]) (set_blk (cs := [_, _, _, _, _]) HC8.out.res 0 _) 1 _) 2 _) 3 _) 4 _
        have e0 : W9.cell? ⟨bR, 0, none⟩ = some (.slice An ns.length cn) := by simp [World.cell?, hres]
        have e1 : W9.cell? ⟨bR, 1, none⟩ = some (.int .i64 off) := by simp [World.cell?, hres]
        have e2 : W9.cell? ⟨bR, 2, none⟩ = some (.slice Al L.length cl) := by simp [World.cell?, hres]
        have e3 : W9.cell? ⟨bR, 3, none⟩ = some (.slice Ar Q.length cr) := by simp [World.cell?, hres]
        have e4 : W9.cell? ⟨bR, 4, none⟩ = some (.int .i64 ((t : Int) + 1)) := by simp [World.cell?, hres]
        rw [hW9]
        have hat9 : At W9 lo hi (.iface T (.pointer (some a))) s (k + 2 * (t + 1)) := by
          rw [← hW9]; exact ((((HAT8.out.setCell hhb).setCell hhb).setCell hhb).setCell hhb).setCell hhb
        have hon9 : Only (Within lo hi) w W9 := by
          rw [← hW9]
          exact ((((HC8.out.only.trans2 (only_set _ bR 0 _) fun q hq e => by omega).trans2 (only_set _ bR 1 _) fun q hq e => by omega).trans2 (only_set _ bR 2 _) fun q hq e => by omega).trans2 (only_set _ bR 3 _) fun q hq e => by omega).trans2 (only_set _ bR 4 _) fun q hq e => by omega
        refine bodyPost_ret (v := .agg #[.slice An ns.length cn, .int .i64 off, .slice Al L.length cl, .slice Ar Q.length cr, .int .i64 ((t : Int) + 1)]) ?_ rfl ?_
        · rw [results_cell1 rfl]
          go_simp
        · rw [← HRR.out]
          exact ⟨_, _, _, by simp, neC HO8.out.1, neC HO8.out.2.1, neC HO8.out.2.2, hat9, hon9⟩
      | false =>
        go_wp2_with fail
        go_roundg g
        case measure => omega
        case rel =>
          exact ⟨t + 1, _, _, _, _, by omega, HC8.out, HAT8.out, by have h := HRF.out; rwa [if_neg (by simp)] at h⟩
    · skip
      obtain ⟨tl, htl⟩ : ∃ tl, decide ((t : Int) < 4) = tl := ⟨_, rfl⟩
      obtain ⟨nl, hnl⟩ : ∃ nl, decide ((1 : Int) < (n : Int)) = nl := ⟨_, rfl⟩
      have htn : tl = false ∨ nl = false := by
        rcases hex with h | h
        · exact .inl (by rw [← htl]; exact decide_eq_false (by omega))
        · exact .inr (by rw [← hnl]; exact decide_eq_false (by omega))
      have HRR := Lib.hid hRf
      have ht4 : t ≤ 4 := by omega
      have hTN : (tl = false) ∨ (tl = true ∧ nl = false) := by
        cases tl
        · exact .inl rfl
        · exact .inr ⟨rfl, htn.resolve_left (by simp)⟩
      clear hR hRf hex hkt htn
      have HD := Lib.hid (show ∀ W, Only (Within lo hi) w W → It W b dim rows from fun W hW => (HIT.out.only hW HS1.out).it)
      have HW := HC.out.only
      have hw4 := HAT.out
      have HONW := Lib.hid HW
      clear HW hw4
      rcases hTN with rfl | ⟨rfl, rfl⟩
      · skip
        go_wp2_with fail
        refine (Dim_calls b dim rows wr (HD.out _ HONW.out)).mono ?_
        rintro e _ ⟨he, rfl⟩
        subst he
        go_wp2_with fail
        refine (Flat_calls (dim : Int) wr (by omega)).mono ?_
        rintro e W5 ⟨vn, he, hon, hb5⟩
        subst he
        rw [if_neg (by omega), Int.toNat_natCast] at hon
        obtain ⟨An, cn, rfl, hcn, _⟩ := hon.shape
        rw [List.length_replicate] at hon hcn ⊢
        have hC5 := HC.out.below hb5
        have HC5 := Lib.hid hC5
        have HON := Lib.hid (show Own W5 (bR + 2) 21 .i32 (.slice An dim cn) (List.replicate dim 0) from hon.low (by have := obj_lt HC.out.own; omega))
        have HAT5 := Lib.hid (HAT.out.below hb5 (by have := HC.out.only.size; omega))
        have f0 : W5.frozen? ⟨bR + 1, 0, none⟩ = false := free_blk hC5.own 0
        have f1 : W5.frozen? ⟨bR + 1, 1, none⟩ = false := free_blk hC5.own 1
        have c0 : W5.cell? ⟨bR + 1, 0, none⟩ = some x0 := by have h := cell_blk hC5.own 0; exact h
        have c1 : W5.cell? ⟨bR + 1, 1, none⟩ = some x1 := by have h := cell_blk hC5.own 1; exact h
        clear hon hb5 hC5 hc4 hf4
        go_wp2_with fail
        obtain ⟨W6, hW6⟩ : ∃ W, (W5.setCell ⟨bR + 1, 0, none⟩ (.slice An dim cn)).setCell ⟨bR + 1, 1, none⟩ (.int .i64 0) = W := ⟨_, rfl⟩
        rw [hW6]
        have HC6 := Lib.hid (show CS w lo hi bR [.slice An dim cn, .int .i64 0, x2, x3, .int .i64 (t : Nat)] W6 by rw [← hW6]; exact (HC5.out.set hwb 0 _).set hwb 1 _)
        have HAT6 := Lib.hid (show At W6 lo hi (.iface T (.pointer (some a))) s (k + 2 * t) by rw [← hW6]; exact (HAT5.out.setCell (by omega)).setCell (by omega))
        have HON6 := Lib.hid (show Own W6 (bR + 2) 21 .i32 (.slice An dim cn) (List.replicate dim 0) by
          have hne : ∀ q, (Value.slice An dim cn).ownBlock = some q → ¬ q = bR + 1 := fun q hq => by have := (HON.out.lt q hq).1; omega
          rw [← hW6]; exact (HON.out.only (only_set _ _ _ _) hne).only (only_set _ _ _ _) hne)
        clear hW6 f0 f1 c0 c1 HC5 HAT5 HON
        refine (HN.out ▸ (Halves_calls A c ids W6 (KA.out.onlyB HC6.out.only HS2.out) (by rw [HN.out]; exact hc) (by rw [HN.out]; exact hl))).mono ?_
        rintro e W7 ⟨vl, vr, he, hol, hor, hb7⟩
        subst he
        have hlt6 := obj_lt HC6.out.own
        obtain ⟨Al, cl, rfl, hcl, _⟩ := hol.shape
        obtain ⟨Ar, cr, rfl, hcr, _⟩ := hor.shape
        obtain ⟨L, hL⟩ : ∃ L, ids.take (halfN n) = L := ⟨_, rfl⟩
        obtain ⟨Q, hQ⟩ : ∃ Q, ids.drop (halfN n) = Q := ⟨_, rfl⟩
        rw [hL] at hol hcl ⊢
        rw [hQ] at hor hcr ⊢
        have HRR2 := Lib.hid (show (⟨List.replicate dim 0, 0, L, Q, t⟩ : SplitV) = R by rw [← HRR.out]; unfold flatV; rw [HN.out, hL, hQ])
        have HOL := Lib.hid (hol.low (show bR + 2 ≤ W6.heap.size by omega))
        have HOR := Lib.hid (hor.low (show bR + 2 ≤ W6.heap.size by omega))
        have HON7 := Lib.hid (HON6.out.keep hb7)
        have hC7 := HC6.out.below hb7
        have HC7 := Lib.hid hC7
        have HAT7 := Lib.hid (HAT6.out.below hb7 (by have := HC6.out.only.size; omega))
        have f2 : W7.frozen? ⟨bR + 1, 2, none⟩ = false := free_blk hC7.own 2
        have f3 : W7.frozen? ⟨bR + 1, 3, none⟩ = false := free_blk hC7.own 3
        have c2 : W7.cell? ⟨bR + 1, 2, none⟩ = some x2 := by have h := cell_blk hC7.own 2; exact h
        have c3 : W7.cell? ⟨bR + 1, 3, none⟩ = some x3 := by have h := cell_blk hC7.own 3; exact h
        have c0 : W7.cell? ⟨bR + 1, 0, none⟩ = some (.slice An dim cn) := by have h := cell_blk hC7.own 0; exact h
        have c1 : W7.cell? ⟨bR + 1, 1, none⟩ = some (.int .i64 0) := by have h := cell_blk hC7.own 1; exact h
        have c4 : W7.cell? ⟨bR + 1, 4, none⟩ = some (.int .i64 (t : Nat)) := by have h := cell_blk hC7.own 4; exact h
        have r0 : W7.cell? ⟨bR, 0, none⟩ = some (.slice none 0 0) := by have h := hC7.res; simp [World.cell?, h]
        have r1 : W7.cell? ⟨bR, 1, none⟩ = some (.int .i64 0) := by have h := hC7.res; simp [World.cell?, h]
        have r2 : W7.cell? ⟨bR, 2, none⟩ = some (.slice none 0 0) := by have h := hC7.res; simp [World.cell?, h]
        have r3 : W7.cell? ⟨bR, 3, none⟩ = some (.slice none 0 0) := by have h := hC7.res; simp [World.cell?, h]
        have r4 : W7.cell? ⟨bR, 4, none⟩ = some (.int .i64 0) := by have h := hC7.res; simp [World.cell?, h]
        have q0 : W7.frozen? ⟨bR, 0, none⟩ = false := free_blk hC7.res 0
        have q1 : W7.frozen? ⟨bR, 1, none⟩ = false := free_blk hC7.res 1
        have q2 : W7.frozen? ⟨bR, 2, none⟩ = false := free_blk hC7.res 2
        have q3 : W7.frozen? ⟨bR, 3, none⟩ = false := free_blk hC7.res 3
        have q4 : W7.frozen? ⟨bR, 4, none⟩ = false := free_blk hC7.res 4
        clear hol hor hb7 hC7 hL hQ
        go_wp2_with fail
        obtain ⟨W8, hW8⟩ : ∃ W, (W7.setCell ⟨bR + 1, 2, none⟩ (.slice Al L.length cl)).setCell ⟨bR + 1, 3, none⟩ (.slice Ar Q.length cr) = W := ⟨_, rfl⟩
        try rw [hW8]
        have neB : ∀ {e : TypeId} {kk : IntKind} {u : Value} {xs : List Int}, Own W7 (bR + 2) e kk u xs → Own W8 (bR + 2) e kk u xs := fun {e kk u xs} h => by
          have hne : ∀ q, u.ownBlock = some q → ¬ q = bR + 1 := fun q hq => by have := (h.lt q hq).1; omega
          rw [← hW8]; exact (h.only (only_set _ _ _ _) hne).only (only_set _ _ _ _) hne
        have HC8 := Lib.hid (show CS w lo hi bR [.slice An dim cn, .int .i64 0, .slice Al L.length cl, .slice Ar Q.length cr, .int .i64 (t : Nat)] W8 by rw [← hW8]; exact (HC7.out.set hwb 2 _).set hwb 3 _)
        have HAT8 := Lib.hid (show At W8 lo hi (.iface T (.pointer (some a))) s (k + 2 * t) by rw [← hW8]; exact (HAT7.out.setCell (by omega)).setCell (by omega))
        have HO8 := Lib.hid (And.intro (neB HON7.out) (And.intro (neB HOL.out) (neB HOR.out)))
        clear neB HRR
        have HRR := HRR2
        obtain ⟨W9, hW9⟩ : ∃ W9, (((((W8.setCell ⟨bR, 0, none⟩ (.slice An dim cn)).setCell ⟨bR, 1, none⟩ (.int .i64 0)).setCell ⟨bR, 2, none⟩ (.slice Al L.length cl)).setCell ⟨bR, 3, none⟩ (.slice Ar Q.length cr)).setCell ⟨bR, 4, none⟩ (.int .i64 (t : Nat))) = W9 := ⟨_, rfl⟩
        have neC : ∀ {e : TypeId} {kk : IntKind} {u : Value} {xs : List Int}, Own W8 (bR + 2) e kk u xs → Own W9 w.heap.size e kk u xs := fun {e kk u xs} h => by
          have hne : ∀ q, u.ownBlock = some q → ¬ q = bR := fun q hq => by have := (h.lt q hq).1; omega
          rw [← hW9]; exact ((((((h.only (only_set _ _ _ _) hne).only (only_set _ _ _ _) hne).only (only_set _ _ _ _) hne).only (only_set _ _ _ _) hne).only (only_set _ _ _ _) hne)).low (by omega)
        have hres : W9.heap[bR]? = some (.cells #[.slice An dim cn, .int .i64 0, .slice Al L.length cl, .slice Ar Q.length cr, .int .i64 (t : Nat)] 115 (0, 0)) := by
          rw [← hW9]; exact set_blk (cs := [_, _, _, _, _]) (set_blk (cs := [_, _, _, _, _]) (set_blk (cs := [_, _, _, _, _]) (set_blk (cs := [_, _, _, _, _]) (set_blk (cs := [_, _, _, _, _]) HC8.out.res 0 _) 1 _) 2 _) 3 _) 4 _
        have e0 : W9.cell? ⟨bR, 0, none⟩ = some (.slice An dim cn) := by simp [World.cell?, hres]
        have e1 : W9.cell? ⟨bR, 1, none⟩ = some (.int .i64 0) := by simp [World.cell?, hres]
        have e2 : W9.cell? ⟨bR, 2, none⟩ = some (.slice Al L.length cl) := by simp [World.cell?, hres]
        have e3 : W9.cell? ⟨bR, 3, none⟩ = some (.slice Ar Q.length cr) := by simp [World.cell?, hres]
        have e4 : W9.cell? ⟨bR, 4, none⟩ = some (.int .i64 (t : Nat)) := by simp [World.cell?, hres]
        rw [hW9]
        have hat9 : At W9 lo hi (.iface T (.pointer (some a))) s (k + 2 * t) := by
          rw [← hW9]; exact ((((HAT8.out.setCell hhb).setCell hhb).setCell hhb).setCell hhb).setCell hhb
        have hon9 : Only (Within lo hi) w W9 := by
          rw [← hW9]
          exact ((((HC8.out.only.trans2 (only_set _ bR 0 _) fun q hq e => by omega).trans2 (only_set _ bR 1 _) fun q hq e => by omega).trans2 (only_set _ bR 2 _) fun q hq e => by omega).trans2 (only_set _ bR 3 _) fun q hq e => by omega).trans2 (only_set _ bR 4 _) fun q hq e => by omega
        refine bodyPost_ret (v := .agg #[.slice An dim cn, .int .i64 0, .slice Al L.length cl, .slice Ar Q.length cr, .int .i64 (t : Nat)]) ?_ rfl ?_
        · rw [results_cell1 rfl]
          go_simp
        · rw [← HRR.out]
          exact ⟨_, _, _, by simp, neC HO8.out.1, neC HO8.out.2.1, neC HO8.out.2.2, hat9, hon9⟩
      · skip
        go_wp2_with fail
        refine (Dim_calls b dim rows wr (HD.out _ HONW.out)).mono ?_
        rintro e _ ⟨he, rfl⟩
        subst he
        go_wp2_with fail
        refine (Flat_calls (dim : Int) wr (by omega)).mono ?_
        rintro e W5 ⟨vn, he, hon, hb5⟩
        subst he
        rw [if_neg (by omega), Int.toNat_natCast] at hon
        obtain ⟨An, cn, rfl, hcn, _⟩ := hon.shape
        rw [List.length_replicate] at hon hcn ⊢
        have hC5 := HC.out.below hb5
        have HC5 := Lib.hid hC5
        have HON := Lib.hid (show Own W5 (bR + 2) 21 .i32 (.slice An dim cn) (List.replicate dim 0) from hon.low (by have := obj_lt HC.out.own; omega))
        have HAT5 := Lib.hid (HAT.out.below hb5 (by have := HC.out.only.size; omega))
        have f0 : W5.frozen? ⟨bR + 1, 0, none⟩ = false := free_blk hC5.own 0
        have f1 : W5.frozen? ⟨bR + 1, 1, none⟩ = false := free_blk hC5.own 1
        have c0 : W5.cell? ⟨bR + 1, 0, none⟩ = some x0 := by have h := cell_blk hC5.own 0; exact h
        have c1 : W5.cell? ⟨bR + 1, 1, none⟩ = some x1 := by have h := cell_blk hC5.own 1; exact h
        clear hon hb5 hC5 hc4 hf4
        go_wp2_with fail
        obtain ⟨W6, hW6⟩ : ∃ W, (W5.setCell ⟨bR + 1, 0, none⟩ (.slice An dim cn)).setCell ⟨bR + 1, 1, none⟩ (.int .i64 0) = W := ⟨_, rfl⟩
        rw [hW6]
        have HC6 := Lib.hid (show CS w lo hi bR [.slice An dim cn, .int .i64 0, x2, x3, .int .i64 (t : Nat)] W6 by rw [← hW6]; exact (HC5.out.set hwb 0 _).set hwb 1 _)
        have HAT6 := Lib.hid (show At W6 lo hi (.iface T (.pointer (some a))) s (k + 2 * t) by rw [← hW6]; exact (HAT5.out.setCell (by omega)).setCell (by omega))
        have HON6 := Lib.hid (show Own W6 (bR + 2) 21 .i32 (.slice An dim cn) (List.replicate dim 0) by
          have hne : ∀ q, (Value.slice An dim cn).ownBlock = some q → ¬ q = bR + 1 := fun q hq => by have := (HON.out.lt q hq).1; omega
          rw [← hW6]; exact (HON.out.only (only_set _ _ _ _) hne).only (only_set _ _ _ _) hne)
        clear hW6 f0 f1 c0 c1 HC5 HAT5 HON
        refine (HN.out ▸ (Halves_calls A c ids W6 (KA.out.onlyB HC6.out.only HS2.out) (by rw [HN.out]; exact hc) (by rw [HN.out]; exact hl))).mono ?_
        rintro e W7 ⟨vl, vr, he, hol, hor, hb7⟩
        subst he
        have hlt6 := obj_lt HC6.out.own
        obtain ⟨Al, cl, rfl, hcl, _⟩ := hol.shape
        obtain ⟨Ar, cr, rfl, hcr, _⟩ := hor.shape
        obtain ⟨L, hL⟩ : ∃ L, ids.take (halfN n) = L := ⟨_, rfl⟩
        obtain ⟨Q, hQ⟩ : ∃ Q, ids.drop (halfN n) = Q := ⟨_, rfl⟩
        rw [hL] at hol hcl ⊢
        rw [hQ] at hor hcr ⊢
        have HRR2 := Lib.hid (show (⟨List.replicate dim 0, 0, L, Q, t⟩ : SplitV) = R by rw [← HRR.out]; unfold flatV; rw [HN.out, hL, hQ])
        have HOL := Lib.hid (hol.low (show bR + 2 ≤ W6.heap.size by omega))
        have HOR := Lib.hid (hor.low (show bR + 2 ≤ W6.heap.size by omega))
        have HON7 := Lib.hid (HON6.out.keep hb7)
        have hC7 := HC6.out.below hb7
        have HC7 := Lib.hid hC7
        have HAT7 := Lib.hid (HAT6.out.below hb7 (by have := HC6.out.only.size; omega))
        have f2 : W7.frozen? ⟨bR + 1, 2, none⟩ = false := free_blk hC7.own 2
        have f3 : W7.frozen? ⟨bR + 1, 3, none⟩ = false := free_blk hC7.own 3
        have c2 : W7.cell? ⟨bR + 1, 2, none⟩ = some x2 := by have h := cell_blk hC7.own 2; exact h
        have c3 : W7.cell? ⟨bR + 1, 3, none⟩ = some x3 := by have h := cell_blk hC7.own 3; exact h
        have c0 : W7.cell? ⟨bR + 1, 0, none⟩ = some (.slice An dim cn) := by have h := cell_blk hC7.own 0; exact h
        have c1 : W7.cell? ⟨bR + 1, 1, none⟩ = some (.int .i64 0) := by have h := cell_blk hC7.own 1; exact h
        have c4 : W7.cell? ⟨bR + 1, 4, none⟩ = some (.int .i64 (t : Nat)) := by have h := cell_blk hC7.own 4; exact h
        have r0 : W7.cell? ⟨bR, 0, none⟩ = some (.slice none 0 0) := by have h := hC7.res; simp [World.cell?, h]
        have r1 : W7.cell? ⟨bR, 1, none⟩ = some (.int .i64 0) := by have h := hC7.res; simp [World.cell?, h]
        have r2 : W7.cell? ⟨bR, 2, none⟩ = some (.slice none 0 0) := by have h := hC7.res; simp [World.cell?, h]
        have r3 : W7.cell? ⟨bR, 3, none⟩ = some (.slice none 0 0) := by have h := hC7.res; simp [World.cell?, h]
        have r4 : W7.cell? ⟨bR, 4, none⟩ = some (.int .i64 0) := by have h := hC7.res; simp [World.cell?, h]
        have q0 : W7.frozen? ⟨bR, 0, none⟩ = false := free_blk hC7.res 0
        have q1 : W7.frozen? ⟨bR, 1, none⟩ = false := free_blk hC7.res 1
        have q2 : W7.frozen? ⟨bR, 2, none⟩ = false := free_blk hC7.res 2
        have q3 : W7.frozen? ⟨bR, 3, none⟩ = false := free_blk hC7.res 3
        have q4 : W7.frozen? ⟨bR, 4, none⟩ = false := free_blk hC7.res 4
        clear hol hor hb7 hC7 hL hQ
        go_wp2_with fail
        obtain ⟨W8, hW8⟩ : ∃ W, (W7.setCell ⟨bR + 1, 2, none⟩ (.slice Al L.length cl)).setCell ⟨bR + 1, 3, none⟩ (.slice Ar Q.length cr) = W := ⟨_, rfl⟩
        try rw [hW8]
        have neB : ∀ {e : TypeId} {kk : IntKind} {u : Value} {xs : List Int}, Own W7 (bR + 2) e kk u xs → Own W8 (bR + 2) e kk u xs := fun {e kk u xs} h => by
          have hne : ∀ q, u.ownBlock = some q → ¬ q = bR + 1 := fun q hq => by have := (h.lt q hq).1; omega
          rw [← hW8]; exact (h.only (only_set _ _ _ _) hne).only (only_set _ _ _ _) hne
        have HC8 := Lib.hid (show CS w lo hi bR [.slice An dim cn, .int .i64 0, .slice Al L.length cl, .slice Ar Q.length cr, .int .i64 (t : Nat)] W8 by rw [← hW8]; exact (HC7.out.set hwb 2 _).set hwb 3 _)
        have HAT8 := Lib.hid (show At W8 lo hi (.iface T (.pointer (some a))) s (k + 2 * t) by rw [← hW8]; exact (HAT7.out.setCell (by omega)).setCell (by omega))
        have HO8 := Lib.hid (And.intro (neB HON7.out) (And.intro (neB HOL.out) (neB HOR.out)))
        clear neB HRR
        have HRR := HRR2
        obtain ⟨W9, hW9⟩ : ∃ W9, (((((W8.setCell ⟨bR, 0, none⟩ (.slice An dim cn)).setCell ⟨bR, 1, none⟩ (.int .i64 0)).setCell ⟨bR, 2, none⟩ (.slice Al L.length cl)).setCell ⟨bR, 3, none⟩ (.slice Ar Q.length cr)).setCell ⟨bR, 4, none⟩ (.int .i64 (t : Nat))) = W9 := ⟨_, rfl⟩
        have neC : ∀ {e : TypeId} {kk : IntKind} {u : Value} {xs : List Int}, Own W8 (bR + 2) e kk u xs → Own W9 w.heap.size e kk u xs := fun {e kk u xs} h => by
          have hne : ∀ q, u.ownBlock = some q → ¬ q = bR := fun q hq => by have := (h.lt q hq).1; omega
          rw [← hW9]; exact ((((((h.only (only_set _ _ _ _) hne).only (only_set _ _ _ _) hne).only (only_set _ _ _ _) hne).only (only_set _ _ _ _) hne).only (only_set _ _ _ _) hne)).low (by omega)
        have hres : W9.heap[bR]? = some (.cells #[.slice An dim cn, .int .i64 0, .slice Al L.length cl, .slice Ar Q.length cr, .int .i64 (t : Nat)] 115 (0, 0)) := by
          rw [← hW9]; exact set_blk (cs := [_, _, _, _, _]) (set_blk (cs := [_, _, _, _, _]) (set_blk (cs := [_, _, _, _, _]) (set_blk (cs := [_, _, _, _, _]) (set_blk (cs := [_, _, _, _, _]) HC8.out.res 0 _) 1 _) 2 _) 3 _) 4 _
        have e0 : W9.cell? ⟨bR, 0, none⟩ = some (.slice An dim cn) := by simp [World.cell?, hres]
        have e1 : W9.cell? ⟨bR, 1, none⟩ = some (.int .i64 0) := by simp [World.cell?, hres]
        have e2 : W9.cell? ⟨bR, 2, none⟩ = some (.slice Al L.length cl) := by simp [World.cell?, hres]
        have e3 : W9.cell? ⟨bR, 3, none⟩ = some (.slice Ar Q.length cr) := by simp [World.cell?, hres]
        have e4 : W9.cell? ⟨bR, 4, none⟩ = some (.int .i64 (t : Nat)) := by simp [World.cell?, hres]
        rw [hW9]
        have hat9 : At W9 lo hi (.iface T (.pointer (some a))) s (k + 2 * t) := by
          rw [← hW9]; exact ((((HAT8.out.setCell hhb).setCell hhb).setCell hhb).setCell hhb).setCell hhb
        have hon9 : Only (Within lo hi) w W9 := by
          rw [← hW9]
          exact ((((HC8.out.only.trans2 (only_set _ bR 0 _) fun q hq e => by omega).trans2 (only_set _ bR 1 _) fun q hq e => by omega).trans2 (only_set _ bR 2 _) fun q hq e => by omega).trans2 (only_set _ bR 3 _) fun q hq e => by omega).trans2 (only_set _ bR 4 _) fun q hq e => by omega
        refine bodyPost_ret (v := .agg #[.slice An dim cn, .int .i64 0, .slice Al L.length cl, .slice Ar Q.length cr, .int .i64 (t : Nat)]) ?_ rfl ?_
        · rw [results_cell1 rfl]
          go_simp
        · rw [← HRR.out]
          exact ⟨_, _, _, by simp, neC HO8.out.1, neC HO8.out.2.1, neC HO8.out.2.2, hat9, hon9⟩
end Go.Proofs.YticdmglondpgaaaGreat

/-! ## WholeL: What Choose's two sides are, plain: together all ids; of two at least neither is empty, and each has an eighth at least. No program in sight. -/
namespace Go.Proofs.YticdmglondpgaaaGreat
open Go.RowKit
set_option linter.unusedVariables false
set_option maxRecDepth 100000

theorem filter_two_perm {α : Type} (p : α → Bool) (l : List α) : (l.filter (fun x => p x == false) ++ l.filter (fun x => p x == true)).Perm l := by
  have h1 : (l.filter fun x => p x == true) = l.filter p := List.filter_congr fun x _ => by cases p x <;> rfl
  have h2 : (l.filter fun x => p x == false) = l.filter fun x => !p x := List.filter_congr fun x _ => by cases p x <;> rfl
  rw [h1, h2]
  exact List.perm_append_comm.trans (List.filter_append_perm p l)
theorem choose_cases (rows : List (List Int)) (dim : Nat) (ids : List Int) (s : Nat → Int) (k : Nat) :
    (∃ t, t ≤ 4 ∧ (ids.length < 2 → t = 0) ∧ choose rows dim ids s k = flatV dim ids t) ∨ (1 < ids.length ∧ ∃ j t, t ≤ 4 ∧ choose rows dim ids s k = tryV rows ids s j t ∧ goodB (tryV rows ids s j t).left.length (tryV rows ids s j t).right.length = true) := by
  have hF : ∀ f t, f + t = 4 → (ids.length < 2 → t = 0) → (∃ t', t' ≤ 4 ∧ (ids.length < 2 → t' = 0) ∧ chooseF rows dim ids s k f t = flatV dim ids t') ∨ (1 < ids.length ∧ ∃ j t', t' ≤ 4 ∧ chooseF rows dim ids s k f t = tryV rows ids s j t' ∧ goodB (tryV rows ids s j t').left.length (tryV rows ids s j t').right.length = true) := fun f => by
    induction f with
    | zero => intro t h1 h2; exact .inl ⟨t, by omega, h2, rfl⟩
    | succ f ih =>
      intro t h1 h2
      unfold chooseF
      by_cases h : 1 < ids.length
      · rw [if_pos h]
        split
        · rename_i hg; exact .inr ⟨h, _, _, by omega, rfl, hg⟩
        · exact ih (t + 1) (by omega) (fun h3 => by omega)
      · rw [if_neg h]; exact .inl ⟨t, by omega, h2, rfl⟩
  exact hF 4 0 rfl fun _ => rfl
theorem choose_tr (rows : List (List Int)) (dim : Nat) (ids : List Int) (s : Nat → Int) (k : Nat) : (choose rows dim ids s k).tries ≤ 4 := by
  rcases choose_cases rows dim ids s k with ⟨t, ht, _, h⟩ | ⟨_, j, t, ht, h, _⟩ <;> rw [h]
  · exact ht
  · exact ht
theorem choose_perm (rows : List (List Int)) (dim : Nat) (ids : List Int) (s : Nat → Int) (k : Nat) : ((choose rows dim ids s k).left ++ (choose rows dim ids s k).right).Perm ids := by
  rcases choose_cases rows dim ids s k with ⟨t, _, _, h⟩ | ⟨_, j, t, _, h, _⟩
  · rw [h]; simp [flatV]
  · rw [h]; exact filter_two_perm _ _
theorem choose_len (rows : List (List Int)) (dim : Nat) (ids : List Int) (s : Nat → Int) (k : Nat) : (choose rows dim ids s k).left.length + (choose rows dim ids s k).right.length = ids.length := by
  have h := (choose_perm rows dim ids s k).length_eq
  rwa [List.length_append] at h
theorem choose_parts (rows : List (List Int)) (dim : Nat) (ids : List Int) (s : Nat → Int) (k : Nat) (h2 : 2 ≤ ids.length) : 0 < (choose rows dim ids s k).left.length ∧ 0 < (choose rows dim ids s k).right.length ∧ ids.length ≤ 8 * min (choose rows dim ids s k).left.length (choose rows dim ids s k).right.length := by
  have hl := choose_len rows dim ids s k
  rcases choose_cases rows dim ids s k with ⟨t, _, _, h⟩ | ⟨_, j, t, _, h, hg⟩
  · rw [h]; simp [flatV, halfN]; omega
  · rw [h] at hl ⊢
    unfold goodB at hg
    rw [Bool.and_eq_true, decide_eq_true_iff, decide_eq_true_iff] at hg
    omega
theorem choose_few (rows : List (List Int)) (dim : Nat) (ids : List Int) (s : Nat → Int) (k : Nat) (h2 : ids.length < 2) : (choose rows dim ids s k).tries = 0 := by
  rcases choose_cases rows dim ids s k with ⟨t, _, ht, h⟩ | ⟨h1, _⟩
  · rw [h]; exact ht h2
  · omega
theorem choose_dim {rows : List (List Int)} {dim : Nat} (hl : ∀ r ∈ rows, r.length = dim) (ids : List Int) (s : Nat → Int) (k : Nat) : (choose rows dim ids s k).ns.length ≤ dim := by
  have hz : ∀ id, (itemZ rows id).length ≤ dim := fun id => by
    unfold itemZ
    split
    · rename_i hh
      have h1 : id.toNat < rows.length := by omega
      have := hl (rows.getD id.toNat []) (by simp [List.getD, h1])
      omega
    · simp
  rcases choose_cases rows dim ids s k with ⟨t, _, _, h⟩ | ⟨_, j, t, _, h, _⟩
  · rw [h]; simp [flatV]
  · rw [h]
    have h1 := hz (ids.getD (pX s j ids.length).toNat 0)
    have h2 := hz (ids.getD (pY s j ids.length).toNat 0)
    simp only [tryV, less, lessN_length, itemA, itemB]
    omega
end Go.Proofs.YticdmglondpgaaaGreat

/-! ## GrowL: Trees, plain: the tree by definition (two trees below a split), and the same by a stack of jobs; how many nodes and draws. No program in sight. -/
namespace Go.Proofs.YticdmglondpgaaaGreat
open Go.RowKit
set_option linter.unusedVariables false
set_option maxRecDepth 100000

structure NodeV where
  leaf : Bool
  ids : List Int
  ns : List Int
  off : Int
  left : Int
  right : Int
def leafN (ids : List Int) : NodeV := ⟨true, ids, [], 0, 0, 0⟩
def growF (rows : List (List Int)) (dim leaf : Nat) (s : Nat → Int) : Nat → List Int → Nat → Nat → List NodeV × Nat
  | 0, ids, _, k => ([leafN ids], k)
  | f + 1, ids, at_, k => if ids.length ≤ leaf then ([leafN ids], k) else
    (⟨false, [], (choose rows dim ids s k).ns, (choose rows dim ids s k).off, ((at_ + 1 : Nat) : Int), ((at_ + 1 + (growF rows dim leaf s f (choose rows dim ids s k).left (at_ + 1) (k + 2 * (choose rows dim ids s k).tries)).1.length : Nat) : Int)⟩ ::
      ((growF rows dim leaf s f (choose rows dim ids s k).left (at_ + 1) (k + 2 * (choose rows dim ids s k).tries)).1 ++
       (growF rows dim leaf s f (choose rows dim ids s k).right (at_ + 1 + (growF rows dim leaf s f (choose rows dim ids s k).left (at_ + 1) (k + 2 * (choose rows dim ids s k).tries)).1.length) (growF rows dim leaf s f (choose rows dim ids s k).left (at_ + 1) (k + 2 * (choose rows dim ids s k).tries)).2).1),
     (growF rows dim leaf s f (choose rows dim ids s k).right (at_ + 1 + (growF rows dim leaf s f (choose rows dim ids s k).left (at_ + 1) (k + 2 * (choose rows dim ids s k).tries)).1.length) (growF rows dim leaf s f (choose rows dim ids s k).left (at_ + 1) (k + 2 * (choose rows dim ids s k).tries)).2).2)
theorem growF_leaf {rows : List (List Int)} {dim leaf : Nat} {s : Nat → Int} {f : Nat} {ids : List Int} (at_ k : Nat) (h : ids.length ≤ leaf ∨ f = 0) : growF rows dim leaf s f ids at_ k = ([leafN ids], k) := by
  cases f with
  | zero => rfl
  | succ f =>
    unfold growF
    rw [if_pos (by omega)]
theorem growF_split {rows : List (List Int)} {dim leaf : Nat} {s : Nat → Int} {f : Nat} {ids : List Int} (at_ k : Nat) (h : leaf < ids.length) {C : SplitV} (hC : choose rows dim ids s k = C) {L R : List NodeV × Nat}
    (hL : growF rows dim leaf s f C.left (at_ + 1) (k + 2 * C.tries) = L) (hR : growF rows dim leaf s f C.right (at_ + 1 + L.1.length) L.2 = R) :
    growF rows dim leaf s (f + 1) ids at_ k = (⟨false, [], C.ns, C.off, ((at_ + 1 : Nat) : Int), ((at_ + 1 + L.1.length : Nat) : Int)⟩ :: (L.1 ++ R.1), R.2) := by
  subst hC; subst hL; subst hR
  rw [growF]
  rw [if_neg (by omega)]
/-- How many nodes, and draws. -/
theorem growF_size (rows : List (List Int)) (dim : Nat) {leaf : Nat} (s : Nat → Int) (hl : 1 ≤ leaf) : ∀ (f : Nat) (ids : List Int) (at_ k : Nat), 1 ≤ ids.length → 1 ≤ (growF rows dim leaf s f ids at_ k).1.length ∧ (growF rows dim leaf s f ids at_ k).1.length + 1 ≤ 2 * ids.length ∧ k ≤ (growF rows dim leaf s f ids at_ k).2 ∧ (growF rows dim leaf s f ids at_ k).2 + 8 ≤ k + 8 * ids.length := fun f => by
  induction f with
  | zero => intro ids at_ k h; simp [growF]; omega
  | succ f ih =>
    intro ids at_ k h
    rcases Nat.lt_or_ge leaf ids.length with hh | hh
    · obtain ⟨C, hC⟩ : ∃ C, choose rows dim ids s k = C := ⟨_, rfl⟩
      obtain ⟨L, hL⟩ : ∃ L, growF rows dim leaf s f C.left (at_ + 1) (k + 2 * C.tries) = L := ⟨_, rfl⟩
      obtain ⟨R, hR⟩ : ∃ R, growF rows dim leaf s f C.right (at_ + 1 + L.1.length) L.2 = R := ⟨_, rfl⟩
      have h1 := choose_len rows dim ids s k
      have h2 := choose_parts rows dim ids s k (by omega)
      have h3 := choose_tr rows dim ids s k
      rw [hC] at h1 h2 h3
      rw [growF_split at_ k hh hC hL hR]
      have i1 := ih C.left (at_ + 1) (k + 2 * C.tries) (by omega)
      have i2 := ih C.right (at_ + 1 + L.1.length) L.2 (by omega)
      rw [hL] at i1
      rw [hR] at i2
      simp only [List.length_cons, List.length_append]
      omega
    · rw [growF_leaf at_ k (.inl hh)]
      simp; omega
structure JobV where
  ids : List Int
  f : Nat
  up : Option Nat
def setR (N : List NodeV) (up : Option Nat) (v : Int) : List NodeV := match up with
  | none => N
  | some u => N.modify u fun x => { x with right := v }
theorem setR_length (N : List NodeV) (up : Option Nat) (v : Int) : (setR N up v).length = N.length := by
  cases up <;> simp [setR]
def finJ (rows : List (List Int)) (dim leaf : Nat) (s : Nat → Int) : List NodeV → List JobV → Nat → List NodeV × Nat
  | N, [], k => (N, k)
  | N, j :: st, k => finJ rows dim leaf s (setR N j.up N.length ++ (growF rows dim leaf s j.f j.ids N.length k).1) st (growF rows dim leaf s j.f j.ids N.length k).2
theorem finJ_leaf {rows : List (List Int)} {dim leaf : Nat} {s : Nat → Int} {N : List NodeV} {ids : List Int} {f : Nat} {up : Option Nat} {st : List JobV} {k : Nat} (h : ids.length ≤ leaf ∨ f = 0) :
    finJ rows dim leaf s N (⟨ids, f, up⟩ :: st) k = finJ rows dim leaf s (setR N up N.length ++ [leafN ids]) st k := by
  rw [finJ]
  simp only [growF_leaf _ _ h]
theorem finJ_split {rows : List (List Int)} {dim leaf : Nat} {s : Nat → Int} {N : List NodeV} {ids : List Int} {f : Nat} {up : Option Nat} {st : List JobV} {k : Nat} (h : leaf < ids.length) {C : SplitV} (hC : choose rows dim ids s k = C) :
    finJ rows dim leaf s N (⟨ids, f + 1, up⟩ :: st) k = finJ rows dim leaf s (setR N up N.length ++ [⟨false, [], C.ns, C.off, ((N.length + 1 : Nat) : Int), 0⟩]) (⟨C.left, f, none⟩ :: ⟨C.right, f, some N.length⟩ :: st) (k + 2 * C.tries) := by
  obtain ⟨L, hL⟩ : ∃ L, growF rows dim leaf s f C.left (N.length + 1) (k + 2 * C.tries) = L := ⟨_, rfl⟩
  obtain ⟨R, hR⟩ : ∃ R, growF rows dim leaf s f C.right (N.length + 1 + L.1.length) L.2 = R := ⟨_, rfl⟩
  obtain ⟨M, hM⟩ : ∃ M, setR N up N.length = M := ⟨_, rfl⟩
  have hMl : M.length = N.length := by rw [← hM, setR_length]
  conv => lhs; rw [finJ]
  conv => rhs; rw [finJ, finJ]
  simp only [growF_split N.length k h hC hL hR, hM]
  have e1 : (M ++ [(⟨false, [], C.ns, C.off, ((N.length + 1 : Nat) : Int), 0⟩ : NodeV)]).length = N.length + 1 := by simp [hMl]
  simp only [e1, setR, hL]
  have e2 : (M ++ [(⟨false, [], C.ns, C.off, ((N.length + 1 : Nat) : Int), 0⟩ : NodeV)] ++ L.1).length = N.length + 1 + L.1.length := by simp [hMl]; omega
  simp only [e2, hR]
  congr 1
  have e3 : (M ++ [(⟨false, [], C.ns, C.off, ((N.length + 1 : Nat) : Int), 0⟩ : NodeV)] ++ L.1).modify N.length (fun x => { x with right := ((N.length + 1 + L.1.length : Nat) : Int) }) = M ++ (⟨false, [], C.ns, C.off, ((N.length + 1 : Nat) : Int), ((N.length + 1 + L.1.length : Nat) : Int)⟩ : NodeV) :: L.1 := by
    apply List.ext_getElem?
    intro i
    rw [List.getElem?_modify]
    have k1 : ∀ X : List NodeV, i < N.length → (M ++ X)[i]? = M[i]? := fun X h => by rw [List.getElem?_append_left (by omega)]
    have k2 : ∀ X : List NodeV, N.length ≤ i → (M ++ X)[i]? = X[i - N.length]? := fun X h => by rw [List.getElem?_append_right (by omega), hMl]
    rw [List.append_assoc]
    rcases Nat.lt_trichotomy i N.length with h1 | h1 | h1
    · rw [k1 _ h1, k1 _ h1]; simp [show ¬ N.length = i by omega]
    · rw [k2 _ (by omega), k2 _ (by omega), h1, Nat.sub_self]; simp
    · rw [k2 _ (by omega), k2 _ (by omega)]
      obtain ⟨m, hm⟩ : ∃ m, i - N.length = m + 1 := ⟨i - N.length - 1, by omega⟩
      rw [hm]; simp [show ¬ N.length = i by omega]
  simp only [e3]
  simp
theorem finJ_len (rows : List (List Int)) (dim : Nat) {leaf : Nat} (s : Nat → Int) (hl : 1 ≤ leaf) : ∀ (st : List JobV) (N : List NodeV) (k : Nat), (∀ j ∈ st, 1 ≤ j.ids.length) → N.length + st.length ≤ (finJ rows dim leaf s N st k).1.length := fun st => by
  induction st with
  | nil => intro N k _; simp [finJ]
  | cons j st ih =>
    intro N k h
    rw [finJ]
    have h1 := ih (setR N j.up N.length ++ (growF rows dim leaf s j.f j.ids N.length k).1) (growF rows dim leaf s j.f j.ids N.length k).2 (fun j' hj => h j' (List.mem_cons_of_mem _ hj))
    have h2 := growF_size rows dim s hl j.f j.ids N.length k (h j (List.mem_cons_self))
    rw [List.length_append, setR_length] at h1
    rw [List.length_cons]
    omega
theorem finJ_draws (rows : List (List Int)) (dim : Nat) {leaf : Nat} (s : Nat → Int) (hl : 1 ≤ leaf) : ∀ (st : List JobV) (N : List NodeV) (k : Nat), (∀ j ∈ st, 1 ≤ j.ids.length) → k ≤ (finJ rows dim leaf s N st k).2 := fun st => by
  induction st with
  | nil => intro N k _; simp [finJ]
  | cons j st ih =>
    intro N k h
    rw [finJ]
    have h1 := ih (setR N j.up N.length ++ (growF rows dim leaf s j.f j.ids N.length k).1) (growF rows dim leaf s j.f j.ids N.length k).2 (fun j' hj => h j' (List.mem_cons_of_mem _ hj))
    have h2 := growF_size rows dim s hl j.f j.ids N.length k (h j (List.mem_cons_self))
    omega
end Go.Proofs.YticdmglondpgaaaGreat

/-! ## Stru: Rows of nodes and of jobs that the call owns: words and laws. No condition: plain definitions and lemmas. -/
namespace Go.Proofs.YticdmglondpgaaaGreat
open Go.RowKit
set_option linter.unusedVariables false
set_option maxRecDepth 100000
set_option linter.unusedSimpArgs false

/-- A slice of ints from block base on, in none of the blocks X. -/
def Lies (w : World) (base : Nat) (k : IntKind) (A : Option Addr) (c : Nat) (xs : List Int) (X : Nat → Prop) : Prop :=
  xs.length ≤ c ∧ Rd w k A xs ∧ ∀ ad, 0 < xs.length → A = some ad → base ≤ ad.block ∧ ¬ X ad.block
theorem Lies.step {w w1 : World} {S X X1 : Nat → Prop} {base : Nat} {k : IntKind} {A : Option Addr} {c : Nat} {xs : List Int} (h : Lies w base k A c xs X) (ho : Only S w w1) (hs : ∀ b, base ≤ b → b < w.heap.size → S b → X b) (hx : ∀ b, X1 b → X b ∨ w.heap.size ≤ b) : Lies w1 base k A c xs X1 := by
  obtain ⟨h1, h2, h3⟩ := h
  refine ⟨h1, h2.onlyB ho fun ad hl e hS => (h3 ad hl e).2 (hs _ (h3 ad hl e).1 (Rd.blk_lt h2 ad hl e) hS), fun ad hl e => ⟨(h3 ad hl e).1, fun hX => ?_⟩⟩
  rcases hx _ hX with h4 | h4
  · exact (h3 ad hl e).2 h4
  · have := Rd.blk_lt h2 ad hl e; omega
theorem Lies.own {w : World} {b0 base : Nat} {e : TypeId} {k : IntKind} {A : Option Addr} {c : Nat} {xs : List Int} {X : Nat → Prop} (h : Own w b0 e k (.slice A xs.length c) xs) (hb : base ≤ b0) (hX : ∀ b, X b → b < b0) : Lies w base k A c xs X := by
  obtain ⟨A1, c1, he, hc, hr⟩ := h.shape
  injection he with e1 e2 e3
  subst e1; subst e3
  refine ⟨hc, hr, fun ad hl e => ?_⟩
  obtain ⟨g, e2, hg, _⟩ := Own.at_ h 0 hl
  rw [e] at e2
  injection e2 with e2
  subst e2
  exact ⟨Nat.le_trans hb hg, fun hx => by have := hX _ hx; simp at this; omega⟩
theorem Lies.nil (w : World) (base : Nat) (k : IntKind) (X : Nat → Prop) : Lies w base k none 0 [] X := ⟨Nat.le_refl _, Rd.nil _ _ _, fun ad h => by simp at h⟩


structure NodeA where
  x : NodeV
  A : Option Addr
  c : Nat
  B : Option Addr
  d : Nat
def nodeF (a : NodeA) : List Value := [.bool a.x.leaf, .slice a.A a.x.ids.length a.c, .slice a.B a.x.ns.length a.d, .int .i64 a.x.off, .int .i64 a.x.left, .int .i64 a.x.right]
theorem nodeF_q (a : NodeA) : (nodeF a).length = 6 := rfl
theorem nodeF_one (a : NodeA) : ∀ u ∈ nodeF a, u.oneCell' = true := by intro u hu; simp [nodeF] at hu; rcases hu with rfl | rfl | rfl | rfl | rfl | rfl <;> rfl
/-- A row of nodes. -/
def OwnN (w : World) (base : Nat) (v : Value) (N : List NodeV) (X : Nat → Prop) : Prop :=
  ∃ al : List NodeA, al.map NodeA.x = N ∧ OwnF w base 113 6 nodeF v al ∧ ∀ a ∈ al, Lies w base .i64 a.A a.c a.x.ids X ∧ Lies w base .i32 a.B a.d a.x.ns X
theorem OwnN.nil (w : World) (base : Nat) (X : Nat → Prop) : OwnN w base (.slice none 0 0) [] X := ⟨[], rfl, OwnF.nil _ _ _, fun a h => by simp at h⟩
theorem OwnN.shape {w : World} {base : Nat} {v : Value} {N : List NodeV} {X : Nat → Prop} (h : OwnN w base v N X) : ∃ A c, v = .slice A N.length c ∧ N.length ≤ c := by
  obtain ⟨al, e, ho, _⟩ := h
  obtain ⟨A, c, h1, h2⟩ := ho.shape
  have : al.length = N.length := by rw [← e, List.length_map]
  rw [this] at h1 h2
  exact ⟨A, c, h1, h2⟩
theorem OwnN.lt {w : World} {base : Nat} {v : Value} {N : List NodeV} {X : Nat → Prop} (h : OwnN w base v N X) (b : Nat) (hb : v.ownBlock = some b) : base ≤ b ∧ b < w.heap.size := by
  obtain ⟨al, _, ho, _⟩ := h; exact ho.lt b hb
theorem OwnN.step {w w1 : World} {S X X1 : Nat → Prop} {base : Nat} {v : Value} {N : List NodeV} (h : OwnN w base v N X) (ho : Only S w w1) (hv : ∀ b, v.ownBlock = some b → ¬ S b) (hs : ∀ b, base ≤ b → b < w.heap.size → S b → X b) (hx : ∀ b, X1 b → X b ∨ w.heap.size ≤ b) : OwnN w1 base v N X1 := by
  obtain ⟨al, e, h1, h2⟩ := h
  exact ⟨al, e, h1.only ho hv, fun a ha => ⟨(h2 a ha).1.step ho hs hx, (h2 a ha).2.step ho hs hx⟩⟩
/-- What is read of a node. -/
theorem OwnN.at_ {w : World} {base : Nat} {A : Option Addr} {n c : Nat} {N : List NodeV} {X : Nat → Prop} (h : OwnN w base (.slice A n c) N X) (j : Nat) (hj : j < n) :
    ∃ g x B1 c1 B2 c2, A = some ⟨g, 0, none⟩ ∧ N[j]? = some x ∧ base ≤ g ∧ g < w.heap.size ∧ (∀ i, w.frozen? ⟨g, i, none⟩ = false) ∧
      w.cell? ⟨g, j * 6, none⟩ = some (.bool x.leaf) ∧ w.cell? ⟨g, j * 6 + 1, none⟩ = some (.slice B1 x.ids.length c1) ∧ w.cell? ⟨g, j * 6 + 2, none⟩ = some (.slice B2 x.ns.length c2) ∧
      w.cell? ⟨g, j * 6 + 3, none⟩ = some (.int .i64 x.off) ∧ w.cell? ⟨g, j * 6 + 4, none⟩ = some (.int .i64 x.left) ∧ w.cell? ⟨g, j * 6 + 5, none⟩ = some (.int .i64 x.right) ∧
      Lies w base .i64 B1 c1 x.ids X ∧ Lies w base .i32 B2 c2 x.ns X := by
  obtain ⟨al, e, h1, h2⟩ := h
  obtain ⟨g, a, e1, hb, hlt, hx, hcell, hfz, _⟩ := OwnF.at_ nodeF_q h1 j hj (by omega)
  refine ⟨g, a.x, a.A, a.c, a.B, a.d, e1, by rw [← e]; simp [hx], hb, hlt, hfz, ?_, ?_, ?_, ?_, ?_, ?_, (h2 a (List.mem_of_getElem? hx)).1, (h2 a (List.mem_of_getElem? hx)).2⟩
  · have h := hcell 0 (by omega); exact h
  · have h := hcell 1 (by omega); exact h
  · have h := hcell 2 (by omega); exact h
  · have h := hcell 3 (by omega); exact h
  · have h := hcell 4 (by omega); exact h
  · have h := hcell 5 (by omega); exact h
theorem OwnN.right {w : World} {base : Nat} {g n c : Nat} {N : List NodeV} {X : Nat → Prop} (h : OwnN w base (.slice (some ⟨g, 0, none⟩) n c) N X) (hX : X g) (u : Nat) (hu : u < n) (v : Int) :
    OwnN (w.setCell ⟨g, u * 6 + 5, none⟩ (.int .i64 v)) base (.slice (some ⟨g, 0, none⟩) n c) (setR N (some u) v) X := by
  obtain ⟨al, e, h1, h2⟩ := h
  obtain ⟨g', a, e1, hb, hlt, hx, hcell, hfz, _⟩ := OwnF.at_ nodeF_q h1 u hu (by omega)
  have hul : u < al.length := by
    rcases Nat.lt_or_ge u al.length with h | h
    · exact h
    · rw [List.getElem?_eq_none h] at hx; contradiction
  have hux : al[u] = a := by rw [List.getElem?_eq_getElem hul] at hx; injection hx
  refine ⟨al.set u { a with x := { a.x with right := v } }, ?_, OwnF.storeI nodeF_q h1 u 5 hx (by omega) rfl, fun a' ha' => ?_⟩
  · rw [← e]
    apply List.ext_getElem?
    intro i
    simp only [setR, List.getElem?_modify, List.getElem?_map, List.getElem?_set]
    by_cases hi : u = i
    · subst hi; simp [hul, hux]
    · simp [hi]
  · have key : Lies w base .i64 a'.A a'.c a'.x.ids X ∧ Lies w base .i32 a'.B a'.d a'.x.ns X := by
      rcases List.mem_or_eq_of_mem_set ha' with h3 | h3
      · exact h2 a' h3
      · subst h3; exact h2 a (List.mem_of_getElem? hx)
    exact ⟨key.1.step (only_set w g _ _) (fun b _ _ e => by subst e; exact hX) (fun b hb => .inl hb), key.2.step (only_set w g _ _) (fun b _ _ e => by subst e; exact hX) (fun b hb => .inl hb)⟩

structure JobA where
  x : JobV
  A : Option Addr
  c : Nat
def upI : Option Nat → Int
  | none => -1
  | some u => (u : Int)
def jobF (dm : Nat) (a : JobA) : List Value := [.slice a.A a.x.ids.length a.c, .int .i64 ((dm - a.x.f : Nat) : Int), .int .i64 (upI a.x.up)]
theorem jobF_q (dm : Nat) (a : JobA) : (jobF dm a).length = 3 := rfl
theorem jobF_one (dm : Nat) (a : JobA) : ∀ u ∈ jobF dm a, u.oneCell' = true := by intro u hu; simp [jobF] at hu; rcases hu with rfl | rfl | rfl <;> rfl
def OwnJ (w : World) (base : Nat) (dm : Nat) (v : Value) (J : List JobV) (X : Nat → Prop) : Prop :=
  ∃ al : List JobA, al.map JobA.x = J ∧ OwnF w base 107 3 (jobF dm) v al ∧ ∀ a ∈ al, Lies w base .i64 a.A a.c a.x.ids X
theorem OwnJ.shape {w : World} {base dm : Nat} {v : Value} {J : List JobV} {X : Nat → Prop} (h : OwnJ w base dm v J X) : ∃ A c, v = .slice A J.length c ∧ J.length ≤ c := by
  obtain ⟨al, e, ho, _⟩ := h
  obtain ⟨A, c, h1, h2⟩ := ho.shape
  have : al.length = J.length := by rw [← e, List.length_map]
  rw [this] at h1 h2
  exact ⟨A, c, h1, h2⟩
theorem OwnJ.lt {w : World} {base dm : Nat} {v : Value} {J : List JobV} {X : Nat → Prop} (h : OwnJ w base dm v J X) (b : Nat) (hb : v.ownBlock = some b) : base ≤ b ∧ b < w.heap.size := by
  obtain ⟨al, _, ho, _⟩ := h; exact ho.lt b hb
theorem OwnJ.step {w w1 : World} {S X X1 : Nat → Prop} {base dm : Nat} {v : Value} {J : List JobV} (h : OwnJ w base dm v J X) (ho : Only S w w1) (hv : ∀ b, v.ownBlock = some b → ¬ S b) (hs : ∀ b, base ≤ b → b < w.heap.size → S b → X b) (hx : ∀ b, X1 b → X b ∨ w.heap.size ≤ b) : OwnJ w1 base dm v J X1 := by
  obtain ⟨al, e, h1, h2⟩ := h
  exact ⟨al, e, h1.only ho hv, fun a ha => (h2 a ha).step ho hs hx⟩
theorem OwnJ.top {w : World} {base dm : Nat} {A : Option Addr} {n c : Nat} {J : List JobV} {j : JobV} {X : Nat → Prop} (h : OwnJ w base dm (.slice A (n + 1) c) (J ++ [j]) X) :
    ∃ g B c1, A = some ⟨g, 0, none⟩ ∧ n = J.length ∧ w.cell? ⟨g, n * 3, none⟩ = some (.slice B j.ids.length c1) ∧ w.cell? ⟨g, n * 3 + 1, none⟩ = some (.int .i64 ((dm - j.f : Nat) : Int)) ∧ w.cell? ⟨g, n * 3 + 2, none⟩ = some (.int .i64 (upI j.up)) ∧
      Lies w base .i64 B c1 j.ids X ∧ OwnJ w base dm (.slice A n c) J X := by
  obtain ⟨al, e, h1, h2⟩ := h
  rcases List.eq_nil_or_concat al with rfl | ⟨al0, a, rfl⟩
  · simp at e
  rw [List.concat_eq_append] at h1 h2 e
  rw [List.map_append, List.map_cons, List.map_nil] at e
  obtain ⟨e1, e2⟩ := List.append_inj' e rfl
  injection e2 with e2 _
  obtain ⟨A1, c1, he, _⟩ := h1.shape
  injection he with _ en _
  have hn : n = al0.length := by simp at en; omega
  have hJ : n = J.length := by rw [hn, ← e1, List.length_map]
  obtain ⟨g, a', ea, hb, hlt, hx, hcell, hfz, _⟩ := OwnF.at_ (jobF_q dm) h1 n (by omega) (by omega)
  have ha : a' = a := by
    subst hn
    simp at hx
    exact hx.symm
  subst ha
  subst e2
  refine ⟨g, a'.A, a'.c, ea, hJ, ?_, ?_, ?_, h2 a' (by simp), al0, e1, OwnF.pop (jobF_q dm) h1, fun b hb => h2 b (by simp [hb])⟩
  · have h := hcell 0 (by omega); exact h
  · have h := hcell 1 (by omega); exact h
  · have h := hcell 2 (by omega); exact h
end Go.Proofs.YticdmglondpgaaaGreat

/-! ## Stru2: The state of the tree's making: nodes so far, and a stack of jobs; what pop, push and append do to it; the closure that pushes; Clone and Check. No condition beyond what each theorem names. -/
namespace Go.Proofs.YticdmglondpgaaaGreat
open Go.RowKit
set_option linter.unusedVariables false
set_option maxRecDepth 100000
set_option linter.unusedSimpArgs false

def XB (v u : Value) (bs : Nat) (b : Nat) : Prop := v.ownBlock = some b ∨ u.ownBlock = some b ∨ b = bs
structure St (w : World) (base dm bs : Nat) (v u : Value) (N : List NodeV) (J : List JobV) : Prop where
  n : OwnN w base v N (XB v u bs)
  j : OwnJ w base dm u J (XB v u bs)
  b : w.heap[bs]? = some (.cells #[u] 108 (0, 0))
  lo : base ≤ bs
  vu : ∀ b, v.ownBlock = some b → u.ownBlock ≠ some b
  vb : v.ownBlock ≠ some bs
  ub : u.ownBlock ≠ some bs
section
variable {w w1 w2 : World} {base dm bs : Nat} {v u : Value} {N : List NodeV} {J : List JobV}
theorem St.blt (h : St w base dm bs v u N J) (b : Nat) (hb : XB v u bs b) : base ≤ b ∧ b < w.heap.size := by
  rcases hb with hb | hb | hb
  · exact h.n.lt b hb
  · exact h.j.lt b hb
  · subst hb; exact ⟨h.lo, obj_lt h.b⟩
theorem St.only {S : Nat → Prop} (h : St w base dm bs v u N J) (ho : Only S w w1) (hs : ∀ b, base ≤ b → b < w.heap.size → ¬ S b) : St w1 base dm bs v u N J :=
  ⟨h.n.step ho (fun b hb => hs b (h.n.lt b hb).1 (h.n.lt b hb).2) (fun b h1 h2 h3 => absurd h3 (hs b h1 h2)) fun b hb => .inl hb,
   h.j.step ho (fun b hb => hs b (h.j.lt b hb).1 (h.j.lt b hb).2) (fun b h1 h2 h3 => absurd h3 (hs b h1 h2)) fun b hb => .inl hb,
   ho.obj h.b (hs bs h.lo (obj_lt h.b)), h.lo, h.vu, h.vb, h.ub⟩
theorem St.below (h : St w base dm bs v u N J) (hb : Below w.heap.size w w1) : St w1 base dm bs v u N J := h.only (S := fun _ => False) (Only.of_below hb) fun _ _ _ h => h
theorem xb_slice (v : Value) (A : Option Addr) (n m c d : Nat) (bs : Nat) : XB v (.slice A n c) bs = XB v (.slice A m d) bs := by
  funext b; cases A <;> rfl
theorem ownBlock_slice (A : Option Addr) (n m c d : Nat) : (Value.slice A n c).ownBlock = (Value.slice A m d).ownBlock := by cases A <;> rfl
theorem St.pop {A : Option Addr} {m c : Nat} {j : JobV} (h : St w base dm bs v (.slice A (m + 1) c) N (J ++ [j])) : St (w.setCell ⟨bs, 0, none⟩ (.slice A m c)) base dm bs v (.slice A m c) N J := by
  obtain ⟨g, B, c1, _, _, _, _, _, _, hj⟩ := h.j.top
  have hn := h.n
  rw [xb_slice v A (m + 1) m c c bs] at hn hj
  refine ⟨hn.step (only_set w bs 0 _) (fun b hb e => h.vb (by rw [hb, e])) (fun b _ _ e => .inr (.inr e)) fun b hb => .inl hb,
    hj.step (only_set w bs 0 _) (fun b hb e => h.ub (by rw [ownBlock_slice A (m + 1) m c c, hb, e])) (fun b _ _ e => .inr (.inr e)) fun b hb => .inl hb,
    set_blk (cs := [_]) h.b 0 _, h.lo, fun b hb => by rw [ownBlock_slice A m (m + 1) c c]; exact h.vu b hb, h.vb, by rw [ownBlock_slice A m (m + 1) c c]; exact h.ub⟩
theorem St.right {g n c k : Nat} (h : St w base dm bs (.slice (some ⟨g, 0, none⟩) n c) u N J) (hk : k < n) (x : Int) :
    St (w.setCell ⟨g, k * 6 + 5, none⟩ (.int .i64 x)) base dm bs (.slice (some ⟨g, 0, none⟩) n c) u (setR N (some k) x) J :=
  ⟨h.n.right (.inl rfl) k hk x, h.j.step (only_set w g _ _) (fun b hb e => h.vu g rfl (by rw [hb, e])) (fun b _ _ e => .inl (by rw [e]; rfl)) fun b hb => .inl hb,
   set_other h.b _ _ (fun e => h.vb (by rw [e]; rfl)), h.lo, h.vu, h.vb, h.ub⟩
theorem St.appN {v1 : Value} (h : St w base dm bs v u N J) {al : List NodeA} (e : al.map NodeA.x = N) (h2 : ∀ a ∈ al, Lies w base .i64 a.A a.c a.x.ids (XB v u bs) ∧ Lies w base .i32 a.B a.d a.x.ns (XB v u bs)) {a : NodeA}
    (ha : Lies w base .i64 a.A a.c a.x.ids (XB v u bs) ∧ Lies w base .i32 a.B a.d a.x.ns (XB v u bs)) (hown : OwnF w1 base 113 6 nodeF v1 (al ++ [a])) (hg : Only (OwnB v) w w1) (hat : v1.ownBlock = v.ownBlock ∨ v1.ownBlock = some w.heap.size) :
    St w1 base dm bs v1 u (N ++ [a.x]) J := by
  have hx : ∀ b, XB v1 u bs b → XB v u bs b ∨ w.heap.size ≤ b := fun b hb => by
    rcases hb with hb | hb | hb
    · rcases hat with h3 | h3
      · exact .inl (.inl (by rw [← h3]; exact hb))
      · rw [h3] at hb; injection hb with hb; exact .inr (by omega)
    · exact .inl (.inr (.inl hb))
    · exact .inl (.inr (.inr hb))
  have hs : ∀ b, base ≤ b → b < w.heap.size → OwnB v b → XB v u bs b := fun b _ _ hb => .inl hb
  refine ⟨⟨al ++ [a], by rw [List.map_append, e]; rfl, hown, fun b hb => ?_⟩, h.j.step hg (fun b hb e => h.vu b e hb) hs hx, hg.obj h.b (fun e => h.vb e), h.lo, fun b hb => ?_, ?_, h.ub⟩
  · rcases List.mem_append.1 hb with hb | hb
    · exact ⟨(h2 b hb).1.step hg hs hx, (h2 b hb).2.step hg hs hx⟩
    · rw [List.mem_singleton] at hb; subst hb
      exact ⟨ha.1.step hg hs hx, ha.2.step hg hs hx⟩
  · rcases hat with h3 | h3
    · rw [h3] at hb; exact h.vu b hb
    · rw [h3] at hb; injection hb with hb
      intro h4; have := (h.j.lt b h4).2; omega
  · rcases hat with h3 | h3
    · rw [h3]; exact h.vb
    · rw [h3]; intro h4; injection h4 with h4; have := obj_lt h.b; omega
theorem St.push {u1 : Value} (h : St w base dm bs v u N J) {al : List JobA} (e : al.map JobA.x = J) (h2 : ∀ a ∈ al, Lies w base .i64 a.A a.c a.x.ids (XB v u bs)) {a : JobA}
    (ha : Lies w base .i64 a.A a.c a.x.ids (XB v u bs)) (hown : OwnF w1 base 107 3 (jobF dm) u1 (al ++ [a])) (hg : Only (OwnB u) w w1) (hat : u1.ownBlock = u.ownBlock ∨ u1.ownBlock = some w.heap.size) :
    St (w1.setCell ⟨bs, 0, none⟩ u1) base dm bs v u1 N (J ++ [a.x]) := by
  have hx : ∀ b, XB v u1 bs b → XB v u bs b ∨ w.heap.size ≤ b := fun b hb => by
    rcases hb with hb | hb | hb
    · exact .inl (.inl hb)
    · rcases hat with h3 | h3
      · exact .inl (.inr (.inl (by rw [← h3]; exact hb)))
      · rw [h3] at hb; injection hb with hb; exact .inr (by omega)
    · exact .inl (.inr (.inr hb))
  have hg2 : Only (fun b => OwnB u b ∨ b = bs) w (w1.setCell ⟨bs, 0, none⟩ u1) := (hg.mono fun k _ h => .inl h).trans ((only_set w1 bs 0 _).mono fun k _ h => .inr h)
  have hs : ∀ b, base ≤ b → b < w.heap.size → (OwnB u b ∨ b = bs) → XB v u bs b := fun b _ _ hb => .inr hb
  have hub : u1.ownBlock ≠ some bs := by
    rcases hat with h3 | h3
    · rw [h3]; exact h.ub
    · rw [h3]; intro h4; injection h4 with h4; have := obj_lt h.b; omega
  refine ⟨h.n.step hg2 (fun b hb e => ?_) hs hx, ⟨al ++ [a], by rw [List.map_append, e]; rfl, hown.only (only_set w1 bs 0 _) (fun b hb e => hub (by rw [hb, e])), fun b hb => ?_⟩, set_blk (cs := [_]) (hg.obj h.b h.ub) 0 _, h.lo, fun b hb => ?_, h.vb, hub⟩
  · rcases e with e | e
    · exact h.vu b hb e
    · exact h.vb (by rw [hb, e])
  · rcases List.mem_append.1 hb with hb | hb
    · exact (h2 b hb).step hg2 hs hx
    · rw [List.mem_singleton] at hb; subst hb
      exact ha.step hg2 hs hx
  · rcases hat with h3 | h3
    · rw [h3]; exact h.vu b hb
    · rw [h3]; intro h4; injection h4 with h4; have := (h.n.lt b hb).2; omega
end
theorem infoN : (Tryz.prog.info? 113).map (fun i => (i.zero, i.size, i.bytes)) = some (some (.agg #[.bool false, .slice none 0 0, .slice none 0 0, .int .i64 0, .int .i64 0, .int .i64 0]), 6, 80) := by kernel_rfl
theorem infoJ : (Tryz.prog.info? 107).map (fun i => (i.zero, i.size, i.bytes)) = some (some (.agg #[.slice none 0 0, .int .i64 0, .int .i64 0]), 3, 40) := by kernel_rfl
set_option maxHeartbeats 1600000 in
theorem push_calls (w : World) (base dm bs : Nat) (v u : Value) (N : List NodeV) (J : List JobV) (A : Option Addr) (c : Nat) (j : JobV) (h : St w base dm bs v u N J) (ha : Lies w base .i64 A c j.ids (XB v u bs)) (hJ : J.length ≤ 1000000) :
    Calls Tryz.prog 55 #[.slice A j.ids.length c, .int .i64 ((dm - j.f : Nat) : Int), .int .i64 (upI j.up), .pointer (some ⟨bs, 0, none⟩)] w fun e w' => e = .returned (.tuple #[]) ∧ (∃ u', St w' base dm bs v u' N (J ++ [j]) ∧ ∀ b, u'.ownBlock = some b → u.ownBlock = some b ∨ w.heap.size ≤ b) ∧ Only (XB v u bs) w w' := by
  obtain ⟨n, hn⟩ : ∃ n, j.ids.length = n := ⟨_, rfl⟩
  obtain ⟨d, hd⟩ : ∃ d, ((dm - j.f : Nat) : Int) = d := ⟨_, rfl⟩
  obtain ⟨up, hup⟩ : ∃ up, upI j.up = up := ⟨_, rfl⟩
  have hc0 : w.cell? ⟨bs, 0, none⟩ = some u := by simp [World.cell?, h.b]
  have hH := h.below (below_alloc1 (Below.refl _ _) (.cells #[.slice A n c, .int .i64 d, .int .i64 up] 107))
  obtain ⟨al, e, h1, h2⟩ := hH.j
  have hal : al.length ≤ 1000000 := by rw [← e, List.length_map] at hJ; exact hJ
  have hA2 := ha.step (Only.of_below (S := fun _ => False) (below_alloc1 (Below.refl _ _) (.cells #[.slice A n c, .int .i64 d, .int .i64 up] 107))) (fun _ _ _ h => h.elim) (fun b hb => .inl hb)
  have hf : jobF dm ⟨j, A, c⟩ = [.slice A n c, .int .i64 d, .int .i64 up] := by simp only [jobF, hn, hd, hup]
  have HH := Lib.hid hH
  have H1 := Lib.hid h1
  have H2 := Lib.hid h2
  have HE := Lib.hid e
  have HA := Lib.hid hA2
  have HF := Lib.hid hf
  have HS := Lib.hid h
  have hbs := obj_lt h.b
  have hlo := h.lo
  rw [hn, hd, hup]
  clear hH h1 h2 e hA2 hf h ha hn hd hup
  go_enter Tryz.func55, Tryz.ntmps55
  go_wp2_with (first
    | (at_builtin; refine wpList_appF (q := 3) (f := jobF dm) _ rfl (.tmp 7) (.tmp 12) 108 107 rfl (.agg #[.slice none 0 0, .int .i64 0, .int .i64 0]) 40 Tryz.underlying108 infoJ rfl (by omega) (by omega) (jobF_q dm) (jobF_one dm) base u al rfl (some ⟨w.heap.size, 0, none⟩) 1 [⟨j, A, c⟩] rfl H1.out w ((Below.refl _ _).alloc (by omega) _) (by rw [World.size_alloc]; omega) (by rw [List.flatMap_cons, List.flatMap_nil, List.append_nil, HF.out]; exact RdC.block (cs := #[.slice A n c, .int .i64 d, .int .i64 up]) (heap_alloc_new _ _)) (by simp; omega) ?_; intro u1 w2 hown hgrow hbel hat hnil; obtain ⟨A1, c1, hv1, _⟩ := hown.shape; rw [List.length_append, List.length_singleton] at hv1; subst hv1; have HSt := Lib.hid (HH.out.push HE.out H2.out (a := ⟨j, A, c⟩) HA.out hown hgrow hat); have hob := hgrow.obj HH.out.b HH.out.ub; have hcs : w2.cell? ⟨bs, 0, none⟩ = some u := (by simp [World.cell?, hob]); have hfz : w2.frozen? ⟨bs, 0, none⟩ = false := (by simp [World.frozen?, hob]); have HG := Lib.hid hgrow; have HAT := Lib.hid hat; clear hown hgrow hbel hat hnil hob))
  go_wp2_with fail
  go_end0
  refine ⟨rfl, ⟨_, HSt.out, fun b hb => ?_⟩, ((Only.of_below (S := XB v u bs) (below_alloc1 (Below.refl w.heap.size w) _)).trans (HG.out.mono fun k _ h => .inr (.inl h))).trans ((only_set w2 bs 0 _).mono fun k _ h => .inr (.inr h))⟩
  rcases HAT.out with h3 | h3
  · exact .inl (by rw [← h3]; exact hb)
  · rw [h3, World.size_alloc] at hb; injection hb with hb; exact .inr (by omega)
set_option maxHeartbeats 1600000 in
theorem CloneI_calls (A : Option Addr) (c : Nat) (xs : List Int) (w : World) (ha : Rd w .i64 A xs) (h1 : 1 ≤ xs.length) (hl : xs.length ≤ 1000000) :
    Calls Tryz.prog 56 #[.slice A xs.length c] w fun e w' => ∃ v, e = .returned v ∧ Own w' w.heap.size 3 .i64 v xs ∧ Below w.heap.size w w' := by
  obtain ⟨ad, rfl, _⟩ := ha.2 0 (by omega)
  have heq := fun (w : World) (a : Option Addr) (n c : Nat) => Lib.run_eql_slice_nil (P := Tryz.prog) w 64 3 a n c 0 0 Tryz.underlying64
  have KA := Lib.hid ha
  obtain ⟨n, hn⟩ : ∃ n, xs.length = n := ⟨_, rfl⟩
  have HN := Lib.hid hn
  rw [hn] at h1 hl ⊢
  clear ha hn
  go_enter Tryz.func56, Tryz.ntmps56
  go_wp2_with (first
    | (at_builtin; refine wpList_app _ rfl (.tmp 5) (.tmp 6) 64 3 rfl (.int .i64 0) 1 8 Tryz.underlying64 info_int rfl (by omega) (by omega) w.heap.size (.slice (some ⟨w.heap.size, 0, none⟩) 0 0) 0 [] rfl (some ad) n c rfl (Own.low (k := .i64) (xs := []) (Own.empty w 3 .i64) (Nat.le_refl _)) w (below_alloc1 (Below.refl _ _) _) (by rw [World.size_alloc]; omega) (nums .i64 xs) (by rw [nums_length, HN.out]; omega) (KA.out.below (below_alloc1 (Below.refl _ _) _)).c (nums_one _ _) (by omega) ?_; intro v2 w7 hown2 hgrow2 hbel2 hat2 hnil2; obtain ⟨A1, c1, rfl, _⟩ := own_shape hown2))
  go_wp2_with fail
  go_ret
  exact ⟨_, rfl, by unfold Own; rw [HN.out]; simpa using hown2, hbel2⟩
def growErr (t l d : Int) : Int := if l < 1 ∨ 1024 < l ∨ d < 0 ∨ 64 < d then 1 else if t < 1 ∨ 256 < t then 5 else 0
set_option maxHeartbeats 1600000 in
theorem GCheck_calls (t l d : Int) (sc : Bool) (sd : Int) (DA : Option Addr) (dn dc : Nat) (w : World) :
    Calls Tryz.prog 54 #[.agg #[.int .i64 t, .int .i64 l, .int .i64 d, .bool sc, .int .u64 sd, .slice DA dn dc]] w fun e w' => e = .returned (.int .i64 (growErr t l d)) ∧ Below w.heap.size w w' := by
  have hb := below_alloc1 (Below.refl w.heap.size w) (.cells #[.int .i64 t, .int .i64 l, .int .i64 d, .bool sc, .int .u64 sd, .slice DA dn dc] 28)
  by_cases a1 : l < 1
  · have a1' : decide (l < 1) = true := decide_eq_true a1
    have HE := Lib.hid (show growErr t l d = 1 by unfold growErr; rw [if_pos (by omega)])
    go_enter Tryz.func54, Tryz.ntmps54
    go_wp2_with fail
    go_ret
    exact ⟨by rw [HE.out]; rfl, hb⟩
  have a1' : decide (l < 1) = false := decide_eq_false a1
  by_cases a2 : 1024 < l
  · have a2' : decide (1024 < l) = true := decide_eq_true a2
    have HE := Lib.hid (show growErr t l d = 1 by unfold growErr; rw [if_pos (by omega)])
    go_enter Tryz.func54, Tryz.ntmps54
    go_wp2_with fail
    go_ret
    exact ⟨by rw [HE.out]; rfl, hb⟩
  have a2' : decide (1024 < l) = false := decide_eq_false a2
  by_cases a3 : d < 0
  · have a3' : decide (d < 0) = true := decide_eq_true a3
    have HE := Lib.hid (show growErr t l d = 1 by unfold growErr; rw [if_pos (by omega)])
    go_enter Tryz.func54, Tryz.ntmps54
    go_wp2_with fail
    go_ret
    exact ⟨by rw [HE.out]; rfl, hb⟩
  have a3' : decide (d < 0) = false := decide_eq_false a3
  by_cases a4 : 64 < d
  · have a4' : decide (64 < d) = true := decide_eq_true a4
    have HE := Lib.hid (show growErr t l d = 1 by unfold growErr; rw [if_pos (by omega)])
    go_enter Tryz.func54, Tryz.ntmps54
    go_wp2_with fail
    go_ret
    exact ⟨by rw [HE.out]; rfl, hb⟩
  have a4' : decide (64 < d) = false := decide_eq_false a4
  by_cases a5 : t < 1
  · have a5' : decide (t < 1) = true := decide_eq_true a5
    have HE := Lib.hid (show growErr t l d = 5 by unfold growErr; rw [if_neg (by omega), if_pos (by omega)])
    go_enter Tryz.func54, Tryz.ntmps54
    go_wp2_with fail
    go_ret
    exact ⟨by rw [HE.out]; rfl, hb⟩
  have a5' : decide (t < 1) = false := decide_eq_false a5
  by_cases a6 : 256 < t
  · have a6' : decide (256 < t) = true := decide_eq_true a6
    have HE := Lib.hid (show growErr t l d = 5 by unfold growErr; rw [if_neg (by omega), if_pos (by omega)])
    go_enter Tryz.func54, Tryz.ntmps54
    go_wp2_with fail
    go_ret
    exact ⟨by rw [HE.out]; rfl, hb⟩
  have a6' : decide (256 < t) = false := decide_eq_false a6
  have HE := Lib.hid (show growErr t l d = 0 by unfold growErr; rw [if_neg (by omega), if_neg (by omega)])
  go_enter Tryz.func54, Tryz.ntmps54
  go_wp2_with fail
  go_ret
  exact ⟨by rw [HE.out]; rfl, hb⟩
set_option maxHeartbeats 1600000 in
theorem RCheck_calls (t l d : Int) (sc : Bool) (sd : Int) (DA : Option Addr) (dn dc : Nat) (w : World) :
    Calls Tryz.prog 85 #[.agg #[.int .i64 t, .int .i64 l, .int .i64 d, .bool sc, .int .u64 sd, .slice DA dn dc]] w fun e w' => e = .returned (.int .i64 (growErr t l d)) ∧ Below w.heap.size w w' := by
  have hb := below_alloc1 (Below.refl w.heap.size w) (.cells #[.int .i64 t, .int .i64 l, .int .i64 d, .bool sc, .int .u64 sd, .slice DA dn dc] 28)
  by_cases a1 : l < 1
  · have a1' : decide (l < 1) = true := decide_eq_true a1
    have HE := Lib.hid (show growErr t l d = 1 by unfold growErr; rw [if_pos (by omega)])
    go_enter Tryz.func85, Tryz.ntmps85
    go_wp2_with fail
    go_ret
    exact ⟨by rw [HE.out]; rfl, hb⟩
  have a1' : decide (l < 1) = false := decide_eq_false a1
  by_cases a2 : 1024 < l
  · have a2' : decide (1024 < l) = true := decide_eq_true a2
    have HE := Lib.hid (show growErr t l d = 1 by unfold growErr; rw [if_pos (by omega)])
    go_enter Tryz.func85, Tryz.ntmps85
    go_wp2_with fail
    go_ret
    exact ⟨by rw [HE.out]; rfl, hb⟩
  have a2' : decide (1024 < l) = false := decide_eq_false a2
  by_cases a3 : d < 0
  · have a3' : decide (d < 0) = true := decide_eq_true a3
    have HE := Lib.hid (show growErr t l d = 1 by unfold growErr; rw [if_pos (by omega)])
    go_enter Tryz.func85, Tryz.ntmps85
    go_wp2_with fail
    go_ret
    exact ⟨by rw [HE.out]; rfl, hb⟩
  have a3' : decide (d < 0) = false := decide_eq_false a3
  by_cases a4 : 64 < d
  · have a4' : decide (64 < d) = true := decide_eq_true a4
    have HE := Lib.hid (show growErr t l d = 1 by unfold growErr; rw [if_pos (by omega)])
    go_enter Tryz.func85, Tryz.ntmps85
    go_wp2_with fail
    go_ret
    exact ⟨by rw [HE.out]; rfl, hb⟩
  have a4' : decide (64 < d) = false := decide_eq_false a4
  by_cases a5 : t < 1
  · have a5' : decide (t < 1) = true := decide_eq_true a5
    have HE := Lib.hid (show growErr t l d = 5 by unfold growErr; rw [if_neg (by omega), if_pos (by omega)])
    go_enter Tryz.func85, Tryz.ntmps85
    go_wp2_with fail
    go_ret
    exact ⟨by rw [HE.out]; rfl, hb⟩
  have a5' : decide (t < 1) = false := decide_eq_false a5
  by_cases a6 : 256 < t
  · have a6' : decide (256 < t) = true := decide_eq_true a6
    have HE := Lib.hid (show growErr t l d = 5 by unfold growErr; rw [if_neg (by omega), if_pos (by omega)])
    go_enter Tryz.func85, Tryz.ntmps85
    go_wp2_with fail
    go_ret
    exact ⟨by rw [HE.out]; rfl, hb⟩
  have a6' : decide (256 < t) = false := decide_eq_false a6
  have HE := Lib.hid (show growErr t l d = 0 by unfold growErr; rw [if_neg (by omega), if_neg (by omega)])
  go_enter Tryz.func85, Tryz.ntmps85
  go_wp2_with fail
  go_ret
  exact ⟨by rw [HE.out]; rfl, hb⟩
end Go.Proofs.YticdmglondpgaaaGreat
