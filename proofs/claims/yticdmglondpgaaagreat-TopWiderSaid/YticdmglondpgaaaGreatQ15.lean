/-
  Texts on the program, part 15: Tree, Law12, RChoose, GrowR, Tr, TrS, Shape1, Shape2.
-/
import Derived.Deep.RegionHeld3
import Derived.Deep.RegionWith
import Derived.Test.YticdmglondpgaaaGreatQ02
import Derived.Test.YticdmglondpgaaaGreatQ14

/-! ## Tree: grow.Tree, walked: what it hands back is the tree of the definition, or why there is none. Conditions: those of the theorem's head. -/
namespace Go.Proofs.YticdmglondpgaaaGreat
open Go.RowKit
set_option linter.unusedVariables false
set_option maxRecDepth 100000
set_option linter.unusedSimpArgs false

def upTo (n : Nat) : List Int := (List.range n).map fun (i : Nat) => (i : Int)
theorem upTo_length (n : Nat) : (upTo n).length = n := by simp [upTo]
theorem upTo_succ (n : Nat) : upTo (n + 1) = upTo n ++ [(n : Int)] := by simp [upTo, List.range_succ]
theorem Only.own {S X : Nat → Prop} {w1 w2 w3 : World} (h : Only S w1 w2) (ho : Only X w2 w3) (hX : ∀ b, b < w1.heap.size → ¬ X b) : Only S w1 w3 :=
  ⟨ho.os.trans h.os, ho.tape.trans h.tape, ho.output.trans h.output, Nat.le_trans h.size ho.size, fun k hk hs => (ho.block k (Nat.lt_of_lt_of_le hk h.size) (hX k hk)).trans (h.block k hk hs)⟩
theorem Only.low {S : Nat → Prop} {w1 w2 w3 : World} (h : Only S w1 w2) (hb : Below w2.heap.size w2 w3) : Only S w1 w3 := h.own (X := fun _ => False) (Only.of_below hb) fun _ _ h => h
theorem OwnN.low {w : World} {base base' : Nat} {v : Value} {N : List NodeV} {X : Nat → Prop} (h : OwnN w base v N X) (hb : base' ≤ base) : OwnN w base' v N X := by
  obtain ⟨al, e, h1, h2⟩ := h
  have key : ∀ {k : IntKind} {A : Option Addr} {c : Nat} {xs : List Int}, Lies w base k A c xs X → Lies w base' k A c xs X := fun h => ⟨h.1, h.2.1, fun ad h1 e => ⟨Nat.le_trans hb (h.2.2 ad h1 e).1, (h.2.2 ad h1 e).2⟩⟩
  exact ⟨al, e, h1.low hb, fun a ha => ⟨key (h2 a ha).1, key (h2 a ha).2⟩⟩
def treeErr (n : Nat) (t l d : Int) : Int := if growErr t l d ≠ 0 then growErr t l d else if n = 0 then 15 else 0
def TreePost (w : World) (lo hi : Nat) (v : Value) (s : Nat → Int) (k : Nat) (rows : List (List Int)) (dim : Nat) (t l d : Int) (e : Ending) (w' : World) : Prop :=
  ∃ vN, e = .returned (.tuple #[vN, .int .i64 (treeErr rows.length t l d)]) ∧ (treeErr rows.length t l d ≠ 0 → vN = .slice none 0 0 ∧ Below w.heap.size w w') ∧
    (treeErr rows.length t l d = 0 → OwnN w' w.heap.size vN (growF rows dim l.toNat s d.toNat (upTo rows.length) 0 k).1 (fun b => vN.ownBlock = some b) ∧ At w' lo hi v s (growF rows dim l.toNat s d.toNat (upTo rows.length) 0 k).2 ∧ Only (Within lo hi) w w')
theorem growErr_zero {t l d : Int} (h : growErr t l d = 0) : 1 ≤ l ∧ l ≤ 1024 ∧ 0 ≤ d ∧ d ≤ 64 ∧ 1 ≤ t ∧ t ≤ 256 := by
  unfold growErr at h
  split at h
  · omega
  · split at h
    · omega
    · omega
theorem cell_sa {w : World} {bs : Nat} {a : Addr} {y : Value} (h : w.cell? a = some y) (hne : a.block ≠ bs) (x : Value) (o : Obj) : ((w.setCell ⟨bs, 0, none⟩ x).alloc o).cell? a = some y := by
  have h1 : (w.setCell ⟨bs, 0, none⟩ x).cell? a = some y := (only_set w bs 0 x).cell h hne
  exact (World.cell?_alloc_lt (o := o) _ _ (World.block_lt_of_cell? _ _ h1)).trans h1
theorem frozen_sa {w : World} {bs : Nat} {a : Addr} (h : w.frozen? a = false) (hlt : a.block < w.heap.size) (hne : a.block ≠ bs) (x : Value) (o : Obj) : ((w.setCell ⟨bs, 0, none⟩ x).alloc o).frozen? a = false := by
  have h1 : (w.setCell ⟨bs, 0, none⟩ x).heap[a.block]? = w.heap[a.block]? := (only_set w bs 0 x).block a.block hlt hne
  have h2 : ((w.setCell ⟨bs, 0, none⟩ x).alloc o).heap[a.block]? = w.heap[a.block]? := by
    rw [← h1]
    exact (below_alloc1 (Below.refl _ (w.setCell ⟨bs, 0, none⟩ x)) o).block a.block (by have := (only_set w bs 0 x).size; omega)
  unfold World.frozen? at h ⊢
  rw [h2]; exact h
theorem St.init (wa : World) (base dm g0 n : Nat) (ids : List Int) (hn : ids.length = n) (hr : Rd wa .i64 (some ⟨g0, 0, none⟩) ids) (hg : g0 < wa.heap.size) (hb : base ≤ g0) :
    St ((wa.alloc (.cells #[.slice (some ⟨g0, 0, none⟩) n n, .int .i64 0, .int .i64 (-1)] 107)).alloc (.cells #[.slice (some ⟨wa.heap.size, 0, none⟩) 1 1] 108)) base dm (wa.heap.size + 1) (.slice none 0 0) (.slice (some ⟨wa.heap.size, 0, none⟩) 1 1) [] [⟨ids, dm, none⟩] := by
  have e1 := heap_alloc_new wa (.cells #[.slice (some ⟨g0, 0, none⟩) n n, .int .i64 0, .int .i64 (-1)] 107)
  have e2 := heap_alloc_new (wa.alloc (.cells #[.slice (some ⟨g0, 0, none⟩) n n, .int .i64 0, .int .i64 (-1)] 107)) (.cells #[.slice (some ⟨wa.heap.size, 0, none⟩) 1 1] 108)
  rw [World.size_alloc] at e2
  have e3 := obj_below (below_alloc1 (Below.refl (wa.alloc (.cells #[.slice (some ⟨g0, 0, none⟩) n n, .int .i64 0, .int .i64 (-1)] 107)).heap.size _) (.cells #[.slice (some ⟨wa.heap.size, 0, none⟩) 1 1] 108)) e1 (obj_lt e1)
  refine ⟨OwnN.nil _ _ _, ⟨[⟨⟨ids, dm, none⟩, some ⟨g0, 0, none⟩, n⟩], rfl, ⟨by simp [jobF], .inr ⟨wa.heap.size, 1, _, rfl, by omega, e3, Nat.le_refl _, by unfold maxLen; omega, rfl, ?_⟩⟩, fun a ha => ?_⟩, e2, by omega, fun b h => by simp [Value.ownBlock] at h, by simp [Value.ownBlock], by simp [Value.ownBlock]⟩
  · simp [jobF, upI, hn]
  · rw [List.mem_singleton] at ha
    subst ha
    refine ⟨by simp only [hn]; omega, (hr.below (below_alloc1 (Below.refl _ _) _)).below (below_alloc1 (Below.refl _ _) _), fun ad _ e => ?_⟩
    injection e with e
    subst e
    refine ⟨hb, fun hx => ?_⟩
    rcases hx with hx | hx | hx
    · simp [Value.ownBlock] at hx
    · simp [Value.ownBlock] at hx; omega
    · simp at hx; omega
set_option maxHeartbeats 6400000 in
set_option maxRecDepth 100000 in
theorem Tree_calls (b dim : Nat) (rows : List (List Int)) (AI : Option Addr) (cI : Nat) (t l d : Int) (sc : Bool) (sd : Int) (DA : Option Addr) (dn dc : Nat) (lo hi : Nat) (v : Value) (s : Nat → Int) (k : Nat) (w : World)
    (hit : ItV w b dim rows AI cI) (hr : ∀ r ∈ rows, R32 r) (hat : At w lo hi v s k) (hk : k ≤ 400000) (hlen : rows.length ≤ 400) (hs1 : ∀ q, ItB b AI rows.flatten.length cI q → ¬ Within lo hi q) (hhi : hi ≤ w.heap.size) :
    Calls Tryz.prog 19 #[.pointer (some ⟨b, 0, none⟩), .agg #[.int .i64 t, .int .i64 l, .int .i64 d, .bool sc, .int .u64 sd, .slice DA dn dc], v] w (TreePost w lo hi v s k rows dim t l d) := by
  have HIT := Lib.hid hit
  have HR := Lib.hid hr
  have HAT := Lib.hid hat
  have HS1 := Lib.hid hs1
  obtain ⟨n, hn⟩ : ∃ n, rows.length = n := ⟨_, rfl⟩
  have HN := Lib.hid hn
  rw [hn] at hlen
  clear hit hr hat hs1 hn
  go_enter Tryz.func19, Tryz.ntmps19
  go_wp2_with fail
  obtain ⟨w1, hw1⟩ : ∃ W, w.alloc (.cells #[.int .i64 t, .int .i64 l, .int .i64 d, .bool sc, .int .u64 sd, .slice DA dn dc] 28) = W := ⟨_, rfl⟩
  (try rw [hw1])
  have hb1 : Below w.heap.size w w1 := by rw [← hw1]; exact below_alloc1 (Below.refl _ _) _
  have bp1 : w1.heap[w.heap.size]? = some (.cells #[.int .i64 t, .int .i64 l, .int .i64 d, .bool sc, .int .u64 sd, .slice DA dn dc] 28 (0, 0)) := by rw [← hw1]; exact heap_alloc_new _ _
  have hz1 : w.heap.size < w1.heap.size := obj_lt bp1
  have HB1 := Lib.hid hb1
  have BP1 := Lib.hid bp1
  have p0 : w1.cell? ⟨w.heap.size, 0, none⟩ = some (.int .i64 t) := by simp [World.cell?, bp1]
  have p1 : w1.cell? ⟨w.heap.size, 1, none⟩ = some (.int .i64 l) := by simp [World.cell?, bp1]
  have p2 : w1.cell? ⟨w.heap.size, 2, none⟩ = some (.int .i64 d) := by simp [World.cell?, bp1]
  have p3 : w1.cell? ⟨w.heap.size, 3, none⟩ = some (.bool sc) := by simp [World.cell?, bp1]
  have p4 : w1.cell? ⟨w.heap.size, 4, none⟩ = some (.int .u64 sd) := by simp [World.cell?, bp1]
  have p5 : w1.cell? ⟨w.heap.size, 5, none⟩ = some (.slice DA dn dc) := by simp [World.cell?, bp1]
  clear hw1 hb1 bp1
  go_wp2_with fail
  refine (GCheck_calls t l d sc sd DA dn dc w1).mono ?_
  rintro e w2 ⟨he, hb2⟩
  subst he
  have HB2 := Lib.hid hb2
  have hz2 := hb2.size
  obtain ⟨E, hE⟩ : ∃ E, growErr t l d = E := ⟨_, rfl⟩
  rw [hE]
  have HE := Lib.hid hE
  clear hb2 hE p0 p1 p2 p3 p4 p5
  by_cases h0 : E = 0
  case neg =>
    have h0' : decide (E = 0) = false := decide_eq_false h0
    go_wp2_with fail
    go_ret2
    have e1 : treeErr rows.length t l d = E := by unfold treeErr; rw [HE.out, if_pos h0]
    exact ⟨.slice none 0 0, by rw [e1]; rfl, fun _ => ⟨rfl, HB1.out.trans (HB2.out.mono (by omega))⟩, fun h => absurd (e1.symm.trans h) h0⟩
  subst h0
  obtain ⟨hl1, hl2, hd1, hd2, ht1, ht2⟩ := growErr_zero HE.out
  obtain ⟨leaf, rfl⟩ : ∃ leaf : Nat, l = leaf := ⟨l.toNat, by omega⟩
  obtain ⟨dm, rfl⟩ : ∃ dm : Nat, d = dm := ⟨d.toNat, by omega⟩
  have IT2 := Lib.hid ((HIT.out.only (S := fun _ => False) (Only.of_below HB1.out) fun _ _ h => h).only (S := fun _ => False) (Only.of_below HB2.out) fun _ _ h => h)
  go_wp2_with fail
  refine (HN.out ▸ Len_calls b dim rows w2 IT2.out.it).mono ?_
  rintro e w3 ⟨he, q, hq⟩
  subst he
  have HB3 := Lib.hid (show Below w2.heap.size w2 w3 by rw [hq]; exact below_drewN_self _ _)
  clear hq
  have hz3 := HB3.out.size
  by_cases hn0 : n = 0
  case pos =>
    subst hn0
    go_wp2_with fail
    go_ret2
    have e1 : treeErr rows.length t leaf dm = 15 := by unfold treeErr; rw [HE.out, HN.out]; rfl
    exact ⟨.slice none 0 0, by rw [e1]; rfl, fun _ => ⟨rfl, HB1.out.trans ((HB2.out.trans (HB3.out.mono hz2)).mono (by omega))⟩, fun h => absurd (e1.symm.trans h) (by decide)⟩
  have hn0' : decide (n = 0) = false := decide_eq_false hn0
  have IT3 := Lib.hid (IT2.out.only (S := fun _ => False) (Only.of_below HB3.out) fun _ _ h => h)
  go_wp2_with fail
  refine (HN.out ▸ Len_calls b dim rows w3 IT3.out.it).mono ?_
  rintro e w4 ⟨he, q, hq⟩
  subst he
  have HB4 := Lib.hid (show Below w3.heap.size w3 w4 by rw [hq]; exact below_drewN_self _ _)
  clear hq
  have hz4 := HB4.out.size
  have HB14 := Lib.hid (show Below w1.heap.size w1 w4 from (HB2.out.trans (HB3.out.mono hz2)).trans (HB4.out.mono (by omega)))
  clear HB2 HB3 HB4 IT2 IT3 hn0'
  go_wp2_with (at_make; refine wpList_mk _ rfl (.tmp 26) (.tmp 26) 64 3 rfl (.int .i64 0) 8 Tryz.underlying64 info_int rfl .i64 .i64 n rfl rfl (by omega) (by omega) ?_; intro w5 hblk hbel hsz; have HBK := Lib.hid hblk; clear hblk)
  have HB5 := Lib.hid (HB14.out.trans (hbel.mono HB14.out.size))
  have hz45 := hbel.size
  clear hbel
  go_wp2_with fail
  go_loopg [10, 30] n (fun kq v10 v30 w' => kq ≤ n ∧ v30 = .int .i64 ((n - kq : Nat)) ∧ Hid (w'.heap[w4.heap.size]? = some (.cells (nums .i64 (upTo (n - kq) ++ List.replicate kq 0)).toArray 3 (0, 0))) ∧ Below w1.heap.size w1 w')
  case atStart => exact ⟨Nat.le_refl _, by simp, by rw [Nat.sub_self]; exact Lib.hid (by rw [show upTo 0 ++ List.replicate n 0 = List.replicate n (0 : Int) from rfl, nums_replicate]; exact HBK.out), HB5.out⟩
  case round =>
    obtain ⟨hkq, rfl, HO, HB0⟩ := hrel
    clear HBK HB5 hsz
    rename World => wa
    have HB := Lib.hid HB0
    have hza := HB0.size
    clear HB0
    have hba := obj_lt HO.out
    cases gk with
    | succ k1 =>
      obtain ⟨i, hi⟩ : ∃ i, n - (k1 + 1) = i := ⟨_, rfl⟩
      have hi2 : n - k1 = i + 1 := by omega
      have HI := Lib.hid hi2
      have hlt : i < n := by omega
      have hlt' : decide ((i : Int) < (n : Int)) = true := decide_eq_true (by omega)
      rw [hi] at HO ⊢
      have hfz := free_blk HO.out i
      have hcell : wa.cell? ⟨w4.heap.size, i, none⟩ = some (.int .i64 0) := by
        rw [cell_blk HO.out, nums_get _ _ _ (by simp [upTo_length])]
        simp [List.getD, upTo_length, List.getElem?_append_right, List.getElem?_replicate]
      have hset := set_blk HO.out i (.int .i64 (i : Int))
      have hse : (nums .i64 (upTo i ++ List.replicate (k1 + 1) 0)).set i (.int .i64 (i : Int)) = nums .i64 (upTo (i + 1) ++ List.replicate k1 0) := by
        rw [upTo_succ, nums_append, nums_append, nums_append, List.set_append_right _ _ (by rw [nums_length, upTo_length]; omega), nums_length, upTo_length, Nat.sub_self, nums_replicate, nums_replicate, List.replicate_succ, List.set_cons_zero]
        simp [nums]
      rw [hse] at hset
      have HST := Lib.hid hset
      clear hi hi2 hset hse HO
      go_wp2_with fail
      go_roundg k1
      case measure => omega
      case rel =>
        rw [HI.out]
        exact ⟨by omega, rfl, HST, below_set HB.out (by omega) _ _⟩
    | zero =>
      simp only [Nat.sub_zero, List.replicate_zero, List.append_nil] at HO ⊢
      have hlt' : decide ((n : Int) < (n : Int)) = false := decide_eq_false (by omega)
      have HOI := Lib.hid (show Own wa w4.heap.size 3 .i64 (.slice (some ⟨w4.heap.size, 0, none⟩) n n) (upTo n) by
        have h := own_blk HO.out (Nat.le_refl _) (Nat.le_refl n) (by unfold maxLen; omega) (by rw [nums_length, upTo_length])
        rw [List.take_of_length_le (by rw [nums_length, upTo_length]; omega)] at h
        unfold Own
        rw [upTo_length]
        exact h)
      clear HO
      go_wp2_with fail
      have hSt0 := St.init wa w1.heap.size dm w4.heap.size n (upTo n) (upTo_length n) HOI.out.rd.2 hba (by omega)
      obtain ⟨wb, hwb⟩ : ∃ W, (wa.alloc (.cells #[.slice (some ⟨w4.heap.size, 0, none⟩) n n, .int .i64 0, .int .i64 (-1)] 107)).alloc (.cells #[.slice (some ⟨wa.heap.size, 0, none⟩) 1 1] 108) = W := ⟨_, rfl⟩
      rw [hwb] at hSt0 ⊢
      have hbb : Below wa.heap.size wa wb := by rw [← hwb]; exact below_alloc1 (below_alloc1 (Below.refl _ _) _) _
      obtain ⟨bs, hbs⟩ : ∃ x, wa.heap.size + 1 = x := ⟨_, rfl⟩
      rw [hbs] at hSt0 ⊢
      obtain ⟨F, hF⟩ : ∃ F, growF rows dim leaf s dm (upTo n) 0 k = F := ⟨_, rfl⟩
      have hFS := growF_size rows dim s (leaf := leaf) (by omega) dm (upTo n) 0 k (by rw [upTo_length]; omega)
      rw [hF, upTo_length] at hFS
      have hF0 : finJ rows dim leaf s [] [⟨upTo n, dm, none⟩] k = F := by rw [← hF]; rfl
      have HF := Lib.hid hF
      have HFS := Lib.hid hFS
      have HSt0 := Lib.hid hSt0
      have HBB := Lib.hid (HB.out.trans (hbb.mono hza))
      have hb1s : w1.heap.size ≤ bs := by omega
      clear hwb hbb hbs hF hSt0 hFS HB HOI
      go_loopg [11, 14, 15, 16] F.1.length (fun kq v11 v14 v15 v16 w' => ∃ N st k' u, kq + N.length = F.1.length ∧ finJ rows dim leaf s N st k' = F ∧ (∀ j ∈ st, 1 ≤ j.ids.length ∧ j.ids.length ≤ n ∧ j.f ≤ dm ∧ ∀ q, j.up = some q → q < N.length) ∧ St w' w1.heap.size dm bs v11 u N st.reverse ∧ At w' lo hi v s k' ∧ Only (Within lo hi) w1 w')
      case atStart =>
        refine ⟨[], _, k, _, by simp, hF0, fun j hj => ?_, HSt0.out, (HAT.out.only (S := fun _ => False) (Only.of_below HB1.out) fun _ _ _ h => h).only (S := fun _ => False) (Only.of_below HBB.out) fun _ _ _ h => h, Only.of_below HBB.out⟩
        rw [List.mem_singleton] at hj
        subst hj
        exact ⟨by rw [upTo_length]; omega, by rw [upTo_length]; omega, Nat.le_refl _, fun q hq => by simp at hq⟩
      case round =>
        obtain ⟨N, st, k', u, hkq2, hfin, hjs, hst, hat, hon⟩ := hrel
        clear hF0 HSt0 HBB
        rename World => wr
        have hlenJ := finJ_len rows dim s (leaf := leaf) (by omega) st N k' (fun j hj => (hjs j hj).1)
        have hdr := finJ_draws rows dim s (leaf := leaf) (by omega) st N k' (fun j hj => (hjs j hj).1)
        rw [hfin] at hlenJ hdr
        have hFS := HFS.out
        have hzr := hon.size
        obtain ⟨NA, Nc, rfl, hNc⟩ := hst.n.shape
        have HON := Lib.hid hon
        have HATR := Lib.hid hat
        obtain ⟨NN, hNN⟩ : ∃ x, N.length = x := ⟨_, rfl⟩
        have hbsl := obj_lt hst.b
        cases gk with
        | zero =>
          obtain rfl : st = [] := by
            cases st with
            | nil => rfl
            | cons _ _ => simp only [List.length_cons] at hlenJ; omega
          obtain ⟨A, cu, rfl, _⟩ := hst.j.shape
          have hcu : wr.cell? ⟨bs, 0, none⟩ = some (.slice A 0 cu) := by have h := hst.b; simp [World.cell?, h]
          have e1 : treeErr rows.length t leaf dm = 0 := by unfold treeErr; rw [HE.out, HN.out]; simp [hn0]
          have hFN : F = (N, k') := hfin.symm
          have HOW := Lib.hid (hst.n.step (X1 := fun b => (Value.slice NA N.length Nc).ownBlock = some b) (Only.refl (fun _ => False) wr) (fun _ _ h => h) (fun _ _ _ h => h.elim) (fun b hb => .inl (.inl hb)))
          clear hst hon hat
          rw [hNN]
          go_wp2_with fail
          go_ret2
          refine ⟨_, by rw [e1]; rfl, fun h => absurd e1 h, fun _ => ?_⟩
          rw [HN.out, show ((leaf : Int)).toNat = leaf from rfl, show ((dm : Int)).toNat = dm from rfl, HF.out, hFN, ← hNN]
          refine ⟨HOW.out.low (by omega), HATR.out, ?_⟩
          exact ⟨HON.out.os.trans HB1.out.os, HON.out.tape.trans HB1.out.tape, HON.out.output.trans HB1.out.output, by omega, fun q hq hs => (HON.out.block q (by omega) hs).trans (HB1.out.block q hq)⟩
        | succ k1 =>
          cases st with
          | nil =>
            have hFN : F = (N, k') := hfin.symm
            rw [hFN] at hkq2
            simp only at hkq2
            omega
          | cons j st0 =>
            obtain ⟨ids, f, up⟩ := j
            have hj1 := hjs _ (List.mem_cons_self)
            have hjs0 := fun j hj => hjs j (List.mem_cons_of_mem _ hj)
            simp only at hj1
            obtain ⟨hi1, hi2, hi3, hi4⟩ := hj1
            rw [List.reverse_cons] at hst
            obtain ⟨m, hm0⟩ : ∃ m, st0.length = m := ⟨_, rfl⟩
            obtain ⟨A, cu, hu, hcu⟩ := hst.j.shape
            rw [List.length_append, List.length_reverse, List.length_singleton, hm0] at hu hcu
            subst hu
            obtain ⟨g, B, c1, rfl, hm, ha0, ha1, ha2, hli, _⟩ := hst.j.top
            obtain ⟨n1, hn1⟩ : ∃ x, m + 1 = x := ⟨_, rfl⟩
            have hcb : wr.cell? ⟨bs, 0, none⟩ = some (.slice (some ⟨g, 0, none⟩) n1 cu) := by have h := hst.b; rw [← hn1]; simp [World.cell?, h]
            have hfzs : wr.frozen? ⟨bs, 0, none⟩ = false := by have h := hst.b; simp [World.frozen?, h]
            have hw1 : IntKind.i64.wrap ((n1 : Int) - 1) = (m : Int) := by rw [i64_w, wrap64_id _ (by simp only [List.length_cons] at hlenJ; omega)]; omega
            have hlt1 : m < n1 := by omega
            have hlt2 : 0 < n1 := by omega
            obtain ⟨nj, hnj⟩ : ∃ x, ids.length = x := ⟨_, rfl⟩
            obtain ⟨dj, hdj⟩ : ∃ x, dm - f = x := ⟨_, rfl⟩
            have HNJ := Lib.hid hnj
            have HDJ := Lib.hid hdj
            have HM0 := Lib.hid hm0
            rw [hNN] at hli
            have HLI := Lib.hid hli
            have HST := Lib.hid hst
            have HFIN := Lib.hid hfin
            have HJS0 := Lib.hid hjs0
            rw [hnj] at ha0 hi1 hi2
            simp only at ha1 ha2
            rw [hdj] at ha1
            rw [hNN]
            have HN1 := Lib.hid hn1
            have HNN := Lib.hid hNN
            have bpr := HON.out.obj BP1.out (fun h => by have := h.2; omega)
            have hp1 := cell_sa (bs := bs) (show wr.cell? ⟨w.heap.size, 1, none⟩ = some (.int .i64 (leaf : Int)) by simp [World.cell?, bpr]) (by simp only; omega)
            have hp2 := cell_sa (bs := bs) (show wr.cell? ⟨w.heap.size, 2, none⟩ = some (.int .i64 (dm : Int)) by simp [World.cell?, bpr]) (by simp only; omega)
            have BPR := Lib.hid bpr
            clear bpr
            have hmb : st0.length ≤ 1000 := by simp only [List.length_cons] at hlenJ; omega
            have hNNb : NN ≤ 800 := by rw [← hNN]; omega
            have hkb : k' ≤ 500000 := by omega
            have hgA : g < wr.heap.size := by have h := (hst.j.lt g rfl).2; exact h
            have HSTN := Lib.hid (show St wr w1.heap.size dm bs (.slice NA NN Nc) (.slice (some ⟨g, 0, none⟩) (m + 1) cu) N (st0.reverse ++ [⟨ids, f, up⟩]) by rw [← hNN]; exact hst)
            clear hst hon hat hfin hjs hjs0 hm0 hm hnj hdj hli hn1 HE hFS
            cases up with
            | none =>
              rw [show upI none = -1 from rfl] at ha2
              have hstp := (show St _ w1.heap.size dm bs _ _ (setR N none (NN : Int)) _ from HSTN.out.pop)
              have hX : Only (XB (.slice NA NN Nc) (.slice (some ⟨g, 0, none⟩) (m + 1) cu) bs) wr (wr.setCell ⟨bs, 0, none⟩ (.slice (some ⟨g, 0, none⟩) m cu)) := (only_set wr bs 0 _).mono fun _ _ e => .inr (.inr e)
              have hstj := hstp.below (below_alloc1 (Below.refl _ _) (.cells #[.slice B nj c1, .int .i64 (dj : Int), .int .i64 (-1)] 107))
              have hxa := hX.trans (Only.of_below (S := XB (.slice NA NN Nc) (.slice (some ⟨g, 0, none⟩) (m + 1) cu) bs) (below_alloc1 (Below.refl _ _) (.cells #[.slice B nj c1, .int .i64 (dj : Int), .int .i64 (-1)] 107)))
              have honj := HON.out.own hxa (fun b hb h => by have := (HSTN.out.blt b h).1; omega)
              have hatj := HATR.out.only hxa (fun b h1 h2 h => by have := (HSTN.out.blt b h).1; omega)
              have hlij := HLI.out.step hxa (fun b _ _ h => h) (X1 := XB (.slice NA NN Nc) (.slice (some ⟨g, 0, none⟩) m cu) bs) (fun b hb => .inl (by rw [xb_slice _ _ (m + 1) m cu cu]; exact hb))
              have hbxj := heap_alloc_new (wr.setCell ⟨bs, 0, none⟩ (.slice (some ⟨g, 0, none⟩) m cu)) (.cells #[.slice B nj c1, .int .i64 (dj : Int), .int .i64 (-1)] 107)
              have hsz : (wr.setCell ⟨bs, 0, none⟩ (.slice (some ⟨g, 0, none⟩) m cu)).heap.size = wr.heap.size := by simp
              rw [hsz] at hbxj
              have bpj := honj.obj BP1.out (fun h => by have := h.2; omega)
              have hp1 : ((wr.setCell ⟨bs, 0, none⟩ (.slice (some ⟨g, 0, none⟩) m cu)).alloc (.cells #[.slice B nj c1, .int .i64 (dj : Int), .int .i64 (-1)] 107)).cell? ⟨w.heap.size, 1, none⟩ = some (.int .i64 (leaf : Int)) := by simp only [World.cell?, bpj]; rfl
              have hp2 : ((wr.setCell ⟨bs, 0, none⟩ (.slice (some ⟨g, 0, none⟩) m cu)).alloc (.cells #[.slice B nj c1, .int .i64 (dj : Int), .int .i64 (-1)] 107)).cell? ⟨w.heap.size, 2, none⟩ = some (.int .i64 (dm : Int)) := by simp only [World.cell?, bpj]; rfl
              have hXB := HSTN.out.blt
              clear hX hstp bpj hsz hxa
              by_cases hle : nj ≤ leaf
              · have hle' : decide (nj ≤ leaf) = true := decide_eq_true hle
                go_wp2_with fail
                obtain ⟨wj, hwj⟩ : ∃ W, (wr.setCell ⟨bs, 0, none⟩ (.slice (some ⟨g, 0, none⟩) m cu)).alloc (.cells #[.slice B nj c1, .int .i64 (dj : Int), .int .i64 (-1)] 107) = W := ⟨_, rfl⟩
                rw [hwj] at hstj honj hatj hlij hbxj hp1 hp2 ⊢
                have HSTJ := Lib.hid hstj
                have HONJ := Lib.hid honj
                have HATJ := Lib.hid hatj
                have HLJ := Lib.hid hlij
                have BXJ := Lib.hid hbxj
                have hzj1 : w1.heap.size ≤ wj.heap.size := HONJ.out.size
                have hzr2 : wr.heap.size < wj.heap.size := obj_lt hbxj
                clear hwj hstj honj hatj hlij hbxj
                refine (HNJ.out ▸ CloneI_calls B c1 ids wj HLJ.out.2.1 (by rw [HNJ.out]; omega) (by rw [HNJ.out]; omega)).mono ?_
                rintro e w6 ⟨v6, he, ho6, hb6⟩
                subst he
                have ho6s := ho6
                obtain ⟨CA, cc, rfl, hcc, _⟩ := ho6.shape
                rw [HNJ.out] at hcc ⊢
                have hz6 := hb6.size
                have hX6 := HSTJ.out.blt
                have hli6 := (Lies.own (X := XB (.slice NA NN Nc) (.slice (some ⟨g, 0, none⟩) m cu) bs) ho6s hzj1 (fun b hb => (hX6 b hb).2)).step (Only.of_below (S := fun _ => False) (below_alloc1 (Below.refl _ _) (.cells #[.bool true, .slice CA nj cc, .slice none 0 0, .int .i64 0, .int .i64 0, .int .i64 0] 113))) (fun _ _ _ h => h.elim) (fun b hb => .inl hb)
                have hst6 := (HSTJ.out.below hb6).below (below_alloc1 (Below.refl _ _) (.cells #[.bool true, .slice CA nj cc, .slice none 0 0, .int .i64 0, .int .i64 0, .int .i64 0] 113))
                obtain ⟨al, e6, h61, h62⟩ := hst6.n
                have hal : al.length = NN := by have h := congrArg List.length e6; rw [List.length_map, setR_length] at h; rw [h, HNN.out]
                have hnf : nodeF ⟨leafN ids, CA, cc, none, 0⟩ = [.bool true, .slice CA nj cc, .slice none 0 0, .int .i64 0, .int .i64 0, .int .i64 0] := by simp only [nodeF, leafN, HNJ.out]; rfl
                have HST6 := Lib.hid hst6
                have HLI6 := Lib.hid hli6
                have H61 := Lib.hid h61
                have H62 := Lib.hid h62
                have HE6 := Lib.hid e6
                have HNF := Lib.hid hnf
                have HON6 := Lib.hid (HONJ.out.low hb6)
                have HAT6 := Lib.hid (HATJ.out.only (S := fun _ => False) (Only.of_below hb6) fun _ _ _ h => h)
                have hz16 := HON6.out.size
                clear ho6 ho6s hst6 hX6 hli6 e6 h61 h62 hnf hb6
                go_wp2_with (first
                  | (at_builtin; (refine wpList_appF (q := 6) (f := nodeF) _ rfl (.tmp 80) (.tmp 85) 48 113 rfl (.agg #[.bool false, .slice none 0 0, .slice none 0 0, .int .i64 0, .int .i64 0, .int .i64 0]) 80 Tryz.underlying48 infoN rfl (by omega) (by omega) nodeF_q nodeF_one w1.heap.size (.slice NA NN Nc) al rfl (some ⟨w6.heap.size, 0, none⟩) 1 [⟨leafN ids, CA, cc, none, 0⟩] rfl H61.out w6 ((Below.refl _ _).alloc (by omega) _) (by rw [World.size_alloc]; omega) (by rw [List.flatMap_cons, List.flatMap_nil, List.append_nil, HNF.out]; exact RdC.block (cs := #[.bool true, .slice CA nj cc, .slice none 0 0, .int .i64 0, .int .i64 0, .int .i64 0]) (heap_alloc_new _ _)) (by rw [hal]; simp; omega) ?_; intro v7 w7 hown hgrow hbel hat7 hnil; have HST7 := Lib.hid (HST6.out.appN HE6.out H62.out (a := ⟨leafN ids, CA, cc, none, 0⟩) ⟨HLI6.out, Lies.nil _ _ _ _⟩ hown hgrow hat7); have HB7 := Lib.hid hbel; obtain ⟨A7, c7, hv7, _⟩ := hown.shape; rw [List.length_append, List.length_singleton, hal] at hv7; subst hv7; clear hown hgrow hbel hat7 hnil)))
                go_wp2_with fail
                go_roundg k1
                case measure => omega
                case rel =>
                  refine ⟨setR N none (NN : Int) ++ [leafN ids], st0, k', _, ?_, ?_, fun j hj => ?_, HST7.out, HAT6.out.below HB7.out (by omega), HON6.out.own (X := fun b => w1.heap.size ≤ b) ⟨HB7.out.os, HB7.out.tape, HB7.out.output, HB7.out.size, fun q hq hs => HB7.out.block q (by omega)⟩ (fun b hb h => by omega)⟩
                  · rw [List.length_append, setR_length, List.length_singleton]; omega
                  · have h := HFIN.out
                    rw [finJ_leaf (.inl (by rw [HNJ.out]; exact hle)), HNN.out] at h
                    exact h
                  · obtain ⟨a1, a2, a3, a4⟩ := HJS0.out j hj
                    exact ⟨a1, a2, a3, fun q hq => by rw [List.length_append, setR_length]; have := a4 q hq; omega⟩
              have hle' : decide (nj ≤ leaf) = false := decide_eq_false hle
              cases f with
              | zero =>
                have hdd : dj = dm := by rw [← HDJ.out]; omega
                subst hdd
                go_wp2_with fail
                obtain ⟨wj, hwj⟩ : ∃ W, (wr.setCell ⟨bs, 0, none⟩ (.slice (some ⟨g, 0, none⟩) m cu)).alloc (.cells #[.slice B nj c1, .int .i64 (dj : Int), .int .i64 (-1)] 107) = W := ⟨_, rfl⟩
                rw [hwj] at hstj honj hatj hlij hbxj hp1 hp2 ⊢
                have HSTJ := Lib.hid hstj
                have HONJ := Lib.hid honj
                have HATJ := Lib.hid hatj
                have HLJ := Lib.hid hlij
                have BXJ := Lib.hid hbxj
                have hzj1 : w1.heap.size ≤ wj.heap.size := HONJ.out.size
                have hzr2 : wr.heap.size < wj.heap.size := obj_lt hbxj
                clear hwj hstj honj hatj hlij hbxj
                refine (HNJ.out ▸ CloneI_calls B c1 ids wj HLJ.out.2.1 (by rw [HNJ.out]; omega) (by rw [HNJ.out]; omega)).mono ?_
                rintro e w6 ⟨v6, he, ho6, hb6⟩
                subst he
                have ho6s := ho6
                obtain ⟨CA, cc, rfl, hcc, _⟩ := ho6.shape
                rw [HNJ.out] at hcc ⊢
                have hz6 := hb6.size
                have hX6 := HSTJ.out.blt
                have hli6 := (Lies.own (X := XB (.slice NA NN Nc) (.slice (some ⟨g, 0, none⟩) m cu) bs) ho6s hzj1 (fun b hb => (hX6 b hb).2)).step (Only.of_below (S := fun _ => False) (below_alloc1 (Below.refl _ _) (.cells #[.bool true, .slice CA nj cc, .slice none 0 0, .int .i64 0, .int .i64 0, .int .i64 0] 113))) (fun _ _ _ h => h.elim) (fun b hb => .inl hb)
                have hst6 := (HSTJ.out.below hb6).below (below_alloc1 (Below.refl _ _) (.cells #[.bool true, .slice CA nj cc, .slice none 0 0, .int .i64 0, .int .i64 0, .int .i64 0] 113))
                obtain ⟨al, e6, h61, h62⟩ := hst6.n
                have hal : al.length = NN := by have h := congrArg List.length e6; rw [List.length_map, setR_length] at h; rw [h, HNN.out]
                have hnf : nodeF ⟨leafN ids, CA, cc, none, 0⟩ = [.bool true, .slice CA nj cc, .slice none 0 0, .int .i64 0, .int .i64 0, .int .i64 0] := by simp only [nodeF, leafN, HNJ.out]; rfl
                have HST6 := Lib.hid hst6
                have HLI6 := Lib.hid hli6
                have H61 := Lib.hid h61
                have H62 := Lib.hid h62
                have HE6 := Lib.hid e6
                have HNF := Lib.hid hnf
                have HON6 := Lib.hid (HONJ.out.low hb6)
                have HAT6 := Lib.hid (HATJ.out.only (S := fun _ => False) (Only.of_below hb6) fun _ _ _ h => h)
                have hz16 := HON6.out.size
                clear ho6 ho6s hst6 hX6 hli6 e6 h61 h62 hnf hb6
                go_wp2_with (first
                  | (at_builtin; (refine wpList_appF (q := 6) (f := nodeF) _ rfl (.tmp 80) (.tmp 85) 48 113 rfl (.agg #[.bool false, .slice none 0 0, .slice none 0 0, .int .i64 0, .int .i64 0, .int .i64 0]) 80 Tryz.underlying48 infoN rfl (by omega) (by omega) nodeF_q nodeF_one w1.heap.size (.slice NA NN Nc) al rfl (some ⟨w6.heap.size, 0, none⟩) 1 [⟨leafN ids, CA, cc, none, 0⟩] rfl H61.out w6 ((Below.refl _ _).alloc (by omega) _) (by rw [World.size_alloc]; omega) (by rw [List.flatMap_cons, List.flatMap_nil, List.append_nil, HNF.out]; exact RdC.block (cs := #[.bool true, .slice CA nj cc, .slice none 0 0, .int .i64 0, .int .i64 0, .int .i64 0]) (heap_alloc_new _ _)) (by rw [hal]; simp; omega) ?_; intro v7 w7 hown hgrow hbel hat7 hnil; have HST7 := Lib.hid (HST6.out.appN HE6.out H62.out (a := ⟨leafN ids, CA, cc, none, 0⟩) ⟨HLI6.out, Lies.nil _ _ _ _⟩ hown hgrow hat7); have HB7 := Lib.hid hbel; obtain ⟨A7, c7, hv7, _⟩ := hown.shape; rw [List.length_append, List.length_singleton, hal] at hv7; subst hv7; clear hown hgrow hbel hat7 hnil)))
                go_wp2_with fail
                go_roundg k1
                case measure => omega
                case rel =>
                  refine ⟨setR N none (NN : Int) ++ [leafN ids], st0, k', _, ?_, ?_, fun j hj => ?_, HST7.out, HAT6.out.below HB7.out (by omega), HON6.out.own (X := fun b => w1.heap.size ≤ b) ⟨HB7.out.os, HB7.out.tape, HB7.out.output, HB7.out.size, fun q hq hs => HB7.out.block q (by omega)⟩ (fun b hb h => by omega)⟩
                  · rw [List.length_append, setR_length, List.length_singleton]; omega
                  · have h := HFIN.out
                    rw [finJ_leaf (.inr rfl), HNN.out] at h
                    exact h
                  · obtain ⟨a1, a2, a3, a4⟩ := HJS0.out j hj
                    exact ⟨a1, a2, a3, fun q hq => by rw [List.length_append, setR_length]; have := a4 q hq; omega⟩
              | succ f' =>
                have hdd : ¬ dj = dm := by rw [← HDJ.out]; omega
                have hdd' : decide (dj = dm) = false := decide_eq_false hdd
                have hkk := hkb
                have hi1' : 2 ≤ nj := by omega
                have hw2 : IntKind.i64.wrap ((dj : Int) + 1) = (dj : Int) + 1 := by rw [i64_w]; have := HDJ.out; exact wrap64_id _ (by omega)
                have hw3 : IntKind.i64.wrap ((NN : Int) + 1) = (NN : Int) + 1 := by rw [i64_w]; exact wrap64_id _ (by omega)
                go_wp2_with fail
                obtain ⟨wj, hwj⟩ : ∃ W, (wr.setCell ⟨bs, 0, none⟩ (.slice (some ⟨g, 0, none⟩) m cu)).alloc (.cells #[.slice B nj c1, .int .i64 (dj : Int), .int .i64 (-1)] 107) = W := ⟨_, rfl⟩
                rw [hwj] at hstj honj hatj hlij hbxj hp1 hp2 ⊢
                have HSTJ := Lib.hid hstj
                have HONJ := Lib.hid honj
                have HATJ := Lib.hid hatj
                have HLJ := Lib.hid hlij
                have BXJ := Lib.hid hbxj
                have hzj1 : w1.heap.size ≤ wj.heap.size := HONJ.out.size
                have hzr2 : wr.heap.size < wj.heap.size := obj_lt hbxj
                clear hwj hstj honj hatj hlij hbxj
                have hitj := (HIT.out.only (S := fun _ => False) (Only.of_below HB1.out) fun _ _ h => h).only HONJ.out HS1.out
                have hblj := fun ad h1 e h => by
                  have h5 := (HLJ.out.2.2 ad h1 e).1
                  have h6 : Within lo hi ad.block := h
                  have := h6.2
                  have : False := by omega
                  exact this
                refine (HNJ.out ▸ Choose_calls b dim rows AI cI B c1 ids lo hi v s k' wj hitj HR.out HLJ.out.2.1 (by have := HLJ.out.1; exact this) (by rw [HNJ.out]; omega) HATJ.out (by omega) HS1.out hblj (by omega)).mono ?_
                rintro e w6 ⟨vn, vl, vr, he, hon1, hol1, hor1, hat6, hon6⟩
                have hC1 := choose_len rows dim ids s k'
                have hC2 := choose_parts rows dim ids s k' (by rw [HNJ.out]; exact hi1')
                have hC3 := choose_tr rows dim ids s k'
                obtain ⟨C, hC⟩ : ∃ C, choose rows dim ids s k' = C := ⟨_, rfl⟩
                rw [hC] at he hon1 hol1 hor1 hat6 hC1 hC2 hC3
                subst he
                have HC := Lib.hid hC
                have hz6 := hon6.size
                have HSTc := Lib.hid (HSTJ.out.only hon6 fun b h1 _ h => by have := h.2; omega)
                have HONc := Lib.hid (HONJ.out.trans hon6)
                have HATc := Lib.hid hat6
                have BXc := Lib.hid (hon6.obj BXJ.out fun h => by have := h.2; omega)
                have hXj := HSTJ.out.blt
                obtain ⟨An, cn, rfl, _, _⟩ := hon1.shape
                obtain ⟨Al, cl, rfl, _, _⟩ := hol1.shape
                obtain ⟨Ar, cr, rfl, _, _⟩ := hor1.shape
                have HLN := Lib.hid (Lies.own (X := XB (.slice NA NN Nc) (.slice (some ⟨g, 0, none⟩) m cu) bs) hon1 hzj1 fun b hb => (hXj b hb).2)
                have HLL := Lib.hid (Lies.own (X := XB (.slice NA NN Nc) (.slice (some ⟨g, 0, none⟩) m cu) bs) hol1 hzj1 fun b hb => (hXj b hb).2)
                have HLR := Lib.hid (Lies.own (X := XB (.slice NA NN Nc) (.slice (some ⟨g, 0, none⟩) m cu) bs) hor1 hzj1 fun b hb => (hXj b hb).2)
                obtain ⟨nn, hnn⟩ : ∃ x, C.ns.length = x := ⟨_, rfl⟩
                obtain ⟨oo, hoo⟩ : ∃ x, C.off = x := ⟨_, rfl⟩
                obtain ⟨nl, hnl⟩ : ∃ x, C.left.length = x := ⟨_, rfl⟩
                obtain ⟨nr, hnr⟩ : ∃ x, C.right.length = x := ⟨_, rfl⟩
                obtain ⟨tt, htt⟩ : ∃ x, C.tries = x := ⟨_, rfl⟩
                rw [hnl, hnr] at hC1 hC2
                rw [HNJ.out] at hC1
                rw [htt] at hC3
                rw [hnn, hoo, hnl, hnr, htt]
                have ENN := Lib.hid hnn
                have EOO := Lib.hid hoo
                have ENL := Lib.hid hnl
                have ENR := Lib.hid hnr
                have ETT := Lib.hid htt
                clear hon1 hol1 hor1 hat6 hon6 hnn hoo hnl hnr htt hC hitj hblj hXj
                have hb68 : Below w6.heap.size w6 ((w6.alloc (.cells #[.slice An nn cn, .int .i64 oo, .slice Al nl cl, .slice Ar nr cr, .int .i64 tt] 115)).alloc (.cells #[.bool false, .slice none 0 0, .slice An nn cn, .int .i64 oo, .int .i64 ((NN : Int) + 1), .int .i64 0] 113)) := below_alloc1 (below_alloc1 (Below.refl _ _) _) _
                have bxc8 : ((w6.alloc (.cells #[.slice An nn cn, .int .i64 oo, .slice Al nl cl, .slice Ar nr cr, .int .i64 tt] 115)).alloc (.cells #[.bool false, .slice none 0 0, .slice An nn cn, .int .i64 oo, .int .i64 ((NN : Int) + 1), .int .i64 0] 113)).heap[w6.heap.size]? = some (.cells #[.slice An nn cn, .int .i64 oo, .slice Al nl cl, .slice Ar nr cr, .int .i64 tt] 115 (0, 0)) := obj_below (below_alloc1 (Below.refl _ _) _) (heap_alloc_new w6 (.cells #[.slice An nn cn, .int .i64 oo, .slice Al nl cl, .slice Ar nr cr, .int .i64 tt] 115)) (obj_lt (heap_alloc_new w6 (.cells #[.slice An nn cn, .int .i64 oo, .slice Al nl cl, .slice Ar nr cr, .int .i64 tt] 115)))
                have bxj8 := obj_below hb68 BXc.out (obj_lt BXc.out)
                have hst8 := HSTc.out.below hb68
                have hX8 := HSTc.out.blt
                have hzc := HONc.out.size
                have hlt6 : wr.heap.size < w6.heap.size := obj_lt BXc.out
                obtain ⟨al, e8, h81, h82⟩ := hst8.n
                have hal : al.length = NN := by have h := congrArg List.length e8; rw [List.length_map, setR_length] at h; rw [h, HNN.out]
                have hnf : nodeF ⟨⟨false, [], C.ns, C.off, ((N.length + 1 : Nat) : Int), 0⟩, none, 0, An, cn⟩ = [.bool false, .slice none 0 0, .slice An nn cn, .int .i64 oo, .int .i64 ((NN : Int) + 1), .int .i64 0] := by simp only [nodeF, ENN.out, EOO.out, HNN.out, List.length_nil, Int.natCast_succ]
                have hvr : ∀ b, (Value.ownBlock (.slice NA NN Nc)) = some b → b < wr.heap.size := fun b h => by
                  have h := (HSTN.out.n.lt b h).2
                  exact h
                have HST8 := Lib.hid hst8
                have H81 := Lib.hid h81
                have H82 := Lib.hid h82
                have HE8 := Lib.hid e8
                have HNF := Lib.hid hnf
                have HB68 := Lib.hid hb68
                have BXC8 := Lib.hid bxc8
                have BXJ8 := Lib.hid bxj8
                have HVR := Lib.hid hvr
                have HLN8 := Lib.hid (HLN.out.step (Only.of_below (S := fun _ => False) hb68) (fun _ _ _ h => h.elim) (X1 := XB (.slice NA NN Nc) (.slice (some ⟨g, 0, none⟩) m cu) bs) (fun b hb => .inl hb))
                have HX8 := Lib.hid hX8
                clear hst8 h81 h82 e8 hnf hb68 bxc8 bxj8 hvr hX8
                go_wp2_with (first
                  | (at_builtin; refine wpList_appF (q := 6) (f := nodeF) _ rfl (.tmp 92) (.tmp 98) 48 113 rfl (.agg #[.bool false, .slice none 0 0, .slice none 0 0, .int .i64 0, .int .i64 0, .int .i64 0]) 80 Tryz.underlying48 infoN rfl (by omega) (by omega) nodeF_q nodeF_one w1.heap.size (.slice NA NN Nc) al rfl (some ⟨w6.heap.size + 1, 0, none⟩) 1 [⟨⟨false, [], C.ns, C.off, ((N.length + 1 : Nat) : Int), 0⟩, none, 0, An, cn⟩] rfl H81.out w6 (HB68.out.mono (by omega)) (by rw [World.size_alloc, World.size_alloc]; omega) (by rw [List.flatMap_cons, List.flatMap_nil, List.append_nil, HNF.out]; exact RdC.block (cs := #[.bool false, .slice none 0 0, .slice An nn cn, .int .i64 oo, .int .i64 ((NN : Int) + 1), .int .i64 0]) (by have h := heap_alloc_new (w6.alloc (.cells #[.slice An nn cn, .int .i64 oo, .slice Al nl cl, .slice Ar nr cr, .int .i64 tt] 115)) (.cells #[.bool false, .slice none 0 0, .slice An nn cn, .int .i64 oo, .int .i64 ((NN : Int) + 1), .int .i64 0] 113); rwa [World.size_alloc] at h)) (by rw [hal]; simp; omega) ?_; intro v9 w9 hown hgrow hbel hat9 hnil; have HST9 := Lib.hid (HST8.out.appN HE8.out H82.out (a := ⟨⟨false, [], C.ns, C.off, ((N.length + 1 : Nat) : Int), 0⟩, none, 0, An, cn⟩) ⟨Lies.nil _ _ _ _, HLN8.out⟩ hown hgrow hat9); have HB9 := Lib.hid hbel; have HG9 := Lib.hid hgrow; have BXC9 := Lib.hid (hgrow.obj BXC8.out (fun h => by have := HVR.out _ h; omega)); have BXJ9 := Lib.hid (hgrow.obj BXJ8.out (fun h => by have := HVR.out _ h; omega)); have HAT9 := Lib.hid hat9; obtain ⟨A9, c9, hv9, _⟩ := hown.shape; rw [List.length_append, List.length_singleton, hal] at hv9; subst hv9; have hj90 : w9.cell? ⟨wr.heap.size, 1, none⟩ = some (.int .i64 (dj : Int)) := (by have h := BXJ9.out; simp [World.cell?, h]); have hc91 : w9.cell? ⟨w6.heap.size, 3, none⟩ = some (.slice Ar nr cr) := (by have h := BXC9.out; simp [World.cell?, h]); clear hown hgrow hbel hat9 hnil))
                have hdf : ((dm - f' : Nat) : Int) = (dj : Int) + 1 := by have := HDJ.out; omega
                have hsz8 : ∀ o1 o2, ((w6.alloc o1).alloc o2).heap.size = w6.heap.size + 1 + 1 := fun o1 o2 => by rw [World.size_alloc, World.size_alloc]
                have hn9 : ∀ b, (Value.slice A9 (NN + 1) c9).ownBlock = some b → (Value.ownBlock (.slice NA NN Nc)) = some b ∨ w6.heap.size + 2 ≤ b := fun b hb => by
                  rcases HAT9.out with h | h
                  · exact .inl (by rw [← h]; exact hb)
                  · rw [h, hsz8] at hb; injection hb with hb; exact .inr (by omega)
                have hx69 : Only (XB (.slice NA NN Nc) (.slice (some ⟨g, 0, none⟩) m cu) bs) w6 w9 := (Only.of_below HB68.out).trans (HG9.out.mono fun b _ h => .inl h)
                have hnx : ∀ b, XB (.slice A9 (NN + 1) c9) (.slice (some ⟨g, 0, none⟩) m cu) bs b → b < wr.heap.size ∨ w6.heap.size + 2 ≤ b := fun b hb => by
                  rcases hb with hb | hb | hb
                  · rcases hn9 b hb with h | h
                    · exact .inl (HVR.out b h)
                    · exact .inr h
                  · have : g = b := by have h : (Value.slice (some ⟨g, 0, none⟩) m cu).ownBlock = some g := rfl
                                       rw [h] at hb; injection hb
                    exact .inl (by omega)
                  · exact .inl (by omega)
                have hxx : ∀ b, XB (.slice A9 (NN + 1) c9) (.slice (some ⟨g, 0, none⟩) m cu) bs b → XB (.slice NA NN Nc) (.slice (some ⟨g, 0, none⟩) m cu) bs b ∨ w6.heap.size ≤ b := fun b hb => by
                  rcases hb with hb | hb | hb
                  · rcases hn9 b hb with h | h
                    · exact .inl (.inl h)
                    · exact .inr (by omega)
                  · exact .inl (.inr (.inl hb))
                  · exact .inl (.inr (.inr hb))
                have HLR9 := Lib.hid (HLR.out.step hx69 (fun b _ _ h => h) hxx)
                have HLL9 := Lib.hid (HLL.out.step hx69 (fun b _ _ h => h) hxx)
                have HNX := Lib.hid hnx
                have hst0 : st0.length ≤ 1000 := hmb
                have hpr := push_calls w9 w1.heap.size dm bs _ _ _ _ Ar cr ⟨C.right, f', some N.length⟩ HST9.out HLR9.out (by rw [List.length_reverse]; omega)
                simp only [ENR.out, hdf, upI, HNN.out] at hpr
                have hz69 := HB9.out.size
                clear hn9 hx69 hnx hxx hsz8
                go_wp2_with fail
                refine hpr.mono ?_
                rintro e w10 ⟨he, ⟨u10', hst10, hu10⟩, hx10⟩
                subst he
                have hb10 := HST9.out.blt
                have BXC10 := Lib.hid (hx10.obj BXC9.out fun h => by have := HNX.out _ h; omega)
                have BXJ10 := Lib.hid (hx10.obj BXJ9.out fun h => by have := HNX.out _ h; omega)
                have hj100 : w10.cell? ⟨wr.heap.size, 1, none⟩ = some (.int .i64 (dj : Int)) := by have h := BXJ10.out; simp [World.cell?, h]
                have hc101 : w10.cell? ⟨w6.heap.size, 2, none⟩ = some (.slice Al nl cl) := by have h := BXC10.out; simp [World.cell?, h]
                have HLL10 := Lib.hid (HLL9.out.step hx10 (fun b _ _ h => h) (X1 := XB (.slice A9 (NN + 1) c9) u10' bs) fun b hb => by
                  rcases hb with hb | hb | hb
                  · exact .inl (.inl hb)
                  · rcases hu10 b hb with h | h
                    · exact .inl (.inr (.inl h))
                    · exact .inr h
                  · exact .inl (.inr (.inr hb)))
                have hpl := push_calls w10 w1.heap.size dm bs _ _ _ _ Al cl ⟨C.left, f', none⟩ hst10 HLL10.out (by rw [List.length_append, List.length_reverse, List.length_singleton]; omega)
                simp only [ENL.out, hdf, upI] at hpl
                have HONr := Lib.hid ((HONc.out.own (X := fun b => w1.heap.size ≤ b) ⟨HB9.out.os, HB9.out.tape, HB9.out.output, HB9.out.size, fun q hq hs => HB9.out.block q (by omega)⟩ (fun b hb h => by omega)).own hx10 (fun b hb h => by have := (hb10 b h).1; omega))
                have HATr := Lib.hid ((HATc.out.below HB9.out (by omega)).only hx10 (fun b h1 h2 h => by have := (hb10 b h).1; omega))
                have HSTr := Lib.hid hst10
                clear hpr hst10 hu10 hx10 hb10
                go_wp2_with fail
                refine hpl.mono ?_
                rintro e w11 ⟨he, ⟨u11', hst11, _⟩, hx11⟩
                subst he
                have hb11 := HSTr.out.blt
                have HSTz := Lib.hid hst11
                have HONz := Lib.hid (HONr.out.own hx11 (fun b hb h => by have := (hb11 b h).1; omega))
                have HATz := Lib.hid (HATr.out.only hx11 (fun b h1 h2 h => by have := (hb11 b h).1; omega))
                clear hpl hst11 hx11 hb11
                go_wp2_with fail
                go_roundg k1
                case measure => omega
                case rel =>
                  refine ⟨setR N none (NN : Int) ++ [⟨false, [], C.ns, C.off, ((N.length + 1 : Nat) : Int), 0⟩], ⟨C.left, f', none⟩ :: ⟨C.right, f', some N.length⟩ :: st0, k' + 2 * C.tries, u11', ?_, ?_, fun j hj => ?_, ?_, HATz.out, HONz.out⟩
                  · rw [List.length_append, setR_length, List.length_singleton]; omega
                  · have h := HFIN.out
                    rw [finJ_split (by rw [HNJ.out]; omega) HC.out, HNN.out] at h
                    rw [HNN.out]
                    exact h
                  · rcases List.mem_cons.1 hj with hj | hj
                    · subst hj
                      exact ⟨by simp only [ENL.out]; omega, by simp only [ENL.out]; omega, by simp only; omega, fun q hq => by simp at hq⟩
                    · rcases List.mem_cons.1 hj with hj | hj
                      · subst hj
                        exact ⟨by simp only [ENR.out]; omega, by simp only [ENR.out]; omega, by simp only; omega, fun q hq => by simp at hq; rw [List.length_append, setR_length, List.length_singleton]; omega⟩
                      · obtain ⟨a1, a2, a3, a4⟩ := HJS0.out j hj
                        exact ⟨a1, a2, a3, fun q hq => by rw [List.length_append, setR_length]; have := a4 q hq; omega⟩
                  · rw [List.reverse_cons, List.reverse_cons, HNN.out]
                    exact HSTz.out
            | some q =>
              have hq := hi4 q rfl
              rw [show upI (some q) = (q : Int) from rfl] at ha2
              rw [HNN.out] at hq
              obtain ⟨gN, xN, _, _, _, _, eA, _, hgN1, hgN2, hfzN, _, _, _, _, _, hcN, _⟩ := HSTN.out.n.at_ q hq
              subst eA
              have hNb : gN ≠ bs := fun e => HSTN.out.vb (by rw [e]; rfl)
              have hc5 := cell_sa (bs := bs) hcN hNb
              have hf5 := frozen_sa (bs := bs) (w := wr) (a := ⟨gN, q * 6 + 5, none⟩) (hfzN _) hgN2 hNb
              have hstp := HSTN.out.pop.right hq (NN : Int)
              have hX : Only (XB (.slice (some ⟨gN, 0, none⟩) NN Nc) (.slice (some ⟨g, 0, none⟩) (m + 1) cu) bs) wr ((wr.setCell ⟨bs, 0, none⟩ (.slice (some ⟨g, 0, none⟩) m cu)).setCell ⟨gN, q * 6 + 5, none⟩ (.int .i64 (NN : Int))) := ((only_set wr bs 0 _).mono fun _ _ e => .inr (.inr e)).trans ((only_set _ gN _ _).mono fun _ _ e => .inl (by rw [e]; rfl))
              have hstj := hstp.below (below_alloc1 (Below.refl _ _) (.cells #[.slice B nj c1, .int .i64 (dj : Int), .int .i64 (q : Int)] 107))
              have hxa := hX.trans (Only.of_below (S := XB (.slice (some ⟨gN, 0, none⟩) NN Nc) (.slice (some ⟨g, 0, none⟩) (m + 1) cu) bs) (below_alloc1 (Below.refl _ _) (.cells #[.slice B nj c1, .int .i64 (dj : Int), .int .i64 (q : Int)] 107)))
              have honj := HON.out.own hxa (fun b hb h => by have := (HSTN.out.blt b h).1; omega)
              have hatj := HATR.out.only hxa (fun b h1 h2 h => by have := (HSTN.out.blt b h).1; omega)
              have hlij := HLI.out.step hxa (fun b _ _ h => h) (X1 := XB (.slice (some ⟨gN, 0, none⟩) NN Nc) (.slice (some ⟨g, 0, none⟩) m cu) bs) (fun b hb => .inl (by rw [xb_slice _ _ (m + 1) m cu cu]; exact hb))
              have hbxj := heap_alloc_new ((wr.setCell ⟨bs, 0, none⟩ (.slice (some ⟨g, 0, none⟩) m cu)).setCell ⟨gN, q * 6 + 5, none⟩ (.int .i64 (NN : Int))) (.cells #[.slice B nj c1, .int .i64 (dj : Int), .int .i64 (q : Int)] 107)
              have hsz : ((wr.setCell ⟨bs, 0, none⟩ (.slice (some ⟨g, 0, none⟩) m cu)).setCell ⟨gN, q * 6 + 5, none⟩ (.int .i64 (NN : Int))).heap.size = wr.heap.size := by simp
              rw [hsz] at hbxj
              have bpj := honj.obj BP1.out (fun h => by have := h.2; omega)
              have hp1 : (((wr.setCell ⟨bs, 0, none⟩ (.slice (some ⟨g, 0, none⟩) m cu)).setCell ⟨gN, q * 6 + 5, none⟩ (.int .i64 (NN : Int))).alloc (.cells #[.slice B nj c1, .int .i64 (dj : Int), .int .i64 (q : Int)] 107)).cell? ⟨w.heap.size, 1, none⟩ = some (.int .i64 (leaf : Int)) := by simp only [World.cell?, bpj]; rfl
              have hp2 : (((wr.setCell ⟨bs, 0, none⟩ (.slice (some ⟨g, 0, none⟩) m cu)).setCell ⟨gN, q * 6 + 5, none⟩ (.int .i64 (NN : Int))).alloc (.cells #[.slice B nj c1, .int .i64 (dj : Int), .int .i64 (q : Int)] 107)).cell? ⟨w.heap.size, 2, none⟩ = some (.int .i64 (dm : Int)) := by simp only [World.cell?, bpj]; rfl
              have hXB := HSTN.out.blt
              clear hX hstp bpj hsz hxa
              by_cases hle : nj ≤ leaf
              · have hle' : decide (nj ≤ leaf) = true := decide_eq_true hle
                go_wp2_with fail
                obtain ⟨wj, hwj⟩ : ∃ W, ((wr.setCell ⟨bs, 0, none⟩ (.slice (some ⟨g, 0, none⟩) m cu)).setCell ⟨gN, q * 6 + 5, none⟩ (.int .i64 (NN : Int))).alloc (.cells #[.slice B nj c1, .int .i64 (dj : Int), .int .i64 (q : Int)] 107) = W := ⟨_, rfl⟩
                rw [hwj] at hstj honj hatj hlij hbxj hp1 hp2 ⊢
                have HSTJ := Lib.hid hstj
                have HONJ := Lib.hid honj
                have HATJ := Lib.hid hatj
                have HLJ := Lib.hid hlij
                have BXJ := Lib.hid hbxj
                have hzj1 : w1.heap.size ≤ wj.heap.size := HONJ.out.size
                have hzr2 : wr.heap.size < wj.heap.size := obj_lt hbxj
                clear hwj hstj honj hatj hlij hbxj
                refine (HNJ.out ▸ CloneI_calls B c1 ids wj HLJ.out.2.1 (by rw [HNJ.out]; omega) (by rw [HNJ.out]; omega)).mono ?_
                rintro e w6 ⟨v6, he, ho6, hb6⟩
                subst he
                have ho6s := ho6
                obtain ⟨CA, cc, rfl, hcc, _⟩ := ho6.shape
                rw [HNJ.out] at hcc ⊢
                have hz6 := hb6.size
                have hX6 := HSTJ.out.blt
                have hli6 := (Lies.own (X := XB (.slice (some ⟨gN, 0, none⟩) NN Nc) (.slice (some ⟨g, 0, none⟩) m cu) bs) ho6s hzj1 (fun b hb => (hX6 b hb).2)).step (Only.of_below (S := fun _ => False) (below_alloc1 (Below.refl _ _) (.cells #[.bool true, .slice CA nj cc, .slice none 0 0, .int .i64 0, .int .i64 0, .int .i64 0] 113))) (fun _ _ _ h => h.elim) (fun b hb => .inl hb)
                have hst6 := (HSTJ.out.below hb6).below (below_alloc1 (Below.refl _ _) (.cells #[.bool true, .slice CA nj cc, .slice none 0 0, .int .i64 0, .int .i64 0, .int .i64 0] 113))
                obtain ⟨al, e6, h61, h62⟩ := hst6.n
                have hal : al.length = NN := by have h := congrArg List.length e6; rw [List.length_map, setR_length] at h; rw [h, HNN.out]
                have hnf : nodeF ⟨leafN ids, CA, cc, none, 0⟩ = [.bool true, .slice CA nj cc, .slice none 0 0, .int .i64 0, .int .i64 0, .int .i64 0] := by simp only [nodeF, leafN, HNJ.out]; rfl
                have HST6 := Lib.hid hst6
                have HLI6 := Lib.hid hli6
                have H61 := Lib.hid h61
                have H62 := Lib.hid h62
                have HE6 := Lib.hid e6
                have HNF := Lib.hid hnf
                have HON6 := Lib.hid (HONJ.out.low hb6)
                have HAT6 := Lib.hid (HATJ.out.only (S := fun _ => False) (Only.of_below hb6) fun _ _ _ h => h)
                have hz16 := HON6.out.size
                clear ho6 ho6s hst6 hX6 hli6 e6 h61 h62 hnf hb6
                go_wp2_with (first
                  | (at_builtin; (refine wpList_appF (q := 6) (f := nodeF) _ rfl (.tmp 80) (.tmp 85) 48 113 rfl (.agg #[.bool false, .slice none 0 0, .slice none 0 0, .int .i64 0, .int .i64 0, .int .i64 0]) 80 Tryz.underlying48 infoN rfl (by omega) (by omega) nodeF_q nodeF_one w1.heap.size (.slice (some ⟨gN, 0, none⟩) NN Nc) al rfl (some ⟨w6.heap.size, 0, none⟩) 1 [⟨leafN ids, CA, cc, none, 0⟩] rfl H61.out w6 ((Below.refl _ _).alloc (by omega) _) (by rw [World.size_alloc]; omega) (by rw [List.flatMap_cons, List.flatMap_nil, List.append_nil, HNF.out]; exact RdC.block (cs := #[.bool true, .slice CA nj cc, .slice none 0 0, .int .i64 0, .int .i64 0, .int .i64 0]) (heap_alloc_new _ _)) (by rw [hal]; simp; omega) ?_; intro v7 w7 hown hgrow hbel hat7 hnil; have HST7 := Lib.hid (HST6.out.appN HE6.out H62.out (a := ⟨leafN ids, CA, cc, none, 0⟩) ⟨HLI6.out, Lies.nil _ _ _ _⟩ hown hgrow hat7); have HB7 := Lib.hid hbel; obtain ⟨A7, c7, hv7, _⟩ := hown.shape; rw [List.length_append, List.length_singleton, hal] at hv7; subst hv7; clear hown hgrow hbel hat7 hnil)))
                go_wp2_with fail
                go_roundg k1
                case measure => omega
                case rel =>
                  refine ⟨setR N (some q) (NN : Int) ++ [leafN ids], st0, k', _, ?_, ?_, fun j hj => ?_, HST7.out, HAT6.out.below HB7.out (by omega), HON6.out.own (X := fun b => w1.heap.size ≤ b) ⟨HB7.out.os, HB7.out.tape, HB7.out.output, HB7.out.size, fun q hq hs => HB7.out.block q (by omega)⟩ (fun b hb h => by omega)⟩
                  · rw [List.length_append, setR_length, List.length_singleton]; omega
                  · have h := HFIN.out
                    rw [finJ_leaf (.inl (by rw [HNJ.out]; exact hle)), HNN.out] at h
                    exact h
                  · obtain ⟨a1, a2, a3, a4⟩ := HJS0.out j hj
                    exact ⟨a1, a2, a3, fun q hq => by rw [List.length_append, setR_length]; have := a4 q hq; omega⟩
              have hle' : decide (nj ≤ leaf) = false := decide_eq_false hle
              cases f with
              | zero =>
                have hdd : dj = dm := by rw [← HDJ.out]; omega
                subst hdd
                go_wp2_with fail
                obtain ⟨wj, hwj⟩ : ∃ W, ((wr.setCell ⟨bs, 0, none⟩ (.slice (some ⟨g, 0, none⟩) m cu)).setCell ⟨gN, q * 6 + 5, none⟩ (.int .i64 (NN : Int))).alloc (.cells #[.slice B nj c1, .int .i64 (dj : Int), .int .i64 (q : Int)] 107) = W := ⟨_, rfl⟩
                rw [hwj] at hstj honj hatj hlij hbxj hp1 hp2 ⊢
                have HSTJ := Lib.hid hstj
                have HONJ := Lib.hid honj
                have HATJ := Lib.hid hatj
                have HLJ := Lib.hid hlij
                have BXJ := Lib.hid hbxj
                have hzj1 : w1.heap.size ≤ wj.heap.size := HONJ.out.size
                have hzr2 : wr.heap.size < wj.heap.size := obj_lt hbxj
                clear hwj hstj honj hatj hlij hbxj
                refine (HNJ.out ▸ CloneI_calls B c1 ids wj HLJ.out.2.1 (by rw [HNJ.out]; omega) (by rw [HNJ.out]; omega)).mono ?_
                rintro e w6 ⟨v6, he, ho6, hb6⟩
                subst he
                have ho6s := ho6
                obtain ⟨CA, cc, rfl, hcc, _⟩ := ho6.shape
                rw [HNJ.out] at hcc ⊢
                have hz6 := hb6.size
                have hX6 := HSTJ.out.blt
                have hli6 := (Lies.own (X := XB (.slice (some ⟨gN, 0, none⟩) NN Nc) (.slice (some ⟨g, 0, none⟩) m cu) bs) ho6s hzj1 (fun b hb => (hX6 b hb).2)).step (Only.of_below (S := fun _ => False) (below_alloc1 (Below.refl _ _) (.cells #[.bool true, .slice CA nj cc, .slice none 0 0, .int .i64 0, .int .i64 0, .int .i64 0] 113))) (fun _ _ _ h => h.elim) (fun b hb => .inl hb)
                have hst6 := (HSTJ.out.below hb6).below (below_alloc1 (Below.refl _ _) (.cells #[.bool true, .slice CA nj cc, .slice none 0 0, .int .i64 0, .int .i64 0, .int .i64 0] 113))
                obtain ⟨al, e6, h61, h62⟩ := hst6.n
                have hal : al.length = NN := by have h := congrArg List.length e6; rw [List.length_map, setR_length] at h; rw [h, HNN.out]
                have hnf : nodeF ⟨leafN ids, CA, cc, none, 0⟩ = [.bool true, .slice CA nj cc, .slice none 0 0, .int .i64 0, .int .i64 0, .int .i64 0] := by simp only [nodeF, leafN, HNJ.out]; rfl
                have HST6 := Lib.hid hst6
                have HLI6 := Lib.hid hli6
                have H61 := Lib.hid h61
                have H62 := Lib.hid h62
                have HE6 := Lib.hid e6
                have HNF := Lib.hid hnf
                have HON6 := Lib.hid (HONJ.out.low hb6)
                have HAT6 := Lib.hid (HATJ.out.only (S := fun _ => False) (Only.of_below hb6) fun _ _ _ h => h)
                have hz16 := HON6.out.size
                clear ho6 ho6s hst6 hX6 hli6 e6 h61 h62 hnf hb6
                go_wp2_with (first
                  | (at_builtin; (refine wpList_appF (q := 6) (f := nodeF) _ rfl (.tmp 80) (.tmp 85) 48 113 rfl (.agg #[.bool false, .slice none 0 0, .slice none 0 0, .int .i64 0, .int .i64 0, .int .i64 0]) 80 Tryz.underlying48 infoN rfl (by omega) (by omega) nodeF_q nodeF_one w1.heap.size (.slice (some ⟨gN, 0, none⟩) NN Nc) al rfl (some ⟨w6.heap.size, 0, none⟩) 1 [⟨leafN ids, CA, cc, none, 0⟩] rfl H61.out w6 ((Below.refl _ _).alloc (by omega) _) (by rw [World.size_alloc]; omega) (by rw [List.flatMap_cons, List.flatMap_nil, List.append_nil, HNF.out]; exact RdC.block (cs := #[.bool true, .slice CA nj cc, .slice none 0 0, .int .i64 0, .int .i64 0, .int .i64 0]) (heap_alloc_new _ _)) (by rw [hal]; simp; omega) ?_; intro v7 w7 hown hgrow hbel hat7 hnil; have HST7 := Lib.hid (HST6.out.appN HE6.out H62.out (a := ⟨leafN ids, CA, cc, none, 0⟩) ⟨HLI6.out, Lies.nil _ _ _ _⟩ hown hgrow hat7); have HB7 := Lib.hid hbel; obtain ⟨A7, c7, hv7, _⟩ := hown.shape; rw [List.length_append, List.length_singleton, hal] at hv7; subst hv7; clear hown hgrow hbel hat7 hnil)))
                go_wp2_with fail
                go_roundg k1
                case measure => omega
                case rel =>
                  refine ⟨setR N (some q) (NN : Int) ++ [leafN ids], st0, k', _, ?_, ?_, fun j hj => ?_, HST7.out, HAT6.out.below HB7.out (by omega), HON6.out.own (X := fun b => w1.heap.size ≤ b) ⟨HB7.out.os, HB7.out.tape, HB7.out.output, HB7.out.size, fun q hq hs => HB7.out.block q (by omega)⟩ (fun b hb h => by omega)⟩
                  · rw [List.length_append, setR_length, List.length_singleton]; omega
                  · have h := HFIN.out
                    rw [finJ_leaf (.inr rfl), HNN.out] at h
                    exact h
                  · obtain ⟨a1, a2, a3, a4⟩ := HJS0.out j hj
                    exact ⟨a1, a2, a3, fun q hq => by rw [List.length_append, setR_length]; have := a4 q hq; omega⟩
              | succ f' =>
                have hdd : ¬ dj = dm := by rw [← HDJ.out]; omega
                have hdd' : decide (dj = dm) = false := decide_eq_false hdd
                have hkk := hkb
                have hi1' : 2 ≤ nj := by omega
                have hw2 : IntKind.i64.wrap ((dj : Int) + 1) = (dj : Int) + 1 := by rw [i64_w]; have := HDJ.out; exact wrap64_id _ (by omega)
                have hw3 : IntKind.i64.wrap ((NN : Int) + 1) = (NN : Int) + 1 := by rw [i64_w]; exact wrap64_id _ (by omega)
                go_wp2_with fail
                obtain ⟨wj, hwj⟩ : ∃ W, ((wr.setCell ⟨bs, 0, none⟩ (.slice (some ⟨g, 0, none⟩) m cu)).setCell ⟨gN, q * 6 + 5, none⟩ (.int .i64 (NN : Int))).alloc (.cells #[.slice B nj c1, .int .i64 (dj : Int), .int .i64 (q : Int)] 107) = W := ⟨_, rfl⟩
                rw [hwj] at hstj honj hatj hlij hbxj hp1 hp2 ⊢
                have HSTJ := Lib.hid hstj
                have HONJ := Lib.hid honj
                have HATJ := Lib.hid hatj
                have HLJ := Lib.hid hlij
                have BXJ := Lib.hid hbxj
                have hzj1 : w1.heap.size ≤ wj.heap.size := HONJ.out.size
                have hzr2 : wr.heap.size < wj.heap.size := obj_lt hbxj
                clear hwj hstj honj hatj hlij hbxj
                have hitj := (HIT.out.only (S := fun _ => False) (Only.of_below HB1.out) fun _ _ h => h).only HONJ.out HS1.out
                have hblj := fun ad h1 e h => by
                  have h5 := (HLJ.out.2.2 ad h1 e).1
                  have h6 : Within lo hi ad.block := h
                  have := h6.2
                  have : False := by omega
                  exact this
                refine (HNJ.out ▸ Choose_calls b dim rows AI cI B c1 ids lo hi v s k' wj hitj HR.out HLJ.out.2.1 (by have := HLJ.out.1; exact this) (by rw [HNJ.out]; omega) HATJ.out (by omega) HS1.out hblj (by omega)).mono ?_
                rintro e w6 ⟨vn, vl, vr, he, hon1, hol1, hor1, hat6, hon6⟩
                have hC1 := choose_len rows dim ids s k'
                have hC2 := choose_parts rows dim ids s k' (by rw [HNJ.out]; exact hi1')
                have hC3 := choose_tr rows dim ids s k'
                obtain ⟨C, hC⟩ : ∃ C, choose rows dim ids s k' = C := ⟨_, rfl⟩
                rw [hC] at he hon1 hol1 hor1 hat6 hC1 hC2 hC3
                subst he
                have HC := Lib.hid hC
                have hz6 := hon6.size
                have HSTc := Lib.hid (HSTJ.out.only hon6 fun b h1 _ h => by have := h.2; omega)
                have HONc := Lib.hid (HONJ.out.trans hon6)
                have HATc := Lib.hid hat6
                have BXc := Lib.hid (hon6.obj BXJ.out fun h => by have := h.2; omega)
                have hXj := HSTJ.out.blt
                obtain ⟨An, cn, rfl, _, _⟩ := hon1.shape
                obtain ⟨Al, cl, rfl, _, _⟩ := hol1.shape
                obtain ⟨Ar, cr, rfl, _, _⟩ := hor1.shape
                have HLN := Lib.hid (Lies.own (X := XB (.slice (some ⟨gN, 0, none⟩) NN Nc) (.slice (some ⟨g, 0, none⟩) m cu) bs) hon1 hzj1 fun b hb => (hXj b hb).2)
                have HLL := Lib.hid (Lies.own (X := XB (.slice (some ⟨gN, 0, none⟩) NN Nc) (.slice (some ⟨g, 0, none⟩) m cu) bs) hol1 hzj1 fun b hb => (hXj b hb).2)
                have HLR := Lib.hid (Lies.own (X := XB (.slice (some ⟨gN, 0, none⟩) NN Nc) (.slice (some ⟨g, 0, none⟩) m cu) bs) hor1 hzj1 fun b hb => (hXj b hb).2)
                obtain ⟨nn, hnn⟩ : ∃ x, C.ns.length = x := ⟨_, rfl⟩
                obtain ⟨oo, hoo⟩ : ∃ x, C.off = x := ⟨_, rfl⟩
                obtain ⟨nl, hnl⟩ : ∃ x, C.left.length = x := ⟨_, rfl⟩
                obtain ⟨nr, hnr⟩ : ∃ x, C.right.length = x := ⟨_, rfl⟩
                obtain ⟨tt, htt⟩ : ∃ x, C.tries = x := ⟨_, rfl⟩
                rw [hnl, hnr] at hC1 hC2
                rw [HNJ.out] at hC1
                rw [htt] at hC3
                rw [hnn, hoo, hnl, hnr, htt]
                have ENN := Lib.hid hnn
                have EOO := Lib.hid hoo
                have ENL := Lib.hid hnl
                have ENR := Lib.hid hnr
                have ETT := Lib.hid htt
                clear hon1 hol1 hor1 hat6 hon6 hnn hoo hnl hnr htt hC hitj hblj hXj
                have hb68 : Below w6.heap.size w6 ((w6.alloc (.cells #[.slice An nn cn, .int .i64 oo, .slice Al nl cl, .slice Ar nr cr, .int .i64 tt] 115)).alloc (.cells #[.bool false, .slice none 0 0, .slice An nn cn, .int .i64 oo, .int .i64 ((NN : Int) + 1), .int .i64 0] 113)) := below_alloc1 (below_alloc1 (Below.refl _ _) _) _
                have bxc8 : ((w6.alloc (.cells #[.slice An nn cn, .int .i64 oo, .slice Al nl cl, .slice Ar nr cr, .int .i64 tt] 115)).alloc (.cells #[.bool false, .slice none 0 0, .slice An nn cn, .int .i64 oo, .int .i64 ((NN : Int) + 1), .int .i64 0] 113)).heap[w6.heap.size]? = some (.cells #[.slice An nn cn, .int .i64 oo, .slice Al nl cl, .slice Ar nr cr, .int .i64 tt] 115 (0, 0)) := obj_below (below_alloc1 (Below.refl _ _) _) (heap_alloc_new w6 (.cells #[.slice An nn cn, .int .i64 oo, .slice Al nl cl, .slice Ar nr cr, .int .i64 tt] 115)) (obj_lt (heap_alloc_new w6 (.cells #[.slice An nn cn, .int .i64 oo, .slice Al nl cl, .slice Ar nr cr, .int .i64 tt] 115)))
                have bxj8 := obj_below hb68 BXc.out (obj_lt BXc.out)
                have hst8 := HSTc.out.below hb68
                have hX8 := HSTc.out.blt
                have hzc := HONc.out.size
                have hlt6 : wr.heap.size < w6.heap.size := obj_lt BXc.out
                obtain ⟨al, e8, h81, h82⟩ := hst8.n
                have hal : al.length = NN := by have h := congrArg List.length e8; rw [List.length_map, setR_length] at h; rw [h, HNN.out]
                have hnf : nodeF ⟨⟨false, [], C.ns, C.off, ((N.length + 1 : Nat) : Int), 0⟩, none, 0, An, cn⟩ = [.bool false, .slice none 0 0, .slice An nn cn, .int .i64 oo, .int .i64 ((NN : Int) + 1), .int .i64 0] := by simp only [nodeF, ENN.out, EOO.out, HNN.out, List.length_nil, Int.natCast_succ]
                have hvr : ∀ b, (Value.ownBlock (.slice (some ⟨gN, 0, none⟩) NN Nc)) = some b → b < wr.heap.size := fun b h => by
                  have h := (HSTN.out.n.lt b h).2
                  exact h
                have HST8 := Lib.hid hst8
                have H81 := Lib.hid h81
                have H82 := Lib.hid h82
                have HE8 := Lib.hid e8
                have HNF := Lib.hid hnf
                have HB68 := Lib.hid hb68
                have BXC8 := Lib.hid bxc8
                have BXJ8 := Lib.hid bxj8
                have HVR := Lib.hid hvr
                have HLN8 := Lib.hid (HLN.out.step (Only.of_below (S := fun _ => False) hb68) (fun _ _ _ h => h.elim) (X1 := XB (.slice (some ⟨gN, 0, none⟩) NN Nc) (.slice (some ⟨g, 0, none⟩) m cu) bs) (fun b hb => .inl hb))
                have HX8 := Lib.hid hX8
                clear hst8 h81 h82 e8 hnf hb68 bxc8 bxj8 hvr hX8
                go_wp2_with (first
                  | (at_builtin; refine wpList_appF (q := 6) (f := nodeF) _ rfl (.tmp 92) (.tmp 98) 48 113 rfl (.agg #[.bool false, .slice none 0 0, .slice none 0 0, .int .i64 0, .int .i64 0, .int .i64 0]) 80 Tryz.underlying48 infoN rfl (by omega) (by omega) nodeF_q nodeF_one w1.heap.size (.slice (some ⟨gN, 0, none⟩) NN Nc) al rfl (some ⟨w6.heap.size + 1, 0, none⟩) 1 [⟨⟨false, [], C.ns, C.off, ((N.length + 1 : Nat) : Int), 0⟩, none, 0, An, cn⟩] rfl H81.out w6 (HB68.out.mono (by omega)) (by rw [World.size_alloc, World.size_alloc]; omega) (by rw [List.flatMap_cons, List.flatMap_nil, List.append_nil, HNF.out]; exact RdC.block (cs := #[.bool false, .slice none 0 0, .slice An nn cn, .int .i64 oo, .int .i64 ((NN : Int) + 1), .int .i64 0]) (by have h := heap_alloc_new (w6.alloc (.cells #[.slice An nn cn, .int .i64 oo, .slice Al nl cl, .slice Ar nr cr, .int .i64 tt] 115)) (.cells #[.bool false, .slice none 0 0, .slice An nn cn, .int .i64 oo, .int .i64 ((NN : Int) + 1), .int .i64 0] 113); rwa [World.size_alloc] at h)) (by rw [hal]; simp; omega) ?_; intro v9 w9 hown hgrow hbel hat9 hnil; have HST9 := Lib.hid (HST8.out.appN HE8.out H82.out (a := ⟨⟨false, [], C.ns, C.off, ((N.length + 1 : Nat) : Int), 0⟩, none, 0, An, cn⟩) ⟨Lies.nil _ _ _ _, HLN8.out⟩ hown hgrow hat9); have HB9 := Lib.hid hbel; have HG9 := Lib.hid hgrow; have BXC9 := Lib.hid (hgrow.obj BXC8.out (fun h => by have := HVR.out _ h; omega)); have BXJ9 := Lib.hid (hgrow.obj BXJ8.out (fun h => by have := HVR.out _ h; omega)); have HAT9 := Lib.hid hat9; obtain ⟨A9, c9, hv9, _⟩ := hown.shape; rw [List.length_append, List.length_singleton, hal] at hv9; subst hv9; have hj90 : w9.cell? ⟨wr.heap.size, 1, none⟩ = some (.int .i64 (dj : Int)) := (by have h := BXJ9.out; simp [World.cell?, h]); have hc91 : w9.cell? ⟨w6.heap.size, 3, none⟩ = some (.slice Ar nr cr) := (by have h := BXC9.out; simp [World.cell?, h]); clear hown hgrow hbel hat9 hnil))
                have hdf : ((dm - f' : Nat) : Int) = (dj : Int) + 1 := by have := HDJ.out; omega
                have hsz8 : ∀ o1 o2, ((w6.alloc o1).alloc o2).heap.size = w6.heap.size + 1 + 1 := fun o1 o2 => by rw [World.size_alloc, World.size_alloc]
                have hn9 : ∀ b, (Value.slice A9 (NN + 1) c9).ownBlock = some b → (Value.ownBlock (.slice (some ⟨gN, 0, none⟩) NN Nc)) = some b ∨ w6.heap.size + 2 ≤ b := fun b hb => by
                  rcases HAT9.out with h | h
                  · exact .inl (by rw [← h]; exact hb)
                  · rw [h, hsz8] at hb; injection hb with hb; exact .inr (by omega)
                have hx69 : Only (XB (.slice (some ⟨gN, 0, none⟩) NN Nc) (.slice (some ⟨g, 0, none⟩) m cu) bs) w6 w9 := (Only.of_below HB68.out).trans (HG9.out.mono fun b _ h => .inl h)
                have hnx : ∀ b, XB (.slice A9 (NN + 1) c9) (.slice (some ⟨g, 0, none⟩) m cu) bs b → b < wr.heap.size ∨ w6.heap.size + 2 ≤ b := fun b hb => by
                  rcases hb with hb | hb | hb
                  · rcases hn9 b hb with h | h
                    · exact .inl (HVR.out b h)
                    · exact .inr h
                  · have : g = b := by have h : (Value.slice (some ⟨g, 0, none⟩) m cu).ownBlock = some g := rfl
                                       rw [h] at hb; injection hb
                    exact .inl (by omega)
                  · exact .inl (by omega)
                have hxx : ∀ b, XB (.slice A9 (NN + 1) c9) (.slice (some ⟨g, 0, none⟩) m cu) bs b → XB (.slice (some ⟨gN, 0, none⟩) NN Nc) (.slice (some ⟨g, 0, none⟩) m cu) bs b ∨ w6.heap.size ≤ b := fun b hb => by
                  rcases hb with hb | hb | hb
                  · rcases hn9 b hb with h | h
                    · exact .inl (.inl h)
                    · exact .inr (by omega)
                  · exact .inl (.inr (.inl hb))
                  · exact .inl (.inr (.inr hb))
                have HLR9 := Lib.hid (HLR.out.step hx69 (fun b _ _ h => h) hxx)
                have HLL9 := Lib.hid (HLL.out.step hx69 (fun b _ _ h => h) hxx)
                have HNX := Lib.hid hnx
                have hst0 : st0.length ≤ 1000 := hmb
                have hpr := push_calls w9 w1.heap.size dm bs _ _ _ _ Ar cr ⟨C.right, f', some N.length⟩ HST9.out HLR9.out (by rw [List.length_reverse]; omega)
                simp only [ENR.out, hdf, upI, HNN.out] at hpr
                have hz69 := HB9.out.size
                clear hn9 hx69 hnx hxx hsz8
                go_wp2_with fail
                refine hpr.mono ?_
                rintro e w10 ⟨he, ⟨u10', hst10, hu10⟩, hx10⟩
                subst he
                have hb10 := HST9.out.blt
                have BXC10 := Lib.hid (hx10.obj BXC9.out fun h => by have := HNX.out _ h; omega)
                have BXJ10 := Lib.hid (hx10.obj BXJ9.out fun h => by have := HNX.out _ h; omega)
                have hj100 : w10.cell? ⟨wr.heap.size, 1, none⟩ = some (.int .i64 (dj : Int)) := by have h := BXJ10.out; simp [World.cell?, h]
                have hc101 : w10.cell? ⟨w6.heap.size, 2, none⟩ = some (.slice Al nl cl) := by have h := BXC10.out; simp [World.cell?, h]
                have HLL10 := Lib.hid (HLL9.out.step hx10 (fun b _ _ h => h) (X1 := XB (.slice A9 (NN + 1) c9) u10' bs) fun b hb => by
                  rcases hb with hb | hb | hb
                  · exact .inl (.inl hb)
                  · rcases hu10 b hb with h | h
                    · exact .inl (.inr (.inl h))
                    · exact .inr h
                  · exact .inl (.inr (.inr hb)))
                have hpl := push_calls w10 w1.heap.size dm bs _ _ _ _ Al cl ⟨C.left, f', none⟩ hst10 HLL10.out (by rw [List.length_append, List.length_reverse, List.length_singleton]; omega)
                simp only [ENL.out, hdf, upI] at hpl
                have HONr := Lib.hid ((HONc.out.own (X := fun b => w1.heap.size ≤ b) ⟨HB9.out.os, HB9.out.tape, HB9.out.output, HB9.out.size, fun q hq hs => HB9.out.block q (by omega)⟩ (fun b hb h => by omega)).own hx10 (fun b hb h => by have := (hb10 b h).1; omega))
                have HATr := Lib.hid ((HATc.out.below HB9.out (by omega)).only hx10 (fun b h1 h2 h => by have := (hb10 b h).1; omega))
                have HSTr := Lib.hid hst10
                clear hpr hst10 hu10 hx10 hb10
                go_wp2_with fail
                refine hpl.mono ?_
                rintro e w11 ⟨he, ⟨u11', hst11, _⟩, hx11⟩
                subst he
                have hb11 := HSTr.out.blt
                have HSTz := Lib.hid hst11
                have HONz := Lib.hid (HONr.out.own hx11 (fun b hb h => by have := (hb11 b h).1; omega))
                have HATz := Lib.hid (HATr.out.only hx11 (fun b h1 h2 h => by have := (hb11 b h).1; omega))
                clear hpl hst11 hx11 hb11
                go_wp2_with fail
                go_roundg k1
                case measure => omega
                case rel =>
                  refine ⟨setR N (some q) (NN : Int) ++ [⟨false, [], C.ns, C.off, ((N.length + 1 : Nat) : Int), 0⟩], ⟨C.left, f', none⟩ :: ⟨C.right, f', some N.length⟩ :: st0, k' + 2 * C.tries, u11', ?_, ?_, fun j hj => ?_, ?_, HATz.out, HONz.out⟩
                  · rw [List.length_append, setR_length, List.length_singleton]; omega
                  · have h := HFIN.out
                    rw [finJ_split (by rw [HNJ.out]; omega) HC.out, HNN.out] at h
                    rw [HNN.out]
                    exact h
                  · rcases List.mem_cons.1 hj with hj | hj
                    · subst hj
                      exact ⟨by simp only [ENL.out]; omega, by simp only [ENL.out]; omega, by simp only; omega, fun q hq => by simp at hq⟩
                    · rcases List.mem_cons.1 hj with hj | hj
                      · subst hj
                        exact ⟨by simp only [ENR.out]; omega, by simp only [ENR.out]; omega, by simp only; omega, fun q hq => by simp at hq; rw [List.length_append, setR_length, List.length_singleton]; omega⟩
                      · obtain ⟨a1, a2, a3, a4⟩ := HJS0.out j hj
                        exact ⟨a1, a2, a3, fun q hq => by rw [List.length_append, setR_length]; have := a4 q hq; omega⟩
                  · rw [List.reverse_cons, List.reverse_cons, HNN.out]
                    exact HSTz.out
end Go.Proofs.YticdmglondpgaaaGreat

/-! ## Law12: What the statements of layer 12 (split) share: the document's sides and goodness, sameness of ids, the items, the document's example. Condition: the arguments lie as the words say. -/
namespace Go.Proofs.YticdmglondpgaaaGreat
open Go.RowKit
set_option linter.unusedVariables false
set_option maxRecDepth 100000
set_option linter.unusedSimpArgs false

set_option maxHeartbeats 1600000 in
theorem SameI_calls (A B : Option Addr) (c d : Nat) (xs ys : List Int) (w : World) (ha : Rd w .i64 A xs) (hb : Rd w .i64 B ys) :
    Calls Tryz.prog 29 #[.slice A xs.length c, .slice B ys.length d] w fun e w' => e = .returned (.bool (decide (xs = ys))) ∧ ∃ n, w' = w.drewN n := by
  have KA := Lib.hid ha
  have KB := Lib.hid hb
  have lA := ha.1
  clear ha hb
  by_cases hl : xs.length = ys.length
  · obtain ⟨n, hn⟩ : ∃ n, ys.length = n := ⟨_, rfl⟩
    rw [hn] at hl
    have HX := Lib.hid hl
    have HY := Lib.hid hn
    rw [hl] at lA
    rw [hl, hn]
    have hnn : ((n : Int) != (n : Int)) = false := by simp
    clear hl hn
    go_enter Tryz.func29, Tryz.ntmps29
    go_wp2_with fail
    go_loopg [5] n (fun kq v5 w' => kq ≤ n ∧ v5 = .int .i64 ((n - kq : Nat) : Int) ∧ (∀ j, j < n - kq → xs.getD j 0 = ys.getD j 0) ∧ ∃ q, w' = w.drewN q)
    case atStart => exact ⟨Nat.le_refl _, by simp, fun j hj => by omega, 0, rfl⟩
    case round =>
      obtain ⟨hk, rfl, hpre, q, hwq⟩ := hrel
      have HP := Lib.hid hpre
      have hbel : Below w.heap.size w wr := by rw [hwq]; exact below_drewN_self w q
      have HW := Lib.hid hwq
      clear hpre hwq
      cases gk with
      | zero =>
        simp only [Nat.sub_zero] at HP ⊢
        have hlt0 : ¬ ((n : Int) < (n : Int)) := by omega
        go_wp2_with fail
        go_ret
        refine ⟨ret_bool ?_, q, HW.out⟩
        symm
        rw [decide_eq_true_iff]
        refine List.ext_getElem (by rw [HX.out, HY.out]) fun j h1 h2 => ?_
        have := HP.out j (by have := HX.out; omega)
        simpa [List.getD, h1, h2] using this
      | succ k1 =>
        obtain ⟨i, hi⟩ : ∃ i, n - (k1 + 1) = i := ⟨_, rfl⟩
        have hi2 : n - k1 = i + 1 := by omega
        have HI := Lib.hid hi2
        have hlt : i < n := by omega
        rw [hi] at HP ⊢
        obtain ⟨ad, rfl, hca⟩ := (KA.out.below hbel).2 i (by rw [HX.out]; exact hlt)
        obtain ⟨bd, rfl, hcb⟩ := (KB.out.below hbel).2 i (by rw [HY.out]; exact hlt)
        obtain ⟨x, hx⟩ : ∃ x, xs.getD i 0 = x := ⟨_, rfl⟩
        obtain ⟨y, hy⟩ : ∃ y, ys.getD i 0 = y := ⟨_, rfl⟩
        rw [hx] at hca
        rw [hy] at hcb
        have HXE := Lib.hid hx
        have HYE := Lib.hid hy
        clear hi hi2 hx hy
        by_cases hc : x = y
        · obtain rfl := hc
          have hxx : (x != x) = false := by simp
          go_wp2_with fail
          go_quiet (fail)
          go_wp2_with fail
          go_roundg k1
          case measure => omega
          case rel =>
            refine ⟨by omega, by rw [HI.out]; rfl, fun j hj => ?_, q + nq, by rw [HW.out, World.drewN_drewN]⟩
            rw [HI.out] at hj
            rcases Nat.lt_or_ge j i with h | h
            · exact HP.out j h
            · obtain rfl : j = i := by omega
              rw [HXE.out, HYE.out]
        · have hxx : (x != y) = true := by simp [hc]
          have HC := Lib.hid hc
          clear hc
          go_wp2_with fail
          go_quiet (fail)
          go_wp2_with fail
          go_ret
          refine ⟨ret_bool ?_, q + nq, by rw [HW.out, World.drewN_drewN]⟩
          symm
          rw [decide_eq_false_iff_not]
          intro e
          have h1 := HXE.out
          rw [e, HYE.out] at h1
          exact HC.out h1.symm
  · have hne : ((xs.length : Int) != (ys.length : Int)) = true := by
      rw [bne_iff_ne]
      omega
    obtain ⟨n, hn⟩ : ∃ n, xs.length = n := ⟨_, rfl⟩
    obtain ⟨m, hm⟩ : ∃ m, ys.length = m := ⟨_, rfl⟩
    have hf : decide (xs = ys) = false := decide_eq_false fun e => hl (by rw [e])
    rw [hn, hm] at hne
    rw [hn, hm, hf]
    clear hl hn hm hf lA
    go_enter Tryz.func29, Tryz.ntmps29
    go_wp2_with fail
    go_ret
    exact ⟨rfl, 0, rfl⟩
def ItemPost (w : World) (r : List Int) (e : Ending) (w' : World) : Prop := (∃ B d, e = .returned (.slice B r.length d) ∧ r.length ≤ d ∧ Rd w .i32 B r) ∧ w = w'
def SomePost (w : World) (dim : Int) (ls : List (List Int)) (n : Nat) (e : Ending) (w' : World) : Prop :=
  ∃ v, e = .returned v ∧ Below w.heap.size w w' ∧ (v = .pointer none ∨ ∃ b, v = .pointer (some ⟨b, 0, none⟩) ∧ w.heap.size ≤ b ∧ It w' b dim.toNat ls ∧ chkV dim ls = 0 ∧ ls.length ≤ 301 ∧ n ≤ 200)
end Go.Proofs.YticdmglondpgaaaGreat

/-! ## RChoose: The document's split (layer 12, Choose). Condition: the items, the ids and the source lie as the words say, apart from one another; no more than a million ids. -/
namespace Go.Proofs.YticdmglondpgaaaGreat
open Go.RowKit
set_option linter.unusedVariables false
set_option maxRecDepth 100000
set_option linter.unusedSimpArgs false

theorem Rd.of_c {w : World} {k : IntKind} {A : Option Addr} {xs : List Int} (h : RdC w A (nums k xs)) (hl : xs.length ≤ 9223372036854775807) : Rd w k A xs :=
  ⟨hl, fun j hj => h j _ (nums_get k xs j hj)⟩
theorem Rd.cutR {w : World} {k : IntKind} {A : Option Addr} {c m : Nat} {xs : List Int} (h : Rd w k A xs) (hm : m ≤ xs.length) (hc : xs.length ≤ c) : Rd w k A (xs.take m) ∧ Rd w k (if c = m then A else Option.map (fun x => x.add m) A) (xs.drop m) := by
  obtain ⟨h1, h2⟩ := h.cutA hm hc
  have := h.1
  exact ⟨Rd.of_c h1 (by simp; omega), Rd.of_c h2 (by simp; omega)⟩
theorem below_of_drew {w W : World} (h : Below w.heap.size w W) : Below w.drew.heap.size w.drew W := ⟨h.os, h.tape, h.output, h.size, h.block⟩
theorem frz_below {B : Nat} {w w1 : World} (h : Below B w w1) {a : Addr} (hc : w.frozen? a = false) (hB : a.block < B) : w1.frozen? a = false := (h.frozen hB).trans hc
theorem heap_alloc_drew (W : World) (o : Obj) : (W.alloc o).drew.heap[W.heap.size]? = some o := heap_alloc_new W o
theorem side_sum (rows : List (List Int)) (ns : List Int) (off : Int) (ids : List Int) : (sideL rows ns off ids false).length + (sideL rows ns off ids true).length = ids.length := by
  induction ids with
  | nil => rfl
  | cons x xs ih =>
    have e : ∀ b, (sideL rows ns off (x :: xs) b).length = (if onB rows ns off x == b then 1 else 0) + (sideL rows ns off xs b).length := fun b => by
      unfold sideL
      rw [List.filter_cons]
      split <;> simp_all <;> omega
    rw [e, e, List.length_cons]
    cases onB rows ns off x <;> simp <;> omega
/-- A slice that lies apart from block b. -/
def Off (b : Nat) (A : Option Addr) (n : Nat) : Prop := ∀ ad, 0 < n → A = some ad → ad.block ≠ b
theorem Off.own {w : World} {base b : Nat} {e : TypeId} {kk : IntKind} {A : Option Addr} {n c : Nat} {xs : List Int} (h : Own w base e kk (.slice A n c) xs) (hb : b < base) : Off b A n := fun ad hn e => by
  obtain rfl := h.rd.1
  obtain ⟨g, hg, hbg, _⟩ := own_cell (show w.ownsRow base _ 1 (.slice A xs.length c) xs.length (nums kk xs) from h) 0 hn
  rw [hg] at e
  injection e with e
  subst e
  show g ≠ b
  omega
theorem Off.add {b : Nat} {A : Option Addr} {n m : Nat} (h : Off b A n) (k : Nat) (hm : m ≤ n) : Off b (Option.map (fun x => x.add k) A) m := fun ad hn e => by
  obtain ⟨a0, h0, rfl⟩ := Option.map_eq_some_iff.1 e
  have := h a0 (by omega) h0
  have hb : (a0.add k).block = a0.block := by unfold Addr.add; split <;> rfl
  rw [hb]; exact this
theorem Off.le {b : Nat} {A : Option Addr} {n m : Nat} (h : Off b A n) (hm : m ≤ n) : Off b A m := fun ad hn e => h ad (by omega) e
end Go.Proofs.YticdmglondpgaaaGreat

/-! ## GrowR: Rows of nodes that are read; the document's Same of like rows; the document's tree, walked. Conditions: those of the theorems' heads. -/
namespace Go.Proofs.YticdmglondpgaaaGreat
open Go.RowKit
set_option linter.unusedVariables false
set_option maxRecDepth 100000
set_option linter.unusedSimpArgs false

/-- A row of nodes that reads as N; it and what its nodes hold lie in none of the blocks P. -/
def RdN (w : World) (P : Nat → Prop) (v : Value) (N : List NodeV) : Prop :=
  ∃ A c, ∃ al : List NodeA, v = .slice A N.length c ∧ N.length ≤ c ∧ al.map NodeA.x = N ∧ RdC w A (al.flatMap nodeF) ∧ (0 < N.length → ∃ g, A = some ⟨g, 0, none⟩ ∧ ¬ P g ∧ g < w.heap.size) ∧
    ∀ a ∈ al, Lies w 0 .i64 a.A a.c a.x.ids P ∧ Lies w 0 .i32 a.B a.x.ns.length a.x.ns P
theorem RdN.only {w w1 : World} {P S : Nat → Prop} {v : Value} {N : List NodeV} (h : RdN w P v N) (ho : Only S w w1) (hs : ∀ b, S b → P b) : RdN w1 P v N := by
  obtain ⟨A, c, al, h1, h2, h3, h4, h5, h6⟩ := h
  refine ⟨A, c, al, h1, h2, h3, ?_, fun hl => ?_, fun a ha => ⟨(h6 a ha).1.step ho (fun b _ _ hb => hs b hb) (fun b hb => .inl hb), (h6 a ha).2.step ho (fun b _ _ hb => hs b hb) (fun b hb => .inl hb)⟩⟩
  · rcases Nat.eq_zero_or_pos N.length with h0 | h0
    · have : al = [] := by rw [← h3, List.length_map] at h0; exact List.length_eq_zero_iff.1 h0
      subst this
      intro j u hu; simp at hu
    · obtain ⟨g, rfl, hg, _⟩ := h5 h0
      exact h4.only ho fun hb => hg (hs g hb)
  · obtain ⟨g, e, hg, hlt⟩ := h5 hl
    exact ⟨g, e, hg, Nat.lt_of_lt_of_le hlt ho.size⟩
theorem RdN.below {w w1 : World} {P : Nat → Prop} {v : Value} {N : List NodeV} (h : RdN w P v N) (hb : Below w.heap.size w w1) : RdN w1 P v N := h.only (S := fun _ => False) (Only.of_below hb) fun _ h => h.elim
theorem OwnF.rdC {α : Type} {f : α → List Value} {q : Nat} {w : World} {base : Nat} {e : TypeId} {A : Option Addr} {n c : Nat} {xs : List α} (h : OwnF w base e q f (.slice A n c) xs) : RdC w A (xs.flatMap f) := by
  intro j u hu
  rcases h.2 with ⟨_, hn⟩ | ⟨g, cap, cur, h1, hb, hg, hc, hm, hs, ht⟩
  · have : xs = [] := List.length_eq_zero_iff.1 hn
    subst this
    simp at hu
  · injection h1 with h1
    subst h1
    refine ⟨_, rfl, ?_⟩
    have hj : j < xs.length * q := by
      rcases Nat.lt_or_ge j (xs.length * q) with hj | hj
      · exact hj
      · rw [List.getElem?_eq_none (by rw [h.1]; exact hj)] at hu; cases hu
    rw [add_plain, ← hu, ← ht]
    simp [World.cell?, hg, hj]
theorem RdN.of_own {w : World} {base : Nat} {v : Value} {N : List NodeV} {X P : Nat → Prop} (h : OwnN w base v N X) (hP : ∀ b, P b → b < base) : RdN w P v N := by
  obtain ⟨A, c, rfl, hc⟩ := h.shape
  obtain ⟨al, e, h1, h2⟩ := h
  have key : ∀ {k : IntKind} {A : Option Addr} {c : Nat} {xs : List Int}, Lies w base k A c xs X → Lies w 0 k A c xs P := fun h => ⟨h.1, h.2.1, fun ad h1 e => ⟨Nat.zero_le _, fun hp => by have := hP _ hp; have := (h.2.2 ad h1 e).1; omega⟩⟩
  have hl : al.length = N.length := by rw [← e, List.length_map]
  refine ⟨A, c, al, rfl, hc, e, h1.rdC, fun h0 => ?_, fun a ha => ⟨key (h2 a ha).1, Nat.le_refl _, (key (h2 a ha).2).2⟩⟩
  obtain ⟨g, a, ea, hb, hlt, _⟩ := OwnF.at_ nodeF_q h1 0 h0 (by omega)
  exact ⟨g, ea, fun hp => by have := hP _ hp; omega, hlt⟩
theorem RdN.at_ {w : World} {P : Nat → Prop} {A : Option Addr} {n c : Nat} {N : List NodeV} (h : RdN w P (.slice A n c) N) (j : Nat) {x : NodeV} (hx : N[j]? = some x) :
    ∃ g B1 c1 B2 c2, A = some ⟨g, 0, none⟩ ∧ g < w.heap.size ∧
      w.cell? ⟨g, j * 6, none⟩ = some (.bool x.leaf) ∧ w.cell? ⟨g, j * 6 + 1, none⟩ = some (.slice B1 x.ids.length c1) ∧ w.cell? ⟨g, j * 6 + 2, none⟩ = some (.slice B2 x.ns.length c2) ∧
      w.cell? ⟨g, j * 6 + 3, none⟩ = some (.int .i64 x.off) ∧ w.cell? ⟨g, j * 6 + 4, none⟩ = some (.int .i64 x.left) ∧ w.cell? ⟨g, j * 6 + 5, none⟩ = some (.int .i64 x.right) ∧
      Lies w 0 .i64 B1 c1 x.ids P ∧ Lies w 0 .i32 B2 x.ns.length x.ns P := by
  obtain ⟨A', c', al, e0, h2, h3, h4, h5, h6⟩ := h
  injection e0 with e1 e2 e3
  subst e1
  have hj : j < N.length := by
    rcases Nat.lt_or_ge j N.length with h | h
    · exact h
    · rw [List.getElem?_eq_none h] at hx; cases hx
  obtain ⟨g, rfl, _, hlt⟩ := h5 (by omega)
  have hal : ∃ a, al[j]? = some a ∧ a.x = x := by
    rw [← h3, List.getElem?_map] at hx
    cases ha : al[j]? with
    | none => rw [ha] at hx; simp at hx
    | some a => rw [ha] at hx; simp at hx; exact ⟨a, rfl, hx⟩
  obtain ⟨a, ha, rfl⟩ := hal
  have key : ∀ i u, i < 6 → (nodeF a)[i]? = some u → w.cell? ⟨g, j * 6 + i, none⟩ = some u := fun i u hi hu => by
    obtain ⟨ad, e, hc⟩ := h4 (j * 6 + i) u (by rw [cellsF_get nodeF_q al j i a ha hi]; exact hu)
    injection e with e
    subst e
    rwa [add_plain] at hc
  exact ⟨g, a.A, a.c, a.B, a.d, rfl, hlt, key 0 _ (by omega) rfl, key 1 _ (by omega) rfl, key 2 _ (by omega) rfl, key 3 _ (by omega) rfl, key 4 _ (by omega) rfl, key 5 _ (by omega) rfl, (h6 a (List.mem_of_getElem? ha)).1, (h6 a (List.mem_of_getElem? ha)).2⟩
theorem RdN.shape {w : World} {P : Nat → Prop} {v : Value} {N : List NodeV} (h : RdN w P v N) : ∃ A c, v = .slice A N.length c ∧ N.length ≤ c := by
  obtain ⟨A, c, al, h1, h2, _⟩ := h
  exact ⟨A, c, h1, h2⟩
set_option maxHeartbeats 3200000 in
theorem SameN_calls (u v : Value) (N : List NodeV) (P Q : Nat → Prop) (w : World) (hu : RdN w P u N) (hv : RdN w Q v N) (hl : N.length ≤ 1000000) :
    Calls Tryz.prog 24 #[u, v] w fun e w' => e = .returned (.bool true) ∧ Below w.heap.size w w' := by
  obtain ⟨A, c, rfl, hc⟩ := hu.shape
  obtain ⟨B, d, rfl, hd⟩ := hv.shape
  have HU := Lib.hid hu
  have HV := Lib.hid hv
  obtain ⟨n, hn⟩ : ∃ n, N.length = n := ⟨_, rfl⟩
  have HN := Lib.hid hn
  rw [hn] at hl hc hd ⊢
  clear hu hv hn
  go_enter Tryz.func24, Tryz.ntmps24
  go_wp2_with fail
  go_loopg [5] n (fun kq v5 w' => kq ≤ n ∧ v5 = .int .i64 ((n - kq : Nat)) ∧ Below w.heap.size w w')
  case atStart => exact ⟨Nat.le_refl _, by simp, Below.refl _ _⟩
  case round =>
    obtain ⟨hk, rfl, HB0⟩ := hrel
    rename World => wr
    have HB := Lib.hid HB0
    have hz := HB0.size
    clear HB0
    cases gk with
    | zero =>
      simp only [Nat.sub_zero]
      go_wp2_with fail
      go_ret
      exact ⟨rfl, HB.out⟩
    | succ k1 =>
      obtain ⟨i, hi⟩ : ∃ i, n - (k1 + 1) = i := ⟨_, rfl⟩
      have hi2 : n - k1 = i + 1 := by omega
      have HI := Lib.hid hi2
      have hlt : i < n := by omega
      rw [hi]
      clear hi hi2
      have hx : ∃ x, N[i]? = some x := ⟨N[i]'(by rw [HN.out]; exact hlt), List.getElem?_eq_getElem _⟩
      obtain ⟨x, hx⟩ := hx
      obtain ⟨g, B1, c1, B2, c2, rfl, hg, p0, p1, p2, p3, p4, p5, hl1, hl2⟩ := (HN.out ▸ HU.out.below HB.out : RdN wr P (.slice A n c) N).at_ i hx
      obtain ⟨g', D1, d1, D2, d2, rfl, hg', q0, q1, q2, q3, q4, q5, hm1, hm2⟩ := (HN.out ▸ HV.out.below HB.out : RdN wr Q (.slice B n d) N).at_ i hx
      obtain ⟨xl, hxl⟩ : ∃ y, x.leaf = y := ⟨_, rfl⟩
      obtain ⟨xa, hxa⟩ : ∃ y, x.left = y := ⟨_, rfl⟩
      obtain ⟨xb, hxb⟩ : ∃ y, x.right = y := ⟨_, rfl⟩
      obtain ⟨xo, hxo⟩ : ∃ y, x.off = y := ⟨_, rfl⟩
      obtain ⟨xi, hxi⟩ : ∃ y, x.ids.length = y := ⟨_, rfl⟩
      obtain ⟨xn, hxn⟩ : ∃ y, x.ns.length = y := ⟨_, rfl⟩
      rw [hxl] at p0 q0
      rw [hxi] at p1 q1
      rw [hxn] at p2 q2
      rw [hxo] at p3 q3
      rw [hxa] at p4 q4
      rw [hxb] at p5 q5
      have XI := Lib.hid hxi
      have XN := Lib.hid hxn
      have L1 := Lib.hid hl1.2.1
      have L2 := Lib.hid hl2.2.1
      have M1 := Lib.hid hm1.2.1
      have M2 := Lib.hid hm2.2.1
      clear hl1 hl2 hm1 hm2 hxl hxa hxb hxo hxi hxn
      have hpc := Lib.hid (show ∀ W, Rd W .i32 B2 x.ns → Rd W .i32 D2 x.ns → Calls Tryz.prog 59 #[.agg #[.slice B2 xn c2, .int .i64 xo], .agg #[.slice D2 xn d2, .int .i64 xo]] W fun e w' => e = .returned (.bool true) ∧ Below W.heap.size W w' from fun W h1 h2 => by
        have h := refpSame_calls B2 D2 c2 d2 x.ns x.ns xo xo W h1 h2
        rw [XN.out] at h
        simpa using h)
      have hic := Lib.hid (show ∀ W, Rd W .i64 B1 x.ids → Rd W .i64 D1 x.ids → Calls Tryz.prog 29 #[.slice B1 xi c1, .slice D1 xi d1] W fun e w' => e = .returned (.bool true) ∧ Below W.heap.size W w' from fun W h1 h2 => by
        have h := SameI_calls B1 D1 c1 d1 x.ids x.ids W h1 h2
        rw [XI.out] at h
        refine h.mono fun e w' ⟨he, q, hq⟩ => ⟨by simpa using he, ?_⟩
        rw [hq]; exact below_drewN_self _ _)
      have hbr : Below wr.heap.size wr wr := Below.refl _ _
      go_wp2_with fail
      (dsimp only [List.append])
      go_region_held3 (fun w' => w'.cell? ⟨g, i * 6, none⟩ = some (.bool xl) ∧ w'.cell? ⟨g, i * 6 + 1, none⟩ = some (.slice B1 xi c1) ∧ w'.cell? ⟨g, i * 6 + 2, none⟩ = some (.slice B2 xn c2) ∧ w'.cell? ⟨g, i * 6 + 3, none⟩ = some (.int .i64 xo) ∧ w'.cell? ⟨g, i * 6 + 4, none⟩ = some (.int .i64 xa) ∧ w'.cell? ⟨g, i * 6 + 5, none⟩ = some (.int .i64 xb) ∧ w'.cell? ⟨g', i * 6, none⟩ = some (.bool xl) ∧ w'.cell? ⟨g', i * 6 + 1, none⟩ = some (.slice D1 xi d1) ∧ w'.cell? ⟨g', i * 6 + 2, none⟩ = some (.slice D2 xn d2) ∧ w'.cell? ⟨g', i * 6 + 3, none⟩ = some (.int .i64 xo) ∧ w'.cell? ⟨g', i * 6 + 4, none⟩ = some (.int .i64 xa) ∧ w'.cell? ⟨g', i * 6 + 5, none⟩ = some (.int .i64 xb) ∧ Below wr.heap.size wr w')
        (first | exact ⟨cell_below (B := wr.heap.size) (w := wr) (by first | ((repeat (first | assumption | exact Below.refl _ _ | apply below_drew1 | apply below_alloc1)); done)) p0 hg, cell_below (B := wr.heap.size) (w := wr) (by first | ((repeat (first | assumption | exact Below.refl _ _ | apply below_drew1 | apply below_alloc1)); done)) p1 hg, cell_below (B := wr.heap.size) (w := wr) (by first | ((repeat (first | assumption | exact Below.refl _ _ | apply below_drew1 | apply below_alloc1)); done)) p2 hg, cell_below (B := wr.heap.size) (w := wr) (by first | ((repeat (first | assumption | exact Below.refl _ _ | apply below_drew1 | apply below_alloc1)); done)) p3 hg, cell_below (B := wr.heap.size) (w := wr) (by first | ((repeat (first | assumption | exact Below.refl _ _ | apply below_drew1 | apply below_alloc1)); done)) p4 hg, cell_below (B := wr.heap.size) (w := wr) (by first | ((repeat (first | assumption | exact Below.refl _ _ | apply below_drew1 | apply below_alloc1)); done)) p5 hg, cell_below (B := wr.heap.size) (w := wr) (by first | ((repeat (first | assumption | exact Below.refl _ _ | apply below_drew1 | apply below_alloc1)); done)) q0 hg', cell_below (B := wr.heap.size) (w := wr) (by first | ((repeat (first | assumption | exact Below.refl _ _ | apply below_drew1 | apply below_alloc1)); done)) q1 hg', cell_below (B := wr.heap.size) (w := wr) (by first | ((repeat (first | assumption | exact Below.refl _ _ | apply below_drew1 | apply below_alloc1)); done)) q2 hg', cell_below (B := wr.heap.size) (w := wr) (by first | ((repeat (first | assumption | exact Below.refl _ _ | apply below_drew1 | apply below_alloc1)); done)) q3 hg', cell_below (B := wr.heap.size) (w := wr) (by first | ((repeat (first | assumption | exact Below.refl _ _ | apply below_drew1 | apply below_alloc1)); done)) q4 hg', cell_below (B := wr.heap.size) (w := wr) (by first | ((repeat (first | assumption | exact Below.refl _ _ | apply below_drew1 | apply below_alloc1)); done)) q5 hg', (by first | ((repeat (first | assumption | exact Below.refl _ _ | apply below_drew1 | apply below_alloc1)); done))⟩ | go_keep)
        (first
          | (go_at_call 59; go_split_ands; (with_reducible refine Calls.mono (hpc.out _ ?_ ?_) ?_); (exact L2.out.below (by first | ((repeat (first | assumption | exact Below.refl _ _ | apply below_drew1 | apply below_alloc1)); done))); (exact M2.out.below (by first | ((repeat (first | assumption | exact Below.refl _ _ | apply below_drew1 | apply below_alloc1)); done))); rintro e wq ⟨he, hbq⟩; subst he; have hB2 : Below wr.heap.size wr wq := Below.after (by first | ((repeat (first | assumption | exact Below.refl _ _ | apply below_drew1 | apply below_alloc1)); done)) hbq)
          | (go_at_call 29; go_split_ands; (with_reducible refine Calls.mono (hic.out _ ?_ ?_) ?_); (exact L1.out.below (by first | ((repeat (first | assumption | exact Below.refl _ _ | apply below_drew1 | apply below_alloc1)); done))); (exact M1.out.below (by first | ((repeat (first | assumption | exact Below.refl _ _ | apply below_drew1 | apply below_alloc1)); done))); rintro e wq ⟨he, hbq⟩; subst he; have hB2 : Below wr.heap.size wr wq := Below.after (by first | ((repeat (first | assumption | exact Below.refl _ _ | apply below_drew1 | apply below_alloc1)); done)) hbq))
      have hbz : Below wr.heap.size wr wq := by assumption
      have HB3 := Lib.hid (HB.out.trans (hbz.mono hz))
      clear hbz
      go_wp2_with fail
      go_roundg k1
      case measure => omega
      case rel =>
        rw [HI.out]
        exact ⟨by omega, rfl, HB3.out⟩
end Go.Proofs.YticdmglondpgaaaGreat

/-! ## Tr: Trees as trees, plain: how they lie as lists of nodes; the tree that is grown lies as the list by definition; what trees that are grown are like. No program in sight. -/
namespace Go.Proofs.YticdmglondpgaaaGreat
open Go.RowKit
set_option linter.unusedVariables false
set_option maxRecDepth 100000

inductive Tr where
  | leaf (ids : List Int)
  | split (ns : List Int) (off : Int) (l r : Tr)
namespace Tr
def size : Tr → Nat
  | leaf _ => 1
  | split _ _ l r => l.size + r.size + 1
def depth : Tr → Nat
  | leaf _ => 0
  | split _ _ l r => max l.depth r.depth + 1
def leaves : Tr → List (List Int)
  | leaf ids => [ids]
  | split _ _ l r => l.leaves ++ r.leaves
def ids (t : Tr) : List Int := t.leaves.flatten
def lay : Tr → Nat → List NodeV
  | leaf ids, _ => [leafN ids]
  | split ns off l r, a => ⟨false, [], ns, off, ((a + 1 : Nat) : Int), ((a + 1 + l.size : Nat) : Int)⟩ :: (l.lay (a + 1) ++ r.lay (a + 1 + l.size))
/-- Each plane may be, of a dimension. -/
def Ok (dim : Nat) : Tr → Prop
  | leaf _ => True
  | split ns off l r => checkP ns off dim = 0 ∧ l.Ok dim ∧ r.Ok dim
theorem size_pos (t : Tr) : 1 ≤ t.size := by cases t <;> simp [size]
theorem lay_length : ∀ (t : Tr) (a : Nat), (t.lay a).length = t.size
  | leaf _, _ => rfl
  | split _ _ l r, a => by simp [lay, size, lay_length l, lay_length r]
theorem leaves_pos (t : Tr) : 1 ≤ t.leaves.length := by induction t <;> simp [leaves]; omega
theorem size_leaves (t : Tr) : t.size + 1 = 2 * t.leaves.length := by
  induction t with
  | leaf _ => rfl
  | split _ _ l r hl hr => simp only [size, leaves, List.length_append]; omega
theorem lay_leaf_count : ∀ (t : Tr) (a : Nat), ((t.lay a).filter NodeV.leaf).length = t.leaves.length
  | leaf _, _ => rfl
  | split _ _ l r, a => by
    have h1 := lay_leaf_count l (a + 1)
    have h2 := lay_leaf_count r (a + 1 + l.size)
    simp only [lay, leaves, List.length_append, List.filter_cons, List.filter_append]
    simp only [Bool.false_eq_true, if_false, List.length_append]
    omega
theorem lay_leaves : ∀ (t : Tr) (a : Nat), ((t.lay a).filter NodeV.leaf).map NodeV.ids = t.leaves
  | leaf _, _ => rfl
  | split _ _ l r, a => by
    simp [lay, leaves, lay_leaves l, lay_leaves r]
end Tr
def growT (rows : List (List Int)) (dim leaf : Nat) (s : Nat → Int) : Nat → List Int → Nat → Tr × Nat
  | 0, ids, k => (.leaf ids, k)
  | f + 1, ids, k => if ids.length ≤ leaf then (.leaf ids, k) else
    (.split (choose rows dim ids s k).ns (choose rows dim ids s k).off (growT rows dim leaf s f (choose rows dim ids s k).left (k + 2 * (choose rows dim ids s k).tries)).1
      (growT rows dim leaf s f (choose rows dim ids s k).right (growT rows dim leaf s f (choose rows dim ids s k).left (k + 2 * (choose rows dim ids s k).tries)).2).1,
     (growT rows dim leaf s f (choose rows dim ids s k).right (growT rows dim leaf s f (choose rows dim ids s k).left (k + 2 * (choose rows dim ids s k).tries)).2).2)
theorem growT_leaf {rows : List (List Int)} {dim leaf : Nat} {s : Nat → Int} {f : Nat} {ids : List Int} (k : Nat) (h : ids.length ≤ leaf ∨ f = 0) : growT rows dim leaf s f ids k = (.leaf ids, k) := by
  cases f with
  | zero => rfl
  | succ f =>
    unfold growT
    rw [if_pos (by omega)]
theorem growT_split {rows : List (List Int)} {dim leaf : Nat} {s : Nat → Int} {f : Nat} {ids : List Int} (k : Nat) (h : leaf < ids.length) {C : SplitV} (hC : choose rows dim ids s k = C) {L R : Tr × Nat}
    (hL : growT rows dim leaf s f C.left (k + 2 * C.tries) = L) (hR : growT rows dim leaf s f C.right L.2 = R) :
    growT rows dim leaf s (f + 1) ids k = (.split C.ns C.off L.1 R.1, R.2) := by
  subst hC; subst hL; subst hR
  rw [growT]
  rw [if_neg (by omega)]
/-- An induction over what is grown. -/
theorem growT_ind {rows : List (List Int)} {dim leaf : Nat} {s : Nat → Int} {P : Nat → List Int → Nat → Tr × Nat → Prop}
    (h0 : ∀ f ids k, ids.length ≤ leaf ∨ f = 0 → P f ids k (.leaf ids, k))
    (h1 : ∀ f ids k (C : SplitV) (L R : Tr × Nat), leaf < ids.length → choose rows dim ids s k = C → growT rows dim leaf s f C.left (k + 2 * C.tries) = L → growT rows dim leaf s f C.right L.2 = R →
      P f C.left (k + 2 * C.tries) L → P f C.right L.2 R → P (f + 1) ids k (.split C.ns C.off L.1 R.1, R.2)) :
    ∀ (f : Nat) (ids : List Int) (k : Nat), P f ids k (growT rows dim leaf s f ids k) := fun f => by
  induction f with
  | zero => intro ids k; exact h0 0 ids k (.inr rfl)
  | succ f ih =>
    intro ids k
    rcases Nat.lt_or_ge leaf ids.length with hh | hh
    · rw [growT_split k hh rfl rfl rfl]
      exact h1 f ids k _ _ _ hh rfl rfl rfl (ih _ _) (ih _ _)
    · rw [growT_leaf k (.inl hh)]
      exact h0 (f + 1) ids k (.inl hh)
theorem growF_lay (rows : List (List Int)) (dim leaf : Nat) (s : Nat → Int) : ∀ (f : Nat) (ids : List Int) (k a : Nat), growF rows dim leaf s f ids a k = ((growT rows dim leaf s f ids k).1.lay a, (growT rows dim leaf s f ids k).2) :=
  growT_ind (P := fun f ids k T => ∀ a, growF rows dim leaf s f ids a k = (T.1.lay a, T.2)) (fun f ids k h a => growF_leaf a k h) fun f ids k C L R h hC hL hR iL iR a => by
    have e1 := iL (a + 1)
    have e2 := iR (a + 1 + L.1.size)
    have hsz : (L.1.lay (a + 1)).length = L.1.size := Tr.lay_length _ _
    rw [growF_split a k h hC e1 (R := (R.1.lay (a + 1 + L.1.size), R.2)) (by rw [hsz]; exact e2)]
    simp only [hsz]
    rfl
theorem growT_depth (rows : List (List Int)) (dim leaf : Nat) (s : Nat → Int) (f : Nat) (ids : List Int) (k : Nat) : (growT rows dim leaf s f ids k).1.depth ≤ f :=
  growT_ind (P := fun f ids k T => T.1.depth ≤ f) (fun f ids k h => Nat.zero_le _) (fun f ids k C L R h hC hL hR iL iR => by simp only [Tr.depth]; omega) f ids k
theorem growT_ids (rows : List (List Int)) (dim leaf : Nat) (s : Nat → Int) (f : Nat) (ids : List Int) (k : Nat) : (growT rows dim leaf s f ids k).1.ids.Perm ids :=
  growT_ind (P := fun f ids k T => T.1.ids.Perm ids) (fun f ids k h => by simp [Tr.ids, Tr.leaves]) (fun f ids k C L R h hC hL hR iL iR => by
    have h1 := choose_perm rows dim ids s k
    rw [hC] at h1
    simp only [Tr.ids, Tr.leaves, List.flatten_append]
    exact (iL.append iR).trans h1) f ids k
/-- No leaf of the tree is empty, if there is an id; as many leaves as ids, at most. -/
theorem growT_leaves (rows : List (List Int)) (dim : Nat) {leaf : Nat} (s : Nat → Int) (hl : 1 ≤ leaf) (f : Nat) (ids : List Int) (k : Nat) : 1 ≤ ids.length → (∀ x ∈ (growT rows dim leaf s f ids k).1.leaves, 1 ≤ x.length) ∧ (growT rows dim leaf s f ids k).1.leaves.length ≤ ids.length :=
  growT_ind (P := fun f ids k T => 1 ≤ ids.length → (∀ x ∈ T.1.leaves, 1 ≤ x.length) ∧ T.1.leaves.length ≤ ids.length) (fun f ids k h h1 => ⟨fun x hx => by simp [Tr.leaves] at hx; subst hx; exact h1, by simp [Tr.leaves]; omega⟩) (fun f ids k C L R h hC hL hR iL iR h1 => by
    have h2 := choose_parts rows dim ids s k (by omega)
    have h3 := choose_len rows dim ids s k
    rw [hC] at h2 h3
    obtain ⟨a1, a2⟩ := iL (by omega)
    obtain ⟨b1, b2⟩ := iR (by omega)
    refine ⟨fun x hx => ?_, ?_⟩
    · rcases List.mem_append.1 hx with hx | hx
      · exact a1 x hx
      · exact b1 x hx
    · simp only [Tr.leaves, List.length_append]; omega) f ids k
theorem checkP_flat {dim : Nat} (h1 : 1 ≤ dim) (h2 : dim ≤ 1024) : checkP (List.replicate dim 0) 0 dim = 0 :=
  checkP_ok (by omega) (by omega) (by simp) (fun x hx => by have := (List.mem_replicate.1 hx).2; omega) (by omega)
theorem itemZ_b20 {rows : List (List Int)} {dim : Nat} (hr : ∀ r ∈ rows, B20 r ∧ r.length = dim) {id : Int} (h : 0 ≤ id ∧ id < rows.length) : B20 (itemZ rows id) ∧ (itemZ rows id).length = dim := by
  have hm : itemZ rows id ∈ rows := by
    unfold itemZ
    have : id.toNat < rows.length := by omega
    rw [if_pos h]
    simp [List.getD, this]
  exact hr _ hm
theorem choose_planes {rows : List (List Int)} {dim : Nat} (h1 : 1 ≤ dim) (h2 : dim ≤ 1024) (hr : ∀ r ∈ rows, B20 r ∧ r.length = dim) {ids : List Int} (hid : ∀ id ∈ ids, 0 ≤ id ∧ id < rows.length) (s : Nat → Int) (k : Nat) : checkP (choose rows dim ids s k).ns (choose rows dim ids s k).off dim = 0 := by
  rcases choose_cases rows dim ids s k with ⟨t, _, _, h⟩ | ⟨hl, j, t, _, h, _⟩
  · rw [h]; exact checkP_flat h1 h2
  · rw [h]
    obtain ⟨x, hx, hxl⟩ := pX_bd s j ids.length hl
    obtain ⟨y, hy, hyl⟩ := pY_bd s j ids.length hl
    have mem : ∀ i, i < ids.length → ids.getD i 0 ∈ ids := fun i hi => by simp [List.getD, hi]
    obtain ⟨a1, a2⟩ := itemZ_b20 hr (hid _ (mem x hxl))
    obtain ⟨b1, b2⟩ := itemZ_b20 hr (hid _ (mem y hyl))
    have ea : itemA rows ids s j = itemZ rows (ids.getD x 0) := by unfold itemA; rw [hx]; rfl
    have eb : itemB rows ids s j = itemZ rows (ids.getD y 0) := by unfold itemB; rw [hy]; rfl
    simp only [tryV, ea, eb]
    obtain ⟨_, o1, o2⟩ := btw_off a1 b1 (by omega)
    exact checkP_ok (by omega) (by omega) (by rw [less_length, a2, b2]; simp) (less_b21 a1 b1) (by omega)
theorem growT_ok {rows : List (List Int)} {dim : Nat} (h1 : 1 ≤ dim) (h2 : dim ≤ 1024) (hr : ∀ r ∈ rows, B20 r ∧ r.length = dim) (leaf : Nat) (s : Nat → Int) (f : Nat) (ids : List Int) (k : Nat) : (∀ id ∈ ids, 0 ≤ id ∧ id < rows.length) → (growT rows dim leaf s f ids k).1.Ok dim :=
  growT_ind (P := fun f ids k T => (∀ id ∈ ids, 0 ≤ id ∧ id < rows.length) → T.1.Ok dim) (fun f ids k h _ => trivial) (fun f ids k C L R h hC hL hR iL iR hid => by
    have hp := choose_perm rows dim ids s k
    have hc := choose_planes h1 h2 hr hid s k
    rw [hC] at hp hc
    exact ⟨hc, iL fun id h => hid id (hp.subset (by simp [h])), iR fun id h => hid id (hp.subset (by simp [h]))⟩) f ids k
end Go.Proofs.YticdmglondpgaaaGreat

/-! ## TrS: Trees that stand one behind the other, as a walk over a list of nodes meets them: what is left to come, where right children stand, and how deep. No program in sight. -/
namespace Go.Proofs.YticdmglondpgaaaGreat
open Go.RowKit
set_option linter.unusedVariables false
set_option maxRecDepth 100000

/-- What is to come: trees, each with its depth. -/
def layS : Nat → List (Tr × Nat) → List NodeV
  | _, [] => []
  | a, (t, d) :: r => t.lay a ++ layS (a + t.size) r
/-- Where each of them stands, and how deep. -/
def posS : Nat → List (Tr × Nat) → List (Int × Int)
  | _, [] => []
  | a, (t, d) :: r => ((a : Int), (d : Int)) :: posS (a + t.size) r
def deepS (D : Nat) (st : List (Tr × Nat)) : Prop := ∀ x ∈ st, x.2 + x.1.depth ≤ D
/-- How deep each node is. -/
def Tr.depths : Tr → Nat → List Nat
  | .leaf _, d => [d]
  | .split _ _ l r, d => d :: (l.depths (d + 1) ++ r.depths (d + 1))
def depthsS (st : List (Tr × Nat)) : List Nat := st.flatMap fun x => x.1.depths x.2
def leavesS (st : List (Tr × Nat)) : List (List Int) := st.flatMap fun x => x.1.leaves
theorem layS_nil (a : Nat) : layS a [] = [] := rfl
theorem layS_leaf (a d : Nat) (ids : List Int) (r : List (Tr × Nat)) : layS a ((.leaf ids, d) :: r) = leafN ids :: layS (a + 1) r := rfl
theorem layS_split (a d : Nat) (ns : List Int) (off : Int) (l q : Tr) (r : List (Tr × Nat)) :
    layS a ((.split ns off l q, d) :: r) = ⟨false, [], ns, off, ((a + 1 : Nat) : Int), ((a + 1 + l.size : Nat) : Int)⟩ :: layS (a + 1) ((l, d + 1) :: (q, d + 1) :: r) := by
  simp only [layS, Tr.lay, Tr.size, List.cons_append, List.append_assoc]
  rw [show a + (l.size + q.size + 1) = a + 1 + l.size + q.size by omega]
theorem posS_split (a d : Nat) (ns : List Int) (off : Int) (l q : Tr) (r : List (Tr × Nat)) :
    (posS (a + 1) ((l, d + 1) :: (q, d + 1) :: r)).tail = (((a + 1 + l.size : Nat) : Int), ((d + 1 : Nat) : Int)) :: posS (a + (Tr.split ns off l q).size) r := by
  simp only [posS, Tr.size, List.tail_cons]
  rw [show a + (l.size + q.size + 1) = a + 1 + l.size + q.size by omega]
theorem layS_length (a : Nat) : ∀ st : List (Tr × Nat), (layS a st).length = (st.map fun x => x.1.size).sum := fun st => by
  induction st generalizing a with
  | nil => rfl
  | cons x r ih => obtain ⟨t, d⟩ := x; simp [layS, Tr.lay_length, ih]
theorem deepS.one {t : Tr} {D : Nat} (h : t.depth ≤ D) : deepS D [(t, 0)] := fun x hx => by
  rw [List.mem_singleton] at hx; subst hx; simpa using h
theorem deepS.split {D d : Nat} {ns : List Int} {off : Int} {l q : Tr} {r : List (Tr × Nat)} (h : deepS D ((.split ns off l q, d) :: r)) : deepS D ((l, d + 1) :: (q, d + 1) :: r) := fun x hx => by
  have h0 := h (.split ns off l q, d) (List.mem_cons_self)
  simp only [Tr.depth] at h0
  rcases List.mem_cons.1 hx with rfl | hx
  · simp only; omega
  · rcases List.mem_cons.1 hx with rfl | hx
    · simp only; omega
    · exact h x (List.mem_cons_of_mem _ hx)
theorem deepS.tail {D : Nat} {x : Tr × Nat} {r : List (Tr × Nat)} (h : deepS D (x :: r)) : deepS D r := fun y hy => h y (List.mem_cons_of_mem _ hy)
theorem depthsS_split (d : Nat) (ns : List Int) (off : Int) (l q : Tr) (r : List (Tr × Nat)) : depthsS ((.split ns off l q, d) :: r) = d :: depthsS ((l, d + 1) :: (q, d + 1) :: r) := by
  simp [depthsS, Tr.depths]
theorem depthsS_leaf (d : Nat) (ids : List Int) (r : List (Tr × Nat)) : depthsS ((.leaf ids, d) :: r) = d :: depthsS r := by simp [depthsS, Tr.depths]
theorem leavesS_split (d : Nat) (ns : List Int) (off : Int) (l q : Tr) (r : List (Tr × Nat)) : leavesS ((.split ns off l q, d) :: r) = leavesS ((l, d + 1) :: (q, d + 1) :: r) := by
  simp [leavesS, Tr.leaves]
theorem leavesS_leaf (d : Nat) (ids : List Int) (r : List (Tr × Nat)) : leavesS ((.leaf ids, d) :: r) = ids :: leavesS r := by simp [leavesS, Tr.leaves]
theorem Tr.depths_length : ∀ (t : Tr) (d : Nat), (t.depths d).length = t.size
  | .leaf _, _ => rfl
  | .split _ _ l r, d => by simp [Tr.depths, Tr.size, Tr.depths_length l, Tr.depths_length r]
theorem foldl_max (l : List Nat) : ∀ m : Nat, m ≤ l.foldl max m ∧ (∀ x ∈ l, x ≤ l.foldl max m) ∧ (l.foldl max m = m ∨ l.foldl max m ∈ l) := by
  induction l with
  | nil => intro m; simp
  | cons y l ih =>
    intro m
    obtain ⟨h1, h2, h3⟩ := ih (max m y)
    rw [List.foldl_cons]
    refine ⟨by omega, fun x hx => ?_, ?_⟩
    · rcases List.mem_cons.1 hx with rfl | hx
      · omega
      · exact h2 x hx
    · rcases h3 with h3 | h3
      · rcases Nat.le_total m y with h | h
        · right; rw [h3, Nat.max_eq_right h]; exact List.mem_cons_self
        · left; rw [h3, Nat.max_eq_left h]
      · right; exact List.mem_cons_of_mem _ h3
theorem Tr.depths_le : ∀ (t : Tr) (d x : Nat), x ∈ t.depths d → x ≤ d + t.depth
  | .leaf _, d, x, h => by simp [Tr.depths] at h; simp [Tr.depth]; omega
  | .split _ _ l r, d, x, h => by
    simp only [Tr.depths, List.mem_cons, List.mem_append] at h
    simp only [Tr.depth]
    rcases h with h | h | h
    · omega
    · have := l.depths_le _ _ h; omega
    · have := r.depths_le _ _ h; omega
theorem Tr.depths_mem : ∀ (t : Tr) (d : Nat), d + t.depth ∈ t.depths d
  | .leaf _, d => by simp [Tr.depths, Tr.depth]
  | .split _ _ l r, d => by
    simp only [Tr.depths, List.mem_cons, List.mem_append, Tr.depth]
    have h1 := l.depths_mem (d + 1)
    have h2 := r.depths_mem (d + 1)
    rcases Nat.le_total l.depth r.depth with h | h
    · right; right; rw [Nat.max_eq_right h, show d + (r.depth + 1) = d + 1 + r.depth by omega]; exact h2
    · right; left; rw [Nat.max_eq_left h, show d + (l.depth + 1) = d + 1 + l.depth by omega]; exact h1
theorem Tr.depth_max (t : Tr) : (t.depths 0).foldl max 0 = t.depth := by
  obtain ⟨_, h2, h3⟩ := foldl_max (t.depths 0) 0
  have h4 := h2 _ (t.depths_mem 0)
  rw [Nat.zero_add] at h4
  rcases h3 with h3 | h3
  · omega
  · have := t.depths_le 0 _ h3; omega
end Go.Proofs.YticdmglondpgaaaGreat

/-! ## Shape1: Package shape, of lists of nodes that are trees: bare, whole. Conditions: the nodes read as a tree laid from place 0; its planes may be; it is no deeper than 64. -/
namespace Go.Proofs.YticdmglondpgaaaGreat
open Go.RowKit
set_option linter.unusedVariables false
set_option maxRecDepth 100000
set_option linter.unusedSimpArgs false

attribute [local go_sem] Oper.semAt_some

def NOk (dim : Nat) (x : NodeV) : Prop := (x.leaf = true → x.ns = [] ∧ x.off = 0 ∧ x.left = 0 ∧ x.right = 0) ∧ (x.leaf = false → x.ids = [] ∧ checkP x.ns x.off dim = 0)
theorem Tr.lay_ok {dim : Nat} : ∀ (t : Tr) (a : Nat), t.Ok dim → ∀ x ∈ t.lay a, NOk dim x
  | .leaf ids, a, _, x, hx => by
    simp only [Tr.lay, List.mem_singleton] at hx
    subst hx
    exact ⟨fun _ => ⟨rfl, rfl, rfl, rfl⟩, (fun h => by cases h)⟩
  | .split ns off l r, a, h, x, hx => by
    simp only [Tr.lay, List.mem_cons, List.mem_append] at hx
    rcases hx with rfl | hx | hx
    · exact ⟨(fun h => by cases h), fun _ => ⟨rfl, h.1⟩⟩
    · exact l.lay_ok _ h.2.1 x hx
    · exact r.lay_ok _ h.2.2 x hx
def nodeW (x : NodeV) (B1 : Option Addr) (c1 : Nat) (B2 : Option Addr) (c2 : Nat) : Value := .agg #[.bool x.leaf, .slice B1 x.ids.length c1, .slice B2 x.ns.length c2, .int .i64 x.off, .int .i64 x.left, .int .i64 x.right]
set_option maxHeartbeats 1600000 in
theorem Bare_calls (x : NodeV) (B1 : Option Addr) (c1 : Nat) (B2 : Option Addr) (c2 dim : Nat) (w : World) (h2 : Rd w .i32 B2 x.ns) (hx : NOk dim x) :
    Calls Tryz.prog 190 #[nodeW x B1 c1 B2 c2, .int .i64 dim] w fun e w' => e = .returned (.bool true) ∧ Below w.heap.size w w' := by
  obtain ⟨leaf, ids, ns, off, left, right⟩ := x
  unfold nodeW
  cases leaf with
  | true =>
    obtain ⟨e1, e2, e3, e4⟩ := hx.1 rfl
    dsimp only at e1 e2 e3 e4 h2 ⊢
    subst e1 e2 e3 e4
    have hs := fun W (h : Rd W .i32 B2 []) => pSame_calls B2 none c2 0 [] [] 0 0 W h (Rd.nil _ _ _)
    simp only [List.length_nil] at hs ⊢
    go_enter Tryz.func190, Tryz.ntmps190
    go_wp2_with fail
    obtain ⟨W1, hW⟩ : ∃ W, w.alloc (.cells #[.bool true, .slice B1 ids.length c1, .slice B2 0 c2, .int .i64 0, .int .i64 0, .int .i64 0] 113) = W := ⟨_, rfl⟩
    have hb : Below w.heap.size w W1 := by rw [← hW]; exact below_alloc1 (Below.refl _ _) _
    have hx : W1.heap[w.heap.size]? = some (.cells #[.bool true, .slice B1 ids.length c1, .slice B2 0 c2, .int .i64 0, .int .i64 0, .int .i64 0] 113 (0, 0)) := by rw [← hW]; exact heap_alloc_new _ _
    rw [hW]
    clear hW
    refine (hs _ (Rd.nil _ _ _)).mono ?_
    rintro e w2 ⟨he, hd⟩
    have he' : e = .returned (.bool true) := by rw [he]; rfl
    clear he
    subst he'
    have hx2 := obj_below hd hx (obj_lt hx)
    have c4 : w2.cell? ⟨w.heap.size, 4, none⟩ = some (.int .i64 0) := by simp [World.cell?, hx2]
    have c5 : w2.cell? ⟨w.heap.size, 5, none⟩ = some (.int .i64 0) := by simp [World.cell?, hx2]
    have HB := Lib.hid (hb.trans (hd.mono hb.size))
    clear hx2 hs hb hd hx
    go_wp2_with fail
    go_ret
    exact ⟨rfl, HB.out⟩
  | false =>
    obtain ⟨e1, e2⟩ := hx.2 rfl
    dsimp only at e1 e2 h2 ⊢
    subst e1
    have hc := fun W (h : Rd W .i32 B2 ns) => pCheck_calls B2 c2 ns off dim W h
    rw [e2] at hc
    have HC := Lib.hid hc
    have H2 := Lib.hid h2
    clear hc h2 e2 hx
    simp only [List.length_nil]
    go_enter Tryz.func190, Tryz.ntmps190
    go_wp2_with fail
    refine (HC.out _ (H2.out.below (below_alloc1 (Below.refl _ _) _))).mono ?_
    rintro e w2 ⟨he, hd⟩
    subst he
    have HB := Lib.hid (Below.after (below_alloc1 (Below.refl _ _) _) hd)
    clear hd
    go_wp2_with fail
    go_ret
    exact ⟨rfl, HB.out⟩
/-- The closure that Check hands on: whether a node isn't just what it is. -/
theorem OddN_calls (x : NodeV) (B1 : Option Addr) (c1 : Nat) (B2 : Option Addr) (c2 dim b : Nat) (w : World) (h2 : Rd w .i32 B2 x.ns) (hx : NOk dim x) (hb : w.heap[b]? = some (.cells #[.int .i64 dim] 3 (0, 0))) :
    Calls Tryz.prog 189 #[nodeW x B1 c1 B2 c2, .pointer (some ⟨b, 0, none⟩)] w fun e w' => e = .returned (.bool false) ∧ Below w.heap.size w w' := by
  have hc := fun W (h : Rd W .i32 B2 x.ns) => Bare_calls x B1 c1 B2 c2 dim W h hx
  have HC := Lib.hid hc
  have H2 := Lib.hid h2
  have hcb : ∀ o, (w.alloc o).cell? ⟨b, 0, none⟩ = some (.int .i64 dim) := fun o => by
    have h := obj_below (below_alloc1 (Below.refl _ _) o) hb (obj_lt hb)
    simp [World.cell?, h]
  unfold nodeW at *
  clear hc h2 hx hb
  go_enter Tryz.func189, Tryz.ntmps189
  go_wp2_with fail
  refine (HC.out _ (H2.out.below (below_alloc1 (Below.refl _ _) _))).mono ?_
  rintro e w2 ⟨he, hd⟩
  subst he
  have HB := Lib.hid (Below.after (below_alloc1 (Below.refl _ _) _) hd)
  clear hd
  go_wp2_with fail
  go_ret
  exact ⟨rfl, HB.out⟩
set_option maxHeartbeats 1600000 in
theorem IndexN_calls (A : Option Addr) (c : Nat) (N : List NodeV) (P : Nat → Prop) (dim b : Nat) (w : World) (hN : RdN w P (.slice A N.length c) N) (hl : N.length ≤ 1000000) (hx : ∀ x ∈ N, NOk dim x) (hb : w.heap[b]? = some (.cells #[.int .i64 dim] 3 (0, 0))) :
    Calls Tryz.prog 228 #[.slice A N.length c, .func (.func 189) #[] #[.pointer (some ⟨b, 0, none⟩)]] w fun e w' => e = .returned (.int .i64 (-1)) ∧ Below w.heap.size w w' := by
  have HN := Lib.hid hN
  have HX := Lib.hid hx
  have HBx := Lib.hid hb
  obtain ⟨n, hn⟩ : ∃ n, N.length = n := ⟨_, rfl⟩
  have EN := Lib.hid hn
  rw [hn] at hl ⊢
  clear hN hx hb hn
  go_enter Tryz.func228, Tryz.ntmps228
  go_wp2_with fail
  go_loopg [8] n (fun kq v8 w' => kq ≤ n ∧ v8 = .int .i64 ((n - kq : Nat) : Int) ∧ Below w.heap.size w w')
  case atStart => exact ⟨Nat.le_refl _, by simp, Below.refl _ _⟩
  case round =>
    obtain ⟨hk, rfl, hB⟩ := hrel
    have HB := Lib.hid hB
    clear hB
    cases gk with
    | zero =>
      simp only [Nat.sub_zero]
      go_wp2_with fail
      go_ret
      exact ⟨rfl, HB.out⟩
    | succ k1 =>
      obtain ⟨i, hi⟩ : ∃ i, n - (k1 + 1) = i := ⟨_, rfl⟩
      have hi2 : n - k1 = i + 1 := by omega
      have HI := Lib.hid hi2
      have hlt : i < n := by omega
      have hltI : (i : Int) < (n : Int) := by omega
      rw [hi]
      clear hi hi2
      obtain ⟨x, hx⟩ : ∃ x, N[i]? = some x := ⟨N[i]'(by rw [EN.out]; exact hlt), List.getElem?_eq_getElem _⟩
      obtain ⟨g, B1, c1, B2, c2, rfl, hg, q0, q1, q2, q3, q4, q5, l1, l2⟩ := (HN.out.below HB.out).at_ i hx
      have hodd := OddN_calls x B1 c1 B2 c2 dim b wr l2.2.1 (HX.out x (List.mem_of_getElem? hx)) (obj_below HB.out HBx.out (obj_lt HBx.out))
      unfold nodeW at hodd
      have HO := Lib.hid hodd
      obtain ⟨leaf, ids, ns, off, left, right⟩ := x
      dsimp only at q0 q1 q2 q3 q4 q5 HO
      obtain ⟨m1, hm1⟩ : ∃ m, ids.length = m := ⟨_, rfl⟩
      obtain ⟨m2, hm2⟩ : ∃ m, ns.length = m := ⟨_, rfl⟩
      rw [hm1] at q1 HO
      rw [hm2] at q2 HO
      clear hodd l1 l2 hx hm1 hm2
      go_wp2_with fail
      refine HO.out.mono ?_
      rintro e w2 ⟨he, hd⟩
      subst he
      have HB2 := Lib.hid (HB.out.trans (hd.mono HB.out.size))
      clear hd q0 q1 q2 q3 q4 q5
      go_wp2_with fail
      go_roundg k1
      case measure => omega
      case rel => exact ⟨by omega, by rw [HI.out]; rfl, HB2.out⟩
theorem ContainsN_calls (A : Option Addr) (c : Nat) (N : List NodeV) (P : Nat → Prop) (dim b : Nat) (w : World) (hN : RdN w P (.slice A N.length c) N) (hl : N.length ≤ 1000000) (hx : ∀ x ∈ N, NOk dim x) (hb : w.heap[b]? = some (.cells #[.int .i64 dim] 3 (0, 0))) :
    Calls Tryz.prog 191 #[.slice A N.length c, .func (.func 189) #[] #[.pointer (some ⟨b, 0, none⟩)]] w fun e w' => e = .returned (.bool false) ∧ Below w.heap.size w w' := by
  have HI := Lib.hid (IndexN_calls A c N P dim b w hN hl hx hb)
  clear hN hx hb
  go_enter Tryz.func191, Tryz.ntmps191
  go_wp2_with fail
  refine HI.out.mono ?_
  rintro e w2 ⟨he, hd⟩
  subst he
  have HB := Lib.hid hd
  clear hd
  go_wp2_with fail
  go_ret
  exact ⟨rfl, HB.out⟩
end Go.Proofs.YticdmglondpgaaaGreat

/-! ## Shape2: Package shape: whole, of a list of nodes that is a tree laid from place 0. Condition: it is no deeper than 64. -/
namespace Go.Proofs.YticdmglondpgaaaGreat
open Go.RowKit
set_option linter.unusedVariables false
set_option maxRecDepth 100000
set_option linter.unusedSimpArgs false

attribute [local go_sem] Oper.semAt_some

/-! ### what the walk over the nodes knows -/
structure WState (N : List NodeV) (i : Nat) (st : List (Tr × Nat)) (fl : Bool) (dp : Int) (R : List (Int × Int)) : Prop where
  lay : N.drop i = layS i st
  deep : deepS 64 st
  zero : i = 0 → fl = false
  prev : ∀ x, 0 < i → N[i - 1]? = some x → x.leaf = fl
  yes : fl = true → R.reverse = posS i st
  no : fl = false → ∃ t d r, st = (t, d) :: r ∧ dp = (d : Int) ∧ R.reverse = posS (i + t.size) r
theorem WState.start {t : Tr} (h : t.depth ≤ 64) : WState (t.lay 0) 0 [(t, 0)] false 0 [] :=
  ⟨by simp [layS], deepS.one h, fun _ => rfl, fun _ h => by omega, (fun h => by cases h), fun _ => ⟨t, 0, [], rfl, rfl, rfl⟩⟩
theorem layS_pos {i : Nat} {st : List (Tr × Nat)} (h : layS i st = []) : st = [] := by
  cases st with
  | nil => rfl
  | cons x r =>
    obtain ⟨t, d⟩ := x
    have h1 := congrArg List.length h
    have h2 := t.size_pos
    simp [layS, Tr.lay_length] at h1
    omega
theorem WState.done {N : List NodeV} {i : Nat} {st : List (Tr × Nat)} {fl : Bool} {dp : Int} {R : List (Int × Int)} (h : WState N i st fl dp R) (hi : i = N.length) : st = [] ∧ fl = true ∧ R = [] := by
  have e : st = [] := layS_pos (by rw [← h.lay, hi, List.drop_length])
  subst e
  cases fl with
  | false => obtain ⟨t, d, r, e, _⟩ := h.no rfl; cases e
  | true =>
    have h1 := h.yes rfl
    exact ⟨rfl, rfl, by simpa [posS] using h1⟩
/-- Behind the look at the right children: the depth d, and those left R'. -/
structure WMid (N : List NodeV) (i : Nat) (t : Tr) (d : Nat) (r : List (Tr × Nat)) (R : List (Int × Int)) : Prop where
  lay : N.drop i = layS i ((t, d) :: r)
  deep : deepS 64 ((t, d) :: r)
  right : R.reverse = posS (i + t.size) r
theorem WState.mid {N : List NodeV} {i : Nat} {st : List (Tr × Nat)} {fl : Bool} {dp : Int} {R : List (Int × Int)} (h : WState N i st fl dp R) (hi : i < N.length) :
    ∃ t d r, st = (t, d) :: r ∧ (fl = false → dp = (d : Int) ∧ WMid N i t d r R) ∧ (fl = true → 0 < i ∧ ∃ R', R = R' ++ [((i : Int), (d : Int))] ∧ WMid N i t d r R') := by
  cases st with
  | nil =>
    have h1 := congrArg List.length h.lay
    simp [layS] at h1
    omega
  | cons x r =>
    obtain ⟨t, d⟩ := x
    refine ⟨t, d, r, rfl, fun hf => ?_, fun hf => ⟨?_, ?_⟩⟩
    · obtain ⟨t', d', r', e, e2, e3⟩ := h.no hf
      injection e with e4 e5
      injection e4 with e6 e7
      subst e5 e6 e7
      exact ⟨e2, h.lay, h.deep, e3⟩
    · rcases Nat.eq_zero_or_pos i with h0 | h0
      · rw [h.zero h0] at hf; cases hf
      · exact h0
    · have h1 := h.yes hf
      simp only [posS] at h1
      refine ⟨(posS (i + t.size) r).reverse, ?_, h.lay, h.deep, by rw [List.reverse_reverse]⟩
      have h2 := congrArg List.reverse h1
      rw [List.reverse_reverse, List.reverse_cons] at h2
      exact h2
theorem drop_get {N : List NodeV} {i : Nat} {x : NodeV} {r : List NodeV} (h : N.drop i = x :: r) : N[i]? = some x ∧ N.drop (i + 1) = r := by
  have h1 : (N.drop i)[0]? = some x := by rw [h]; rfl
  rw [List.getElem?_drop] at h1
  refine ⟨by simpa using h1, ?_⟩
  rw [← List.drop_drop, h]
  rfl
theorem WMid.leaf {N : List NodeV} {i d : Nat} {ids : List Int} {r : List (Tr × Nat)} {R : List (Int × Int)} (h : WMid N i (.leaf ids) d r R) (dp : Int) : N[i]? = some (leafN ids) ∧ WState N (i + 1) r true dp R := by
  have h1 := h.lay
  rw [layS_leaf] at h1
  obtain ⟨h2, h3⟩ := drop_get h1
  exact ⟨h2, h3, h.deep.tail, (fun h => by omega), fun x _ hx => by rw [Nat.add_sub_cancel, h2] at hx; injection hx with hx; subst hx; rfl, fun _ => h.right, (fun h => by cases h)⟩
theorem WMid.split {N : List NodeV} {i d : Nat} {ns : List Int} {off : Int} {l q : Tr} {r : List (Tr × Nat)} {R : List (Int × Int)} (h : WMid N i (.split ns off l q) d r R) :
    N[i]? = some ⟨false, [], ns, off, ((i + 1 : Nat) : Int), ((i + 1 + l.size : Nat) : Int)⟩ ∧ WState N (i + 1) ((l, d + 1) :: (q, d + 1) :: r) false ((d + 1 : Nat) : Int) (R ++ [(((i + 1 + l.size : Nat) : Int), ((d + 1 : Nat) : Int))]) := by
  have h1 := h.lay
  rw [layS_split] at h1
  obtain ⟨h2, h3⟩ := drop_get h1
  refine ⟨h2, h3, h.deep.split, (fun h => by omega), fun x _ hx => by rw [Nat.add_sub_cancel, h2] at hx; injection hx with hx; subst hx; rfl, (fun h => by cases h), fun _ => ⟨l, d + 1, (q, d + 1) :: r, rfl, rfl, ?_⟩⟩
  rw [List.reverse_append, h.right]
  have h4 := posS_split i d ns off l q r
  simp only [posS, List.tail_cons] at h4 ⊢
  exact h4.symm
theorem WMid.depth {N : List NodeV} {i d : Nat} {t : Tr} {r : List (Tr × Nat)} {R : List (Int × Int)} (h : WMid N i t d r R) : d ≤ 64 := by
  have := h.deep (t, d) (List.mem_cons_self)
  simp only at this
  omega
def twoW (p : Int × Int) : List Value := [.int .i64 p.1, .int .i64 p.2]
theorem twoW_q (p : Int × Int) : (twoW p).length = 2 := rfl
theorem twoW_one (p : Int × Int) : ∀ u ∈ twoW p, u.oneCell' = true := by
  intro u hu
  simp [twoW] at hu
  rcases hu with rfl | rfl <;> rfl
theorem RdC.two_atW (W : World) (u v : Value) (e : TypeId) (n : Nat) (hn : W.heap.size = n) : RdC (W.alloc (.cells #[u, v] e)) (some ⟨n, 0, none⟩) [u, v] := by
  subst hn
  exact RdC.block (cs := #[u, v]) (heap_alloc_new _ _)
theorem infoW : (Tryz.prog.info? 316).map (fun i => (i.zero, i.size, i.bytes)) = some (some (.agg #[.int .i64 0, .int .i64 0]), 2, 16) := by kernel_rfl
set_option maxHeartbeats 6400000 in
set_option maxRecDepth 1000000 in
theorem Whole_calls (A : Option Addr) (c : Nat) (t : Tr) (P : Nat → Prop) (w : World) (hN : RdN w P (.slice A (t.lay 0).length c) (t.lay 0)) (hl : t.size ≤ 1000000) (hd : t.depth ≤ 64) :
    Calls Tryz.prog 192 #[.slice A t.size c] w fun e w' => e = .returned (.bool true) ∧ Below w.heap.size w w' := by
  obtain ⟨N, hNe⟩ : ∃ N, t.lay 0 = N := ⟨_, rfl⟩
  have hst := WState.start hd
  have hn : N.length = t.size := by rw [← hNe, Tr.lay_length]
  have hp := t.size_pos
  rw [hNe] at hN hst
  rw [hn] at hN
  obtain ⟨n, hns⟩ : ∃ n, t.size = n := ⟨_, rfl⟩
  rw [hns] at hN hl hp hn ⊢
  obtain ⟨g, rfl⟩ : ∃ g : Nat, A = some ⟨g, 0, none⟩ := by
    obtain ⟨x, hx⟩ : ∃ x, N[0]? = some x := ⟨N[0]'(by rw [hn]; omega), List.getElem?_eq_getElem _⟩
    obtain ⟨g, _, _, _, _, e, _⟩ := hN.at_ 0 hx
    exact ⟨g, e⟩
  have HN := Lib.hid hN
  have EN := Lib.hid hn
  have HST := Lib.hid hst
  clear hN hn hns hNe hd hst
  go_enter Tryz.func192, Tryz.ntmps192
  go_wp2_with fail
  go_loopg [3, 4, 10] n (fun kq v3 v4 v10 w' => ∃ (i : Nat) (st : List (Tr × Nat)) (fl : Bool) (dp : Int) (R : List (Int × Int)), i + kq = n ∧ v10 = .int .i64 (i : Int) ∧ v4 = .int .i64 dp ∧ OwnF w' w.heap.size 316 2 twoW v3 R ∧ R.length ≤ i ∧ WState N i st fl dp R ∧ Below w.heap.size w w')
  case atStart => exact ⟨0, [(t, 0)], false, 0, [], by omega, rfl, rfl, OwnF.nil _ _ _, Nat.le_refl _, HST.out, Below.refl _ _⟩
  case round =>
    clear HST
    obtain ⟨i, st, fl, dp, R, hik, rfl, rfl, hO, hRl, hS, hB⟩ := hrel
    have HO := Lib.hid hO
    have HS := Lib.hid hS
    have HB := Lib.hid hB
    clear hO hS hB
    cases gk with
    | zero =>
      obtain rfl : i = n := by omega
      obtain ⟨rfl, rfl, rfl⟩ := HS.out.done EN.out.symm
      obtain ⟨Ao, co, rfl, _⟩ := HO.out.shape
      obtain ⟨x, hx⟩ : ∃ x, N[i - 1]? = some x := ⟨N[i - 1]'(by rw [EN.out]; omega), List.getElem?_eq_getElem _⟩
      have hxl := HS.out.prev x (by omega) hx
      obtain ⟨g', B1, c1, B2, c2, hg', hg, q0, _⟩ := (HN.out.below HB.out).at_ (i - 1) hx
      injection hg' with hg'
      injection hg' with hg'
      subst hg'
      rw [hxl] at q0
      obtain ⟨m, hm⟩ : ∃ m, i - 1 = m := ⟨_, rfl⟩
      have hwm : IntKind.i64.wrap ((i : Int) - 1) = (m : Int) := by rw [i64_w, show (i : Int) - 1 = (m : Int) by omega]; exact wrap64_id _ (by omega)
      have bm : (m : Int) < (i : Int) := by omega
      have d0 : decide (0 < i) = true := decide_eq_true (by omega)
      have d0' : decide (0 < (i : Int)) = true := decide_eq_true (by omega)
      have hlt : ¬ (i : Int) < (i : Int) := by omega
      rw [hm] at q0
      clear hx hm hxl
      simp only [List.length_nil]
      go_wp2_with fail
      go_ret
      exact ⟨rfl, HB.out⟩
    | succ k1 =>
      have hlt : i < n := by omega
      have hltI : (i : Int) < (n : Int) := by omega
      obtain ⟨t1, d, r, rfl, hno, hyes⟩ := HS.out.mid (by rw [EN.out]; exact hlt)
      obtain ⟨Ao, co, rfl, hoc⟩ := HO.out.shape
      cases fl with
      | false =>
        obtain ⟨rfl, hM⟩ := hno rfl
        have HM := Lib.hid hM
        have hd64 := hM.depth
        have dd : decide (64 < (d : Int)) = false := decide_eq_false (by omega)
        have HO2 := HO
        have hrl0 := Lib.hid hRl
        clear hM hno hyes hRl
        rcases Nat.eq_zero_or_pos i with h0 | h0
        · have d0 : decide (0 < (i : Int)) = false := decide_eq_false (by omega)
          have d0n : decide (0 < i) = false := decide_eq_false (by omega)
          clear h0
          cases t1 with
          | leaf ids =>
            obtain ⟨hx, hS2⟩ := HM.out.leaf (d : Int)
            obtain ⟨g', B1, c1, B2, c2, hg', _, q0, q1, q2, q3, q4, q5, _, _⟩ := (HN.out.below HB.out).at_ i hx
            injection hg' with hg'
            injection hg' with hg'
            subst hg'
            have HS2 := Lib.hid hS2
            dsimp only [leafN] at q0 q1 q2 q3 q4 q5
            obtain ⟨m1, hm1⟩ : ∃ m, ids.length = m := ⟨_, rfl⟩
            rw [hm1] at q1
            simp only [List.length_nil] at q2
            obtain ⟨i1, hi1⟩ : ∃ m : Nat, i + 1 = m := ⟨_, rfl⟩
            rw [hi1] at HS2
            have hwi : IntKind.i64.wrap ((i : Int) + 1) = (i1 : Int) := by rw [i64_w, show (i : Int) + 1 = (i1 : Int) by omega]; exact wrap64_id _ (by omega)
            have HI1 := Lib.hid hi1
            clear hx hm1 hS2 HM hi1
            go_wp2_with fail
            go_roundg k1
            case measure => omega
            case rel => exact ⟨i1, r, true, (d : Int), R, by have := HI1.out; omega, rfl, rfl, (HO2.out.keep (below_alloc1 (Below.refl _ _) _)), by have := hrl0.out; have := HI1.out; omega, HS2.out, below_alloc1 HB.out _⟩
          | split ns off l q =>
            obtain ⟨hx, hS2⟩ := HM.out.split
            obtain ⟨g', B1, c1, B2, c2, hg', _, q0, q1, q2, q3, q4, q5, _, _⟩ := (HN.out.below HB.out).at_ i hx
            injection hg' with hg'
            injection hg' with hg'
            subst hg'
            have HS2 := Lib.hid hS2
            dsimp only at q0 q1 q2 q3 q4 q5
            obtain ⟨m2, hm2⟩ : ∃ m, ns.length = m := ⟨_, rfl⟩
            rw [hm2] at q2
            simp only [List.length_nil] at q1
            obtain ⟨rt, hrt⟩ : ∃ m : Nat, i + 1 + l.size = m := ⟨_, rfl⟩
            obtain ⟨i1, hi1⟩ : ∃ m : Nat, i + 1 = m := ⟨_, rfl⟩
            obtain ⟨d1, hd1⟩ : ∃ m : Nat, d + 1 = m := ⟨_, rfl⟩
            rw [hrt] at q5 HS2
            rw [hi1] at q4 HS2
            rw [hd1] at HS2
            have hwi : IntKind.i64.wrap ((i : Int) + 1) = (i1 : Int) := by rw [i64_w, show (i : Int) + 1 = (i1 : Int) by omega]; exact wrap64_id _ (by omega)
            have hwd : IntKind.i64.wrap ((d : Int) + 1) = (d1 : Int) := by rw [i64_w, show (d : Int) + 1 = (d1 : Int) by omega]; exact wrap64_id _ (by have := hd64; omega)
            have HI1 := Lib.hid hi1
            have cn : ∀ o, ((wr.alloc (.cells #[.bool false, .slice B1 0 c1, .slice B2 m2 c2, .int .i64 off, .int .i64 (i1 : Int), .int .i64 (rt : Int)] 113)).alloc o).cell? ⟨wr.heap.size, 4, none⟩ = some (.int .i64 (i1 : Int)) := fun o => by
              have h := obj_below (below_alloc1 (Below.refl _ _) o) (heap_alloc_new wr (.cells #[.bool false, .slice B1 0 c1, .slice B2 m2 c2, .int .i64 off, .int .i64 (i1 : Int), .int .i64 (rt : Int)] 113)) (by simp)
              simp [World.cell?, h]
            clear hx hm2 hS2 HM hrt hi1 hd1
            go_wp2_with (first
              | (at_builtin; refine wpList_appF (q := 2) (f := twoW) _ rfl (.tmp 54) (.tmp 59) 314 316 rfl (.agg #[.int .i64 0, .int .i64 0]) 16 Tryz.underlying314 infoW rfl (by omega) (by omega) twoW_q twoW_one w.heap.size (.slice Ao R.length co) R rfl (some ⟨wr.heap.size + 1, 0, none⟩) 1 [((rt : Int), (d1 : Int))] rfl (by repeat (first | with_reducible exact HO2.out | with_reducible apply OwnF.alloc1 | with_reducible apply OwnF.drew1)) w (by repeat (first | with_reducible exact HB.out | with_reducible apply below_alloc1 | with_reducible apply below_drew1)) (by exact (below_alloc1 (below_alloc1 HB.out _) _).size) (RdC.two_atW _ _ _ _ _ (by first | rw [World.size_alloc] | (simp; done))) (by have := hrl0.out; simp; omega) ?_; intro v6 W5 hown hgrow hbel hat hnil; have hcl := hgrow.cell (cn _) (fun h => by have h2 := (HO2.out.lt _ h).2; simp at h2); obtain ⟨A6, c6, hv6, _⟩ := hown.shape; subst hv6; have HO6 := Lib.hid hown; have HB6 := Lib.hid hbel; clear hown hgrow hbel hat hnil))
            go_roundg k1
            case measure => omega
            case rel => exact ⟨i1, (l, d1) :: (q, d1) :: r, false, (d1 : Int), R ++ [((rt : Int), (d1 : Int))], by have := HI1.out; omega, rfl, rfl, by have h := HO6.out; rw [List.length_append, List.length_singleton] at h; exact h, by have := hrl0.out; have := HI1.out; rw [List.length_append, List.length_singleton]; omega, HS2.out, HB6.out⟩
        · skip
          obtain ⟨m, hm⟩ : ∃ m, i - 1 = m := ⟨_, rfl⟩
          obtain ⟨x, hx⟩ : ∃ x, N[i - 1]? = some x := ⟨N[i - 1]'(by rw [EN.out]; omega), List.getElem?_eq_getElem _⟩
          have hxl := HS.out.prev x h0 hx
          obtain ⟨g', _, _, _, _, hg', _, p0, _⟩ := (HN.out.below HB.out).at_ (i - 1) hx
          injection hg' with hg'
          injection hg' with hg'
          subst hg'
          rw [hxl] at p0
          have hwm : IntKind.i64.wrap ((i : Int) - 1) = (m : Int) := by rw [i64_w, show (i : Int) - 1 = (m : Int) by omega]; exact wrap64_id _ (by omega)
          have bm : (m : Int) < (n : Int) := by omega
          have d0n : decide (0 < i) = true := decide_eq_true (by omega)
          have d0 : decide (0 < (i : Int)) = true := decide_eq_true (by omega)
          rw [hm] at p0
          clear hx hm hxl h0
          cases t1 with
          | leaf ids =>
            obtain ⟨hx, hS2⟩ := HM.out.leaf (d : Int)
            obtain ⟨g', B1, c1, B2, c2, hg', _, q0, q1, q2, q3, q4, q5, _, _⟩ := (HN.out.below HB.out).at_ i hx
            injection hg' with hg'
            injection hg' with hg'
            subst hg'
            have HS2 := Lib.hid hS2
            dsimp only [leafN] at q0 q1 q2 q3 q4 q5
            obtain ⟨m1, hm1⟩ : ∃ m, ids.length = m := ⟨_, rfl⟩
            rw [hm1] at q1
            simp only [List.length_nil] at q2
            obtain ⟨i1, hi1⟩ : ∃ m : Nat, i + 1 = m := ⟨_, rfl⟩
            rw [hi1] at HS2
            have hwi : IntKind.i64.wrap ((i : Int) + 1) = (i1 : Int) := by rw [i64_w, show (i : Int) + 1 = (i1 : Int) by omega]; exact wrap64_id _ (by omega)
            have HI1 := Lib.hid hi1
            clear hx hm1 hS2 HM hi1
            go_wp2_with fail
            go_roundg k1
            case measure => omega
            case rel => exact ⟨i1, r, true, (d : Int), R, by have := HI1.out; omega, rfl, rfl, (HO2.out.keep (below_alloc1 (Below.refl _ _) _)), by have := hrl0.out; have := HI1.out; omega, HS2.out, below_alloc1 HB.out _⟩
          | split ns off l q =>
            obtain ⟨hx, hS2⟩ := HM.out.split
            obtain ⟨g', B1, c1, B2, c2, hg', _, q0, q1, q2, q3, q4, q5, _, _⟩ := (HN.out.below HB.out).at_ i hx
            injection hg' with hg'
            injection hg' with hg'
            subst hg'
            have HS2 := Lib.hid hS2
            dsimp only at q0 q1 q2 q3 q4 q5
            obtain ⟨m2, hm2⟩ : ∃ m, ns.length = m := ⟨_, rfl⟩
            rw [hm2] at q2
            simp only [List.length_nil] at q1
            obtain ⟨rt, hrt⟩ : ∃ m : Nat, i + 1 + l.size = m := ⟨_, rfl⟩
            obtain ⟨i1, hi1⟩ : ∃ m : Nat, i + 1 = m := ⟨_, rfl⟩
            obtain ⟨d1, hd1⟩ : ∃ m : Nat, d + 1 = m := ⟨_, rfl⟩
            rw [hrt] at q5 HS2
            rw [hi1] at q4 HS2
            rw [hd1] at HS2
            have hwi : IntKind.i64.wrap ((i : Int) + 1) = (i1 : Int) := by rw [i64_w, show (i : Int) + 1 = (i1 : Int) by omega]; exact wrap64_id _ (by omega)
            have hwd : IntKind.i64.wrap ((d : Int) + 1) = (d1 : Int) := by rw [i64_w, show (d : Int) + 1 = (d1 : Int) by omega]; exact wrap64_id _ (by have := hd64; omega)
            have HI1 := Lib.hid hi1
            have cn : ∀ o, ((wr.alloc (.cells #[.bool false, .slice B1 0 c1, .slice B2 m2 c2, .int .i64 off, .int .i64 (i1 : Int), .int .i64 (rt : Int)] 113)).alloc o).cell? ⟨wr.heap.size, 4, none⟩ = some (.int .i64 (i1 : Int)) := fun o => by
              have h := obj_below (below_alloc1 (Below.refl _ _) o) (heap_alloc_new wr (.cells #[.bool false, .slice B1 0 c1, .slice B2 m2 c2, .int .i64 off, .int .i64 (i1 : Int), .int .i64 (rt : Int)] 113)) (by simp)
              simp [World.cell?, h]
            clear hx hm2 hS2 HM hrt hi1 hd1
            go_wp2_with (first
              | (at_builtin; refine wpList_appF (q := 2) (f := twoW) _ rfl (.tmp 54) (.tmp 59) 314 316 rfl (.agg #[.int .i64 0, .int .i64 0]) 16 Tryz.underlying314 infoW rfl (by omega) (by omega) twoW_q twoW_one w.heap.size (.slice Ao R.length co) R rfl (some ⟨wr.heap.size + 1, 0, none⟩) 1 [((rt : Int), (d1 : Int))] rfl (by repeat (first | with_reducible exact HO2.out | with_reducible apply OwnF.alloc1 | with_reducible apply OwnF.drew1)) w (by repeat (first | with_reducible exact HB.out | with_reducible apply below_alloc1 | with_reducible apply below_drew1)) (by exact (below_alloc1 (below_alloc1 HB.out _) _).size) (RdC.two_atW _ _ _ _ _ (by first | rw [World.size_alloc] | (simp; done))) (by have := hrl0.out; simp; omega) ?_; intro v6 W5 hown hgrow hbel hat hnil; have hcl := hgrow.cell (cn _) (fun h => by have h2 := (HO2.out.lt _ h).2; simp at h2); obtain ⟨A6, c6, hv6, _⟩ := hown.shape; subst hv6; have HO6 := Lib.hid hown; have HB6 := Lib.hid hbel; clear hown hgrow hbel hat hnil))
            go_roundg k1
            case measure => omega
            case rel => exact ⟨i1, (l, d1) :: (q, d1) :: r, false, (d1 : Int), R ++ [((rt : Int), (d1 : Int))], by have := HI1.out; omega, rfl, rfl, by have h := HO6.out; rw [List.length_append, List.length_singleton] at h; exact h, by have := hrl0.out; have := HI1.out; rw [List.length_append, List.length_singleton]; omega, HS2.out, HB6.out⟩
      | true =>
        obtain ⟨h0, R', hR, hM⟩ := hyes rfl
        have HM := Lib.hid hM
        have hd64 := hM.depth
        have dd : decide (64 < (d : Int)) = false := decide_eq_false (by omega)
        subst hR
        obtain ⟨k, hk⟩ : ∃ k, R'.length = k := ⟨_, rfl⟩
        have hlen : (R' ++ [((i : Int), (d : Int))]).length = k + 1 := by rw [List.length_append, hk]; rfl
        rw [hlen] at HO hoc hRl ⊢
        have HO2 := Lib.hid (OwnF.pop twoW_q HO.out)
        obtain ⟨gR, xr, rfl, _, hgl, hxr, hcr, _, _⟩ := HO.out.at_ twoW_q k (by omega) (by omega)
        have hxr' : xr = ((i : Int), (d : Int)) := by rw [← hk] at hxr; simpa using hxr.symm
        subst hxr'
        have r0 : wr.cell? ⟨gR, k * 2, none⟩ = some (.int .i64 (i : Int)) := hcr 0 (by omega)
        have r1 : wr.cell? ⟨gR, k * 2 + 1, none⟩ = some (.int .i64 (d : Int)) := hcr 1 (by omega)
        have ar : ∀ j o, wr.cell? ⟨gR, j, none⟩ = some o → ∀ b, (wr.alloc b).cell? ⟨gR, j, none⟩ = some o := fun j o h b => (World.cell?_alloc_lt (o := b) wr _ (World.block_lt_of_cell? _ _ h)).trans h
        have ar0 := ar _ _ r0
        have ar1 := ar _ _ r1
        have hkl : decide ((k : Int) < 0) = false := decide_eq_false (by omega)
        have hkc : k ≤ co := by omega
        have hrl0 := Lib.hid (show R'.length ≤ i by omega)
        rw [hk] at hrl0
        have HK := Lib.hid hk
        obtain ⟨K, hK⟩ : ∃ K, k + 1 = K := ⟨_, rfl⟩
        rw [hK]
        have bk : (k : Int) < (K : Int) := by omega
        have hwk : IntKind.i64.wrap ((K : Int) - 1) = (k : Int) := by rw [i64_w, show (K : Int) - 1 = (k : Int) by omega]; exact wrap64_id _ (by omega)
        have hkK : k ≤ K := by omega
        clear hM hno hyes hRl hcr hxr hlen ar hK hk
        obtain ⟨m, hm⟩ : ∃ m, i - 1 = m := ⟨_, rfl⟩
        obtain ⟨x, hx⟩ : ∃ x, N[i - 1]? = some x := ⟨N[i - 1]'(by rw [EN.out]; omega), List.getElem?_eq_getElem _⟩
        have hxl := HS.out.prev x h0 hx
        obtain ⟨g', _, _, _, _, hg', _, p0, _⟩ := (HN.out.below HB.out).at_ (i - 1) hx
        injection hg' with hg'
        injection hg' with hg'
        subst hg'
        rw [hxl] at p0
        have hwm : IntKind.i64.wrap ((i : Int) - 1) = (m : Int) := by rw [i64_w, show (i : Int) - 1 = (m : Int) by omega]; exact wrap64_id _ (by omega)
        have bm : (m : Int) < (n : Int) := by omega
        have d0n : decide (0 < i) = true := decide_eq_true (by omega)
        have d0 : decide (0 < (i : Int)) = true := decide_eq_true (by omega)
        rw [hm] at p0
        clear hx hm hxl h0
        cases t1 with
        | leaf ids =>
          obtain ⟨hx, hS2⟩ := HM.out.leaf (d : Int)
          obtain ⟨g', B1, c1, B2, c2, hg', _, q0, q1, q2, q3, q4, q5, _, _⟩ := (HN.out.below HB.out).at_ i hx
          injection hg' with hg'
          injection hg' with hg'
          subst hg'
          have HS2 := Lib.hid hS2
          dsimp only [leafN] at q0 q1 q2 q3 q4 q5
          obtain ⟨m1, hm1⟩ : ∃ m, ids.length = m := ⟨_, rfl⟩
          rw [hm1] at q1
          simp only [List.length_nil] at q2
          obtain ⟨i1, hi1⟩ : ∃ m : Nat, i + 1 = m := ⟨_, rfl⟩
          rw [hi1] at HS2
          have hwi : IntKind.i64.wrap ((i : Int) + 1) = (i1 : Int) := by rw [i64_w, show (i : Int) + 1 = (i1 : Int) by omega]; exact wrap64_id _ (by omega)
          have HI1 := Lib.hid hi1
          clear hx hm1 hS2 HM hi1
          go_wp2_with fail
          go_quiet (fail)
          obtain ⟨W1, hW1⟩ : ∃ W, (wr.alloc (.cells #[.bool true, .slice B1 m1 c1, .slice B2 0 c2, .int .i64 0, .int .i64 0, .int .i64 0] 113)).drewN nq = W := ⟨_, rfl⟩
          have hB1 : Below wr.heap.size wr W1 := by rw [← hW1]; first | exact below_alloc1 (Below.refl _ _) _ | exact below_drewN (below_alloc1 (Below.refl _ _) _) _
          have hx1 : W1.heap[wr.heap.size]? = some (.cells #[.bool true, .slice B1 m1 c1, .slice B2 0 c2, .int .i64 0, .int .i64 0, .int .i64 0] 113 (0, 0)) := by rw [← hW1]; first | exact heap_alloc_new _ _ | exact obj_below (below_drewN_self _ _) (heap_alloc_new _ _) (by simp)
          rw [hW1]
          clear hW1
          have x0 : W1.cell? ⟨wr.heap.size, 0, none⟩ = some (.bool true) := by simp [World.cell?, hx1]
          have x4 : W1.cell? ⟨wr.heap.size, 4, none⟩ = some (.int .i64 0) := by simp [World.cell?, hx1]
          have x5 : W1.cell? ⟨wr.heap.size, 5, none⟩ = some (.int .i64 0) := by simp [World.cell?, hx1]
          have hxl1 := obj_lt hx1
          have HO3 := Lib.hid (HO2.out.keep hB1)
          have HB3 := Lib.hid (HB.out.trans (hB1.mono HB.out.size))
          clear hx1 hB1 q0 q1 q2 q3 q4 q5
          go_wp2_with fail
          go_roundg k1
          case measure => omega
          case rel => exact ⟨i1, r, true, (d : Int), R', by have := HI1.out; omega, rfl, rfl, HO3.out, by have := hrl0.out; have := HI1.out; have := HK.out; omega, HS2.out, HB3.out⟩
        | split ns off l q =>
          obtain ⟨hx, hS2⟩ := HM.out.split
          obtain ⟨g', B1, c1, B2, c2, hg', _, q0, q1, q2, q3, q4, q5, _, _⟩ := (HN.out.below HB.out).at_ i hx
          injection hg' with hg'
          injection hg' with hg'
          subst hg'
          have HS2 := Lib.hid hS2
          dsimp only at q0 q1 q2 q3 q4 q5
          obtain ⟨m2, hm2⟩ : ∃ m, ns.length = m := ⟨_, rfl⟩
          rw [hm2] at q2
          simp only [List.length_nil] at q1
          obtain ⟨rt, hrt⟩ : ∃ m : Nat, i + 1 + l.size = m := ⟨_, rfl⟩
          obtain ⟨i1, hi1⟩ : ∃ m : Nat, i + 1 = m := ⟨_, rfl⟩
          obtain ⟨d1, hd1⟩ : ∃ m : Nat, d + 1 = m := ⟨_, rfl⟩
          rw [hrt] at q5 HS2
          rw [hi1] at q4 HS2
          rw [hd1] at HS2
          have hwi : IntKind.i64.wrap ((i : Int) + 1) = (i1 : Int) := by rw [i64_w, show (i : Int) + 1 = (i1 : Int) by omega]; exact wrap64_id _ (by omega)
          have hwd : IntKind.i64.wrap ((d : Int) + 1) = (d1 : Int) := by rw [i64_w, show (d : Int) + 1 = (d1 : Int) by omega]; exact wrap64_id _ (by have := hd64; omega)
          have HI1 := Lib.hid hi1
          clear hx hm2 hS2 HM hrt hi1 hd1
          go_wp2_with fail
          go_quiet (fail)
          obtain ⟨W1, hW1⟩ : ∃ W, (wr.alloc (.cells #[.bool false, .slice B1 0 c1, .slice B2 m2 c2, .int .i64 off, .int .i64 (i1 : Int), .int .i64 (rt : Int)] 113)).drewN nq = W := ⟨_, rfl⟩
          have hB1 : Below wr.heap.size wr W1 := by rw [← hW1]; first | exact below_alloc1 (Below.refl _ _) _ | exact below_drewN (below_alloc1 (Below.refl _ _) _) _
          have hx1 : W1.heap[wr.heap.size]? = some (.cells #[.bool false, .slice B1 0 c1, .slice B2 m2 c2, .int .i64 off, .int .i64 (i1 : Int), .int .i64 (rt : Int)] 113 (0, 0)) := by rw [← hW1]; first | exact heap_alloc_new _ _ | exact obj_below (below_drewN_self _ _) (heap_alloc_new _ _) (by simp)
          rw [hW1]
          clear hW1
          have x0 : W1.cell? ⟨wr.heap.size, 0, none⟩ = some (.bool false) := by simp [World.cell?, hx1]
          have x4 : W1.cell? ⟨wr.heap.size, 4, none⟩ = some (.int .i64 (i1 : Int)) := by simp [World.cell?, hx1]
          have x5 : W1.cell? ⟨wr.heap.size, 5, none⟩ = some (.int .i64 (rt : Int)) := by simp [World.cell?, hx1]
          have hxl1 := obj_lt hx1
          have HO3 := Lib.hid (HO2.out.keep hB1)
          have HB3 := Lib.hid (HB.out.trans (hB1.mono HB.out.size))
          clear hx1 hB1 q0 q1 q2 q3 q4 q5
          go_wp2_with (first
            | (at_builtin; refine wpList_appF (q := 2) (f := twoW) _ rfl (.tmp 54) (.tmp 59) 314 316 rfl (.agg #[.int .i64 0, .int .i64 0]) 16 Tryz.underlying314 infoW rfl (by omega) (by omega) twoW_q twoW_one w.heap.size (.slice (some ⟨gR, 0, none⟩) k co) R' rfl (some ⟨W1.heap.size, 0, none⟩) 1 [((rt : Int), (d1 : Int))] rfl (by repeat (first | with_reducible exact HO3.out | with_reducible apply OwnF.alloc1 | with_reducible apply OwnF.drew1)) w (by repeat (first | with_reducible exact HB3.out | with_reducible apply below_alloc1 | with_reducible apply below_drew1)) (by exact (below_alloc1 HB3.out _).size) (RdC.two_atW _ _ _ _ _ rfl) (by have := hrl0.out; have := HK.out; simp; omega) ?_; intro v6 W5 hown hgrow hbel hat hnil; have hcl := hgrow.cell ((World.cell?_alloc_lt (o := .cells #[.int .i64 (rt : Int), .int .i64 (d1 : Int)] 316) W1 _ (World.block_lt_of_cell? _ _ x4)).trans x4) (fun h => by have h2 := (HO2.out.lt _ h).2; simp at h2); obtain ⟨A6, c6, hv6, _⟩ := hown.shape; subst hv6; have HO6 := Lib.hid hown; have HB6 := Lib.hid hbel; clear hown hgrow hbel hat hnil))
          go_roundg k1
          case measure => omega
          case rel => exact ⟨i1, (l, d1) :: (q, d1) :: r, false, (d1 : Int), R' ++ [((rt : Int), (d1 : Int))], by have := HI1.out; omega, rfl, rfl, by have h := HO6.out; rw [List.length_append, List.length_singleton] at h; exact h, by have := hrl0.out; have := HI1.out; rw [List.length_append, List.length_singleton, HK.out]; omega, HS2.out, HB6.out⟩
end Go.Proofs.YticdmglondpgaaaGreat
