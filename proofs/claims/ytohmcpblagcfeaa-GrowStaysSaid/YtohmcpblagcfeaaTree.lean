
/-
  grow.Tree, walked: what it hands back is the tree of the definition, or why there is none. Conditions: those of the theorem's head.
-/
import Derived.Test.YtohmcpblagcfeaaStru2
namespace Go.Proofs.Ytohmcpblagcfeaa
open Go.RowKit
set_option linter.unusedVariables false
set_option maxRecDepth 100000
set_option linter.unusedSimpArgs false

def upTo (n : Nat) : List Int := (List.range n).map fun (i : Nat) => (i : Int)
theorem upTo_length (n : Nat) : (upTo n).length = n := by simp [upTo]
theorem upTo_succ (n : Nat) : upTo (n + 1) = upTo n ++ [(n : Int)] := by simp [upTo, List.range_succ]
theorem Only.own {S X : Nat → Prop} {w1 w2 w3 : World} (h : Only S w1 w2) (ho : Only X w2 w3) (hX : ∀ b, b < w1.heap.size → ¬ X b) : Only S w1 w3 :=
  ⟨ho.os.trans h.os, ho.tape.trans h.tape, ho.output.trans h.output, Nat.le_trans h.size ho.size, fun k hk hs => (ho.block k (Nat.lt_of_lt_of_le hk h.size) (hX k hk)).trans (h.block k hk hs)⟩
theorem Only.low {S : Nat → Prop} {w1 w2 w3 : World} (h : Only S w1 w2) (hb : Below w2.heap.size w2 w3) : Only S w1 w3 := h.own (X := fun _ => False) (Only.of_below hb) fun _ _ h => h
theorem OwnN.low {w : World} {base base' : Nat} {v : Value} {N : List NodeV} {X : Nat → Prop} (h : OwnN w base v N X) (hb : base' ≤ base) : OwnN w base' v N X := by
  obtain ⟨al, e, h1, h2⟩ := h
  have key : ∀ {k : IntKind} {A : Option Addr} {c : Nat} {xs : List Int}, Lies w base k A c xs X → Lies w base' k A c xs X := fun h => ⟨h.1, h.2.1, fun ad h1 e => ⟨Nat.le_trans hb (h.2.2 ad h1 e).1, (h.2.2 ad h1 e).2⟩⟩
  exact ⟨al, e, h1.low hb, fun a ha => ⟨key (h2 a ha).1, key (h2 a ha).2⟩⟩
def treeErr (n : Nat) (t l d : Int) : Int := if growErr t l d ≠ 0 then growErr t l d else if n = 0 then 15 else 0
def TreePost (w : World) (lo hi : Nat) (v : Value) (s : Nat → Int) (k : Nat) (rows : List (List Int)) (dim : Nat) (t l d : Int) (e : Ending) (w' : World) : Prop :=
  ∃ vN, e = .returned (.tuple #[vN, .int .i64 (treeErr rows.length t l d)]) ∧ (treeErr rows.length t l d ≠ 0 → vN = .slice none 0 0 ∧ Below w.heap.size w w') ∧
    (treeErr rows.length t l d = 0 → OwnN w' w.heap.size vN (growF rows dim l.toNat s d.toNat (upTo rows.length) 0 k).1 (fun b => vN.ownBlock = some b) ∧ At w' lo hi v s (growF rows dim l.toNat s d.toNat (upTo rows.length) 0 k).2 ∧ Only (Within lo hi) w w')
theorem growErr_zero {t l d : Int} (h : growErr t l d = 0) : 1 ≤ l ∧ l ≤ 1024 ∧ 0 ≤ d ∧ d ≤ 64 ∧ 1 ≤ t ∧ t ≤ 256 := by
  unfold growErr at h
  split at h
  · omega
  · split at h
    · omega
    · omega
theorem cell_sa {w : World} {bs : Nat} {a : Addr} {y : Value} (h : w.cell? a = some y) (hne : a.block ≠ bs) (x : Value) (o : Obj) : ((w.setCell ⟨bs, 0, none⟩ x).alloc o).cell? a = some y := by
  have h1 : (w.setCell ⟨bs, 0, none⟩ x).cell? a = some y := (only_set w bs 0 x).cell h hne
  exact (World.cell?_alloc_lt (o := o) _ _ (World.block_lt_of_cell? _ _ h1)).trans h1
theorem frozen_sa {w : World} {bs : Nat} {a : Addr} (h : w.frozen? a = false) (hlt : a.block < w.heap.size) (hne : a.block ≠ bs) (x : Value) (o : Obj) : ((w.setCell ⟨bs, 0, none⟩ x).alloc o).frozen? a = false := by
  have h1 : (w.setCell ⟨bs, 0, none⟩ x).heap[a.block]? = w.heap[a.block]? := (only_set w bs 0 x).block a.block hlt hne
  have h2 : ((w.setCell ⟨bs, 0, none⟩ x).alloc o).heap[a.block]? = w.heap[a.block]? := by
    rw [← h1]
    exact (below_alloc1 (Below.refl _ (w.setCell ⟨bs, 0, none⟩ x)) o).block a.block (by have := (only_set w bs 0 x).size; omega)
  unfold World.frozen? at h ⊢
  rw [h2]; exact h
theorem St.init (wa : World) (base dm g0 n : Nat) (ids : List Int) (hn : ids.length = n) (hr : Rd wa .i64 (some ⟨g0, 0, none⟩) ids) (hg : g0 < wa.heap.size) (hb : base ≤ g0) :
    St ((wa.alloc (.cells #[.slice (some ⟨g0, 0, none⟩) n n, .int .i64 0, .int .i64 (-1)] 114)).alloc (.cells #[.slice (some ⟨wa.heap.size, 0, none⟩) 1 1] 115)) base dm (wa.heap.size + 1) (.slice none 0 0) (.slice (some ⟨wa.heap.size, 0, none⟩) 1 1) [] [⟨ids, dm, none⟩] := by
  have e1 := heap_alloc_new wa (.cells #[.slice (some ⟨g0, 0, none⟩) n n, .int .i64 0, .int .i64 (-1)] 114)
  have e2 := heap_alloc_new (wa.alloc (.cells #[.slice (some ⟨g0, 0, none⟩) n n, .int .i64 0, .int .i64 (-1)] 114)) (.cells #[.slice (some ⟨wa.heap.size, 0, none⟩) 1 1] 115)
  rw [World.size_alloc] at e2
  have e3 := obj_below (below_alloc1 (Below.refl (wa.alloc (.cells #[.slice (some ⟨g0, 0, none⟩) n n, .int .i64 0, .int .i64 (-1)] 114)).heap.size _) (.cells #[.slice (some ⟨wa.heap.size, 0, none⟩) 1 1] 115)) e1 (obj_lt e1)
  refine ⟨OwnN.nil _ _ _, ⟨[⟨⟨ids, dm, none⟩, some ⟨g0, 0, none⟩, n⟩], rfl, ⟨by simp [jobF], .inr ⟨wa.heap.size, 1, _, rfl, by omega, e3, Nat.le_refl _, by unfold maxLen; omega, rfl, ?_⟩⟩, fun a ha => ?_⟩, e2, by omega, fun b h => by simp [Value.ownBlock] at h, by simp [Value.ownBlock], by simp [Value.ownBlock]⟩
  · simp [jobF, upI, hn]
  · rw [List.mem_singleton] at ha
    subst ha
    refine ⟨by simp only [hn]; omega, (hr.below (below_alloc1 (Below.refl _ _) _)).below (below_alloc1 (Below.refl _ _) _), fun ad _ e => ?_⟩
    injection e with e
    subst e
    refine ⟨hb, fun hx => ?_⟩
    rcases hx with hx | hx | hx
    · simp [Value.ownBlock] at hx
    · simp [Value.ownBlock] at hx; omega
    · simp at hx; omega
set_option maxHeartbeats 6400000 in
set_option maxRecDepth 100000 in
theorem Tree_calls (b dim : Nat) (rows : List (List Int)) (AI : Option Addr) (cI : Nat) (t l d : Int) (sc : Bool) (sd : Int) (DA : Option Addr) (dn dc : Nat) (lo hi : Nat) (v : Value) (s : Nat → Int) (k : Nat) (w : World)
    (hit : ItV w b dim rows AI cI) (hr : ∀ r ∈ rows, R32 r) (hat : At w lo hi v s k) (hk : k ≤ 400000) (hlen : rows.length ≤ 400) (hs1 : ∀ q, ItB b AI rows.flatten.length cI q → ¬ Within lo hi q) (hhi : hi ≤ w.heap.size) :
    Calls Try.prog 31 #[.pointer (some ⟨b, 0, none⟩), .agg #[.int .i64 t, .int .i64 l, .int .i64 d, .bool sc, .int .u64 sd, .slice DA dn dc], v] w (TreePost w lo hi v s k rows dim t l d) := by
  have HIT := Lib.hid hit
  have HR := Lib.hid hr
  have HAT := Lib.hid hat
  have HS1 := Lib.hid hs1
  obtain ⟨n, hn⟩ : ∃ n, rows.length = n := ⟨_, rfl⟩
  have HN := Lib.hid hn
  rw [hn] at hlen
  clear hit hr hat hs1 hn
  go_enter Try.func31, Try.ntmps31
  go_wp2_with fail
  obtain ⟨w1, hw1⟩ : ∃ W, w.alloc (.cells #[.int .i64 t, .int .i64 l, .int .i64 d, .bool sc, .int .u64 sd, .slice DA dn dc] 67) = W := ⟨_, rfl⟩
  (try rw [hw1])
  have hb1 : Below w.heap.size w w1 := by rw [← hw1]; exact below_alloc1 (Below.refl _ _) _
  have bp1 : w1.heap[w.heap.size]? = some (.cells #[.int .i64 t, .int .i64 l, .int .i64 d, .bool sc, .int .u64 sd, .slice DA dn dc] 67 (0, 0)) := by rw [← hw1]; exact heap_alloc_new _ _
  have hz1 : w.heap.size < w1.heap.size := obj_lt bp1
  have HB1 := Lib.hid hb1
  have BP1 := Lib.hid bp1
  have p0 : w1.cell? ⟨w.heap.size, 0, none⟩ = some (.int .i64 t) := by simp [World.cell?, bp1]
  have p1 : w1.cell? ⟨w.heap.size, 1, none⟩ = some (.int .i64 l) := by simp [World.cell?, bp1]
  have p2 : w1.cell? ⟨w.heap.size, 2, none⟩ = some (.int .i64 d) := by simp [World.cell?, bp1]
  have p3 : w1.cell? ⟨w.heap.size, 3, none⟩ = some (.bool sc) := by simp [World.cell?, bp1]
  have p4 : w1.cell? ⟨w.heap.size, 4, none⟩ = some (.int .u64 sd) := by simp [World.cell?, bp1]
  have p5 : w1.cell? ⟨w.heap.size, 5, none⟩ = some (.slice DA dn dc) := by simp [World.cell?, bp1]
  clear hw1 hb1 bp1
  go_wp2_with fail
  refine (GCheck_calls t l d sc sd DA dn dc w1).mono ?_
  rintro e w2 ⟨he, hb2⟩
  subst he
  have HB2 := Lib.hid hb2
  have hz2 := hb2.size
  obtain ⟨E, hE⟩ : ∃ E, growErr t l d = E := ⟨_, rfl⟩
  rw [hE]
  have HE := Lib.hid hE
  clear hb2 hE p0 p1 p2 p3 p4 p5
  by_cases h0 : E = 0
  case neg =>
    have h0' : decide (E = 0) = false := decide_eq_false h0
    go_wp2_with fail
    go_ret2
    have e1 : treeErr rows.length t l d = E := by unfold treeErr; rw [HE.out, if_pos h0]
    exact ⟨.slice none 0 0, by rw [e1]; rfl, fun _ => ⟨rfl, HB1.out.trans (HB2.out.mono (by omega))⟩, fun h => absurd (e1.symm.trans h) h0⟩
  subst h0
  obtain ⟨hl1, hl2, hd1, hd2, ht1, ht2⟩ := growErr_zero HE.out
  obtain ⟨leaf, rfl⟩ : ∃ leaf : Nat, l = leaf := ⟨l.toNat, by omega⟩
  obtain ⟨dm, rfl⟩ : ∃ dm : Nat, d = dm := ⟨d.toNat, by omega⟩
  have IT2 := Lib.hid ((HIT.out.only (S := fun _ => False) (Only.of_below HB1.out) fun _ _ h => h).only (S := fun _ => False) (Only.of_below HB2.out) fun _ _ h => h)
  go_wp2_with fail
  refine (HN.out ▸ Len_calls b dim rows w2 IT2.out.it).mono ?_
  rintro e w3 ⟨he, q, hq⟩
  subst he
  have HB3 := Lib.hid (show Below w2.heap.size w2 w3 by rw [hq]; exact below_drewN_self _ _)
  clear hq
  have hz3 := HB3.out.size
  by_cases hn0 : n = 0
  case pos =>
    subst hn0
    go_wp2_with fail
    go_ret2
    have e1 : treeErr rows.length t leaf dm = 15 := by unfold treeErr; rw [HE.out, HN.out]; rfl
    exact ⟨.slice none 0 0, by rw [e1]; rfl, fun _ => ⟨rfl, HB1.out.trans ((HB2.out.trans (HB3.out.mono hz2)).mono (by omega))⟩, fun h => absurd (e1.symm.trans h) (by decide)⟩
  have hn0' : decide (n = 0) = false := decide_eq_false hn0
  have IT3 := Lib.hid (IT2.out.only (S := fun _ => False) (Only.of_below HB3.out) fun _ _ h => h)
  go_wp2_with fail
  refine (HN.out ▸ Len_calls b dim rows w3 IT3.out.it).mono ?_
  rintro e w4 ⟨he, q, hq⟩
  subst he
  have HB4 := Lib.hid (show Below w3.heap.size w3 w4 by rw [hq]; exact below_drewN_self _ _)
  clear hq
  have hz4 := HB4.out.size
  have HB14 := Lib.hid (show Below w1.heap.size w1 w4 from (HB2.out.trans (HB3.out.mono hz2)).trans (HB4.out.mono (by omega)))
  clear HB2 HB3 HB4 IT2 IT3 hn0'
  go_wp2_with (at_make; refine wpList_mk _ rfl (.tmp 26) (.tmp 26) 23 3 rfl (.int .i64 0) 8 Try.underlying23 info_int rfl .i64 .i64 n rfl rfl (by omega) (by omega) ?_; intro w5 hblk hbel hsz; have HBK := Lib.hid hblk; clear hblk)
  have HB5 := Lib.hid (HB14.out.trans (hbel.mono HB14.out.size))
  have hz45 := hbel.size
  clear hbel
  go_wp2_with fail
  go_loopg [10, 30] n (fun kq v10 v30 w' => kq ≤ n ∧ v30 = .int .i64 ((n - kq : Nat)) ∧ Hid (w'.heap[w4.heap.size]? = some (.cells (nums .i64 (upTo (n - kq) ++ List.replicate kq 0)).toArray 3 (0, 0))) ∧ Below w1.heap.size w1 w')
  case atStart => exact ⟨Nat.le_refl _, by simp, by rw [Nat.sub_self]; exact Lib.hid (by rw [show upTo 0 ++ List.replicate n 0 = List.replicate n (0 : Int) from rfl, nums_replicate]; exact HBK.out), HB5.out⟩
  case round =>
    obtain ⟨hkq, rfl, HO, HB0⟩ := hrel
    clear HBK HB5 hsz
    rename World => wa
    have HB := Lib.hid HB0
    have hza := HB0.size
    clear HB0
    have hba := obj_lt HO.out
    cases gk with
    | succ k1 =>
      obtain ⟨i, hi⟩ : ∃ i, n - (k1 + 1) = i := ⟨_, rfl⟩
      have hi2 : n - k1 = i + 1 := by omega
      have HI := Lib.hid hi2
      have hlt : i < n := by omega
      have hlt' : decide ((i : Int) < (n : Int)) = true := decide_eq_true (by omega)
      rw [hi] at HO ⊢
      have hfz := free_blk HO.out i
      have hcell : wa.cell? ⟨w4.heap.size, i, none⟩ = some (.int .i64 0) := by
        rw [cell_blk HO.out, nums_get _ _ _ (by simp [upTo_length])]
        simp [List.getD, upTo_length, List.getElem?_append_right, List.getElem?_replicate]
      have hset := set_blk HO.out i (.int .i64 (i : Int))
      have hse : (nums .i64 (upTo i ++ List.replicate (k1 + 1) 0)).set i (.int .i64 (i : Int)) = nums .i64 (upTo (i + 1) ++ List.replicate k1 0) := by
        rw [upTo_succ, nums_append, nums_append, nums_append, List.set_append_right _ _ (by rw [nums_length, upTo_length]; omega), nums_length, upTo_length, Nat.sub_self, nums_replicate, nums_replicate, List.replicate_succ, List.set_cons_zero]
        simp [nums]
      rw [hse] at hset
      have HST := Lib.hid hset
      clear hi hi2 hset hse HO
      go_wp2_with fail
      go_roundg k1
      case measure => omega
      case rel =>
        rw [HI.out]
        exact ⟨by omega, rfl, HST, below_set HB.out (by omega) _ _⟩
    | zero =>
      simp only [Nat.sub_zero, List.replicate_zero, List.append_nil] at HO ⊢
      have hlt' : decide ((n : Int) < (n : Int)) = false := decide_eq_false (by omega)
      have HOI := Lib.hid (show Own wa w4.heap.size 3 .i64 (.slice (some ⟨w4.heap.size, 0, none⟩) n n) (upTo n) by
        have h := own_blk HO.out (Nat.le_refl _) (Nat.le_refl n) (by unfold maxLen; omega) (by rw [nums_length, upTo_length])
        rw [List.take_of_length_le (by rw [nums_length, upTo_length]; omega)] at h
        unfold Own
        rw [upTo_length]
        exact h)
      clear HO
      go_wp2_with fail
      have hSt0 := St.init wa w1.heap.size dm w4.heap.size n (upTo n) (upTo_length n) HOI.out.rd.2 hba (by omega)
      obtain ⟨wb, hwb⟩ : ∃ W, (wa.alloc (.cells #[.slice (some ⟨w4.heap.size, 0, none⟩) n n, .int .i64 0, .int .i64 (-1)] 114)).alloc (.cells #[.slice (some ⟨wa.heap.size, 0, none⟩) 1 1] 115) = W := ⟨_, rfl⟩
      rw [hwb] at hSt0 ⊢
      have hbb : Below wa.heap.size wa wb := by rw [← hwb]; exact below_alloc1 (below_alloc1 (Below.refl _ _) _) _
      obtain ⟨bs, hbs⟩ : ∃ x, wa.heap.size + 1 = x := ⟨_, rfl⟩
      rw [hbs] at hSt0 ⊢
      obtain ⟨F, hF⟩ : ∃ F, growF rows dim leaf s dm (upTo n) 0 k = F := ⟨_, rfl⟩
      have hFS := growF_size rows dim s (leaf := leaf) (by omega) dm (upTo n) 0 k (by rw [upTo_length]; omega)
      rw [hF, upTo_length] at hFS
      have hF0 : finJ rows dim leaf s [] [⟨upTo n, dm, none⟩] k = F := by rw [← hF]; rfl
      have HF := Lib.hid hF
      have HFS := Lib.hid hFS
      have HSt0 := Lib.hid hSt0
      have HBB := Lib.hid (HB.out.trans (hbb.mono hza))
      have hb1s : w1.heap.size ≤ bs := by omega
      clear hwb hbb hbs hF hSt0 hFS HB HOI
      go_loopg [11, 14, 15, 16] F.1.length (fun kq v11 v14 v15 v16 w' => ∃ N st k' u, kq + N.length = F.1.length ∧ finJ rows dim leaf s N st k' = F ∧ (∀ j ∈ st, 1 ≤ j.ids.length ∧ j.ids.length ≤ n ∧ j.f ≤ dm ∧ ∀ q, j.up = some q → q < N.length) ∧ St w' w1.heap.size dm bs v11 u N st.reverse ∧ At w' lo hi v s k' ∧ Only (Within lo hi) w1 w')
      case atStart =>
        refine ⟨[], _, k, _, by simp, hF0, fun j hj => ?_, HSt0.out, (HAT.out.only (S := fun _ => False) (Only.of_below HB1.out) fun _ _ _ h => h).only (S := fun _ => False) (Only.of_below HBB.out) fun _ _ _ h => h, Only.of_below HBB.out⟩
        rw [List.mem_singleton] at hj
        subst hj
        exact ⟨by rw [upTo_length]; omega, by rw [upTo_length]; omega, Nat.le_refl _, fun q hq => by simp at hq⟩
      case round =>
        obtain ⟨N, st, k', u, hkq2, hfin, hjs, hst, hat, hon⟩ := hrel
        clear hF0 HSt0 HBB
        rename World => wr
        have hlenJ := finJ_len rows dim s (leaf := leaf) (by omega) st N k' (fun j hj => (hjs j hj).1)
        have hdr := finJ_draws rows dim s (leaf := leaf) (by omega) st N k' (fun j hj => (hjs j hj).1)
        rw [hfin] at hlenJ hdr
        have hFS := HFS.out
        have hzr := hon.size
        obtain ⟨NA, Nc, rfl, hNc⟩ := hst.n.shape
        have HON := Lib.hid hon
        have HATR := Lib.hid hat
        obtain ⟨NN, hNN⟩ : ∃ x, N.length = x := ⟨_, rfl⟩
        have hbsl := obj_lt hst.b
        cases gk with
        | zero =>
          obtain rfl : st = [] := by
            cases st with
            | nil => rfl
            | cons _ _ => simp only [List.length_cons] at hlenJ; omega
          obtain ⟨A, cu, rfl, _⟩ := hst.j.shape
          have hcu : wr.cell? ⟨bs, 0, none⟩ = some (.slice A 0 cu) := by have h := hst.b; simp [World.cell?, h]
          have e1 : treeErr rows.length t leaf dm = 0 := by unfold treeErr; rw [HE.out, HN.out]; simp [hn0]
          have hFN : F = (N, k') := hfin.symm
          have HOW := Lib.hid (hst.n.step (X1 := fun b => (Value.slice NA N.length Nc).ownBlock = some b) (Only.refl (fun _ => False) wr) (fun _ _ h => h) (fun _ _ _ h => h.elim) (fun b hb => .inl (.inl hb)))
          clear hst hon hat
          rw [hNN]
          go_wp2_with fail
          go_ret2
          refine ⟨_, by rw [e1]; rfl, fun h => absurd e1 h, fun _ => ?_⟩
          rw [HN.out, show ((leaf : Int)).toNat = leaf from rfl, show ((dm : Int)).toNat = dm from rfl, HF.out, hFN, ← hNN]
          refine ⟨HOW.out.low (by omega), HATR.out, ?_⟩
          exact ⟨HON.out.os.trans HB1.out.os, HON.out.tape.trans HB1.out.tape, HON.out.output.trans HB1.out.output, by omega, fun q hq hs => (HON.out.block q (by omega) hs).trans (HB1.out.block q hq)⟩
        | succ k1 =>
          cases st with
          | nil =>
            have hFN : F = (N, k') := hfin.symm
            rw [hFN] at hkq2
            simp only at hkq2
            omega
          | cons j st0 =>
            obtain ⟨ids, f, up⟩ := j
            have hj1 := hjs _ (List.mem_cons_self)
            have hjs0 := fun j hj => hjs j (List.mem_cons_of_mem _ hj)
            simp only at hj1
            obtain ⟨hi1, hi2, hi3, hi4⟩ := hj1
            rw [List.reverse_cons] at hst
            obtain ⟨m, hm0⟩ : ∃ m, st0.length = m := ⟨_, rfl⟩
            obtain ⟨A, cu, hu, hcu⟩ := hst.j.shape
            rw [List.length_append, List.length_reverse, List.length_singleton, hm0] at hu hcu
            subst hu
            obtain ⟨g, B, c1, rfl, hm, ha0, ha1, ha2, hli, _⟩ := hst.j.top
            obtain ⟨n1, hn1⟩ : ∃ x, m + 1 = x := ⟨_, rfl⟩
            have hcb : wr.cell? ⟨bs, 0, none⟩ = some (.slice (some ⟨g, 0, none⟩) n1 cu) := by have h := hst.b; rw [← hn1]; simp [World.cell?, h]
            have hfzs : wr.frozen? ⟨bs, 0, none⟩ = false := by have h := hst.b; simp [World.frozen?, h]
            have hw1 : IntKind.i64.wrap ((n1 : Int) - 1) = (m : Int) := by rw [i64_w, wrap64_id _ (by simp only [List.length_cons] at hlenJ; omega)]; omega
            have hlt1 : m < n1 := by omega
            have hlt2 : 0 < n1 := by omega
            obtain ⟨nj, hnj⟩ : ∃ x, ids.length = x := ⟨_, rfl⟩
            obtain ⟨dj, hdj⟩ : ∃ x, dm - f = x := ⟨_, rfl⟩
            have HNJ := Lib.hid hnj
            have HDJ := Lib.hid hdj
            have HM0 := Lib.hid hm0
            rw [hNN] at hli
            have HLI := Lib.hid hli
            have HST := Lib.hid hst
            have HFIN := Lib.hid hfin
            have HJS0 := Lib.hid hjs0
            rw [hnj] at ha0 hi1 hi2
            simp only at ha1 ha2
            rw [hdj] at ha1
            rw [hNN]
            have HN1 := Lib.hid hn1
            have HNN := Lib.hid hNN
            have bpr := HON.out.obj BP1.out (fun h => by have := h.2; omega)
            have hp1 := cell_sa (bs := bs) (show wr.cell? ⟨w.heap.size, 1, none⟩ = some (.int .i64 (leaf : Int)) by simp [World.cell?, bpr]) (by simp only; omega)
            have hp2 := cell_sa (bs := bs) (show wr.cell? ⟨w.heap.size, 2, none⟩ = some (.int .i64 (dm : Int)) by simp [World.cell?, bpr]) (by simp only; omega)
            have BPR := Lib.hid bpr
            clear bpr
            have hmb : st0.length ≤ 1000 := by simp only [List.length_cons] at hlenJ; omega
            have hNNb : NN ≤ 800 := by rw [← hNN]; omega
            have hkb : k' ≤ 500000 := by omega
            have hgA : g < wr.heap.size := by have h := (hst.j.lt g rfl).2; exact h
            have HSTN := Lib.hid (show St wr w1.heap.size dm bs (.slice NA NN Nc) (.slice (some ⟨g, 0, none⟩) (m + 1) cu) N (st0.reverse ++ [⟨ids, f, up⟩]) by rw [← hNN]; exact hst)
            clear hst hon hat hfin hjs hjs0 hm0 hm hnj hdj hli hn1 HE hFS
            cases up with
            | none =>
              rw [show upI none = -1 from rfl] at ha2
              have hstp := (show St _ w1.heap.size dm bs _ _ (setR N none (NN : Int)) _ from HSTN.out.pop)
              have hX : Only (XB (.slice NA NN Nc) (.slice (some ⟨g, 0, none⟩) (m + 1) cu) bs) wr (wr.setCell ⟨bs, 0, none⟩ (.slice (some ⟨g, 0, none⟩) m cu)) := (only_set wr bs 0 _).mono fun _ _ e => .inr (.inr e)
              have hstj := hstp.below (below_alloc1 (Below.refl _ _) (.cells #[.slice B nj c1, .int .i64 (dj : Int), .int .i64 (-1)] 114))
              have hxa := hX.trans (Only.of_below (S := XB (.slice NA NN Nc) (.slice (some ⟨g, 0, none⟩) (m + 1) cu) bs) (below_alloc1 (Below.refl _ _) (.cells #[.slice B nj c1, .int .i64 (dj : Int), .int .i64 (-1)] 114)))
              have honj := HON.out.own hxa (fun b hb h => by have := (HSTN.out.blt b h).1; omega)
              have hatj := HATR.out.only hxa (fun b h1 h2 h => by have := (HSTN.out.blt b h).1; omega)
              have hlij := HLI.out.step hxa (fun b _ _ h => h) (X1 := XB (.slice NA NN Nc) (.slice (some ⟨g, 0, none⟩) m cu) bs) (fun b hb => .inl (by rw [xb_slice _ _ (m + 1) m cu cu]; exact hb))
              have hbxj := heap_alloc_new (wr.setCell ⟨bs, 0, none⟩ (.slice (some ⟨g, 0, none⟩) m cu)) (.cells #[.slice B nj c1, .int .i64 (dj : Int), .int .i64 (-1)] 114)
              have hsz : (wr.setCell ⟨bs, 0, none⟩ (.slice (some ⟨g, 0, none⟩) m cu)).heap.size = wr.heap.size := by simp
              rw [hsz] at hbxj
              have bpj := honj.obj BP1.out (fun h => by have := h.2; omega)
              have hp1 : ((wr.setCell ⟨bs, 0, none⟩ (.slice (some ⟨g, 0, none⟩) m cu)).alloc (.cells #[.slice B nj c1, .int .i64 (dj : Int), .int .i64 (-1)] 114)).cell? ⟨w.heap.size, 1, none⟩ = some (.int .i64 (leaf : Int)) := by simp only [World.cell?, bpj]; rfl
              have hp2 : ((wr.setCell ⟨bs, 0, none⟩ (.slice (some ⟨g, 0, none⟩) m cu)).alloc (.cells #[.slice B nj c1, .int .i64 (dj : Int), .int .i64 (-1)] 114)).cell? ⟨w.heap.size, 2, none⟩ = some (.int .i64 (dm : Int)) := by simp only [World.cell?, bpj]; rfl
              have hXB := HSTN.out.blt
              clear hX hstp bpj hsz hxa
              by_cases hle : nj ≤ leaf
              · have hle' : decide (nj ≤ leaf) = true := decide_eq_true hle
                go_wp2_with fail
                obtain ⟨wj, hwj⟩ : ∃ W, (wr.setCell ⟨bs, 0, none⟩ (.slice (some ⟨g, 0, none⟩) m cu)).alloc (.cells #[.slice B nj c1, .int .i64 (dj : Int), .int .i64 (-1)] 114) = W := ⟨_, rfl⟩
                rw [hwj] at hstj honj hatj hlij hbxj hp1 hp2 ⊢
                have HSTJ := Lib.hid hstj
                have HONJ := Lib.hid honj
                have HATJ := Lib.hid hatj
                have HLJ := Lib.hid hlij
                have BXJ := Lib.hid hbxj
                have hzj1 : w1.heap.size ≤ wj.heap.size := HONJ.out.size
                have hzr2 : wr.heap.size < wj.heap.size := obj_lt hbxj
                clear hwj hstj honj hatj hlij hbxj
                refine (HNJ.out ▸ CloneI_calls B c1 ids wj HLJ.out.2.1 (by rw [HNJ.out]; omega) (by rw [HNJ.out]; omega)).mono ?_
                rintro e w6 ⟨v6, he, ho6, hb6⟩
                subst he
                have ho6s := ho6
                obtain ⟨CA, cc, rfl, hcc, _⟩ := ho6.shape
                rw [HNJ.out] at hcc ⊢
                have hz6 := hb6.size
                have hX6 := HSTJ.out.blt
                have hli6 := (Lies.own (X := XB (.slice NA NN Nc) (.slice (some ⟨g, 0, none⟩) m cu) bs) ho6s hzj1 (fun b hb => (hX6 b hb).2)).step (Only.of_below (S := fun _ => False) (below_alloc1 (Below.refl _ _) (.cells #[.bool true, .slice CA nj cc, .slice none 0 0, .int .i64 0, .int .i64 0, .int .i64 0] 73))) (fun _ _ _ h => h.elim) (fun b hb => .inl hb)
                have hst6 := (HSTJ.out.below hb6).below (below_alloc1 (Below.refl _ _) (.cells #[.bool true, .slice CA nj cc, .slice none 0 0, .int .i64 0, .int .i64 0, .int .i64 0] 73))
                obtain ⟨al, e6, h61, h62⟩ := hst6.n
                have hal : al.length = NN := by have h := congrArg List.length e6; rw [List.length_map, setR_length] at h; rw [h, HNN.out]
                have hnf : nodeF ⟨leafN ids, CA, cc, none, 0⟩ = [.bool true, .slice CA nj cc, .slice none 0 0, .int .i64 0, .int .i64 0, .int .i64 0] := by simp only [nodeF, leafN, HNJ.out]; rfl
                have HST6 := Lib.hid hst6
                have HLI6 := Lib.hid hli6
                have H61 := Lib.hid h61
                have H62 := Lib.hid h62
                have HE6 := Lib.hid e6
                have HNF := Lib.hid hnf
                have HON6 := Lib.hid (HONJ.out.low hb6)
                have HAT6 := Lib.hid (HATJ.out.only (S := fun _ => False) (Only.of_below hb6) fun _ _ _ h => h)
                have hz16 := HON6.out.size
                clear ho6 ho6s hst6 hX6 hli6 e6 h61 h62 hnf hb6
                go_wp2_with (first
                  | (at_builtin; (refine wpList_appF (q := 6) (f := nodeF) _ rfl (.tmp 80) (.tmp 85) 68 73 rfl (.agg #[.bool false, .slice none 0 0, .slice none 0 0, .int .i64 0, .int .i64 0, .int .i64 0]) 80 Try.underlying68 infoN rfl (by omega) (by omega) nodeF_q nodeF_one w1.heap.size (.slice NA NN Nc) al rfl (some ⟨w6.heap.size, 0, none⟩) 1 [⟨leafN ids, CA, cc, none, 0⟩] rfl H61.out w6 ((Below.refl _ _).alloc (by omega) _) (by rw [World.size_alloc]; omega) (by rw [List.flatMap_cons, List.flatMap_nil, List.append_nil, HNF.out]; exact RdC.block (cs := #[.bool true, .slice CA nj cc, .slice none 0 0, .int .i64 0, .int .i64 0, .int .i64 0]) (heap_alloc_new _ _)) (by rw [hal]; simp; omega) ?_; intro v7 w7 hown hgrow hbel hat7 hnil; have HST7 := Lib.hid (HST6.out.appN HE6.out H62.out (a := ⟨leafN ids, CA, cc, none, 0⟩) ⟨HLI6.out, Lies.nil _ _ _ _⟩ hown hgrow hat7); have HB7 := Lib.hid hbel; obtain ⟨A7, c7, hv7, _⟩ := hown.shape; rw [List.length_append, List.length_singleton, hal] at hv7; subst hv7; clear hown hgrow hbel hat7 hnil)))
                go_wp2_with fail
                go_roundg k1
                case measure => omega
                case rel =>
                  refine ⟨setR N none (NN : Int) ++ [leafN ids], st0, k', _, ?_, ?_, fun j hj => ?_, HST7.out, HAT6.out.below HB7.out (by omega), HON6.out.own (X := fun b => w1.heap.size ≤ b) ⟨HB7.out.os, HB7.out.tape, HB7.out.output, HB7.out.size, fun q hq hs => HB7.out.block q (by omega)⟩ (fun b hb h => by omega)⟩
                  · rw [List.length_append, setR_length, List.length_singleton]; omega
                  · have h := HFIN.out
                    rw [finJ_leaf (.inl (by rw [HNJ.out]; exact hle)), HNN.out] at h
                    exact h
                  · obtain ⟨a1, a2, a3, a4⟩ := HJS0.out j hj
                    exact ⟨a1, a2, a3, fun q hq => by rw [List.length_append, setR_length]; have := a4 q hq; omega⟩
              have hle' : decide (nj ≤ leaf) = false := decide_eq_false hle
              cases f with
              | zero =>
                have hdd : dj = dm := by rw [← HDJ.out]; omega
                subst hdd
                go_wp2_with fail
                obtain ⟨wj, hwj⟩ : ∃ W, (wr.setCell ⟨bs, 0, none⟩ (.slice (some ⟨g, 0, none⟩) m cu)).alloc (.cells #[.slice B nj c1, .int .i64 (dj : Int), .int .i64 (-1)] 114) = W := ⟨_, rfl⟩
                rw [hwj] at hstj honj hatj hlij hbxj hp1 hp2 ⊢
                have HSTJ := Lib.hid hstj
                have HONJ := Lib.hid honj
                have HATJ := Lib.hid hatj
                have HLJ := Lib.hid hlij
                have BXJ := Lib.hid hbxj
                have hzj1 : w1.heap.size ≤ wj.heap.size := HONJ.out.size
                have hzr2 : wr.heap.size < wj.heap.size := obj_lt hbxj
                clear hwj hstj honj hatj hlij hbxj
                refine (HNJ.out ▸ CloneI_calls B c1 ids wj HLJ.out.2.1 (by rw [HNJ.out]; omega) (by rw [HNJ.out]; omega)).mono ?_
                rintro e w6 ⟨v6, he, ho6, hb6⟩
                subst he
                have ho6s := ho6
                obtain ⟨CA, cc, rfl, hcc, _⟩ := ho6.shape
                rw [HNJ.out] at hcc ⊢
                have hz6 := hb6.size
                have hX6 := HSTJ.out.blt
                have hli6 := (Lies.own (X := XB (.slice NA NN Nc) (.slice (some ⟨g, 0, none⟩) m cu) bs) ho6s hzj1 (fun b hb => (hX6 b hb).2)).step (Only.of_below (S := fun _ => False) (below_alloc1 (Below.refl _ _) (.cells #[.bool true, .slice CA nj cc, .slice none 0 0, .int .i64 0, .int .i64 0, .int .i64 0] 73))) (fun _ _ _ h => h.elim) (fun b hb => .inl hb)
                have hst6 := (HSTJ.out.below hb6).below (below_alloc1 (Below.refl _ _) (.cells #[.bool true, .slice CA nj cc, .slice none 0 0, .int .i64 0, .int .i64 0, .int .i64 0] 73))
                obtain ⟨al, e6, h61, h62⟩ := hst6.n
                have hal : al.length = NN := by have h := congrArg List.length e6; rw [List.length_map, setR_length] at h; rw [h, HNN.out]
                have hnf : nodeF ⟨leafN ids, CA, cc, none, 0⟩ = [.bool true, .slice CA nj cc, .slice none 0 0, .int .i64 0, .int .i64 0, .int .i64 0] := by simp only [nodeF, leafN, HNJ.out]; rfl
                have HST6 := Lib.hid hst6
                have HLI6 := Lib.hid hli6
                have H61 := Lib.hid h61
                have H62 := Lib.hid h62
                have HE6 := Lib.hid e6
                have HNF := Lib.hid hnf
                have HON6 := Lib.hid (HONJ.out.low hb6)
                have HAT6 := Lib.hid (HATJ.out.only (S := fun _ => False) (Only.of_below hb6) fun _ _ _ h => h)
                have hz16 := HON6.out.size
                clear ho6 ho6s hst6 hX6 hli6 e6 h61 h62 hnf hb6
                go_wp2_with (first
                  | (at_builtin; (refine wpList_appF (q := 6) (f := nodeF) _ rfl (.tmp 80) (.tmp 85) 68 73 rfl (.agg #[.bool false, .slice none 0 0, .slice none 0 0, .int .i64 0, .int .i64 0, .int .i64 0]) 80 Try.underlying68 infoN rfl (by omega) (by omega) nodeF_q nodeF_one w1.heap.size (.slice NA NN Nc) al rfl (some ⟨w6.heap.size, 0, none⟩) 1 [⟨leafN ids, CA, cc, none, 0⟩] rfl H61.out w6 ((Below.refl _ _).alloc (by omega) _) (by rw [World.size_alloc]; omega) (by rw [List.flatMap_cons, List.flatMap_nil, List.append_nil, HNF.out]; exact RdC.block (cs := #[.bool true, .slice CA nj cc, .slice none 0 0, .int .i64 0, .int .i64 0, .int .i64 0]) (heap_alloc_new _ _)) (by rw [hal]; simp; omega) ?_; intro v7 w7 hown hgrow hbel hat7 hnil; have HST7 := Lib.hid (HST6.out.appN HE6.out H62.out (a := ⟨leafN ids, CA, cc, none, 0⟩) ⟨HLI6.out, Lies.nil _ _ _ _⟩ hown hgrow hat7); have HB7 := Lib.hid hbel; obtain ⟨A7, c7, hv7, _⟩ := hown.shape; rw [List.length_append, List.length_singleton, hal] at hv7; subst hv7; clear hown hgrow hbel hat7 hnil)))
                go_wp2_with fail
                go_roundg k1
                case measure => omega
                case rel =>
                  refine ⟨setR N none (NN : Int) ++ [leafN ids], st0, k', _, ?_, ?_, fun j hj => ?_, HST7.out, HAT6.out.below HB7.out (by omega), HON6.out.own (X := fun b => w1.heap.size ≤ b) ⟨HB7.out.os, HB7.out.tape, HB7.out.output, HB7.out.size, fun q hq hs => HB7.out.block q (by omega)⟩ (fun b hb h => by omega)⟩
                  · rw [List.length_append, setR_length, List.length_singleton]; omega
                  · have h := HFIN.out
                    rw [finJ_leaf (.inr rfl), HNN.out] at h
                    exact h
                  · obtain ⟨a1, a2, a3, a4⟩ := HJS0.out j hj
                    exact ⟨a1, a2, a3, fun q hq => by rw [List.length_append, setR_length]; have := a4 q hq; omega⟩
              | succ f' =>
                have hdd : ¬ dj = dm := by rw [← HDJ.out]; omega
                have hdd' : decide (dj = dm) = false := decide_eq_false hdd
                have hkk := hkb
                have hi1' : 2 ≤ nj := by omega
                have hw2 : IntKind.i64.wrap ((dj : Int) + 1) = (dj : Int) + 1 := by rw [i64_w]; have := HDJ.out; exact wrap64_id _ (by omega)
                have hw3 : IntKind.i64.wrap ((NN : Int) + 1) = (NN : Int) + 1 := by rw [i64_w]; exact wrap64_id _ (by omega)
                go_wp2_with fail
                obtain ⟨wj, hwj⟩ : ∃ W, (wr.setCell ⟨bs, 0, none⟩ (.slice (some ⟨g, 0, none⟩) m cu)).alloc (.cells #[.slice B nj c1, .int .i64 (dj : Int), .int .i64 (-1)] 114) = W := ⟨_, rfl⟩
                rw [hwj] at hstj honj hatj hlij hbxj hp1 hp2 ⊢
                have HSTJ := Lib.hid hstj
                have HONJ := Lib.hid honj
                have HATJ := Lib.hid hatj
                have HLJ := Lib.hid hlij
                have BXJ := Lib.hid hbxj
                have hzj1 : w1.heap.size ≤ wj.heap.size := HONJ.out.size
                have hzr2 : wr.heap.size < wj.heap.size := obj_lt hbxj
                clear hwj hstj honj hatj hlij hbxj
                have hitj := (HIT.out.only (S := fun _ => False) (Only.of_below HB1.out) fun _ _ h => h).only HONJ.out HS1.out
                have hblj := fun ad h1 e h => by
                  have h5 := (HLJ.out.2.2 ad h1 e).1
                  have h6 : Within lo hi ad.block := h
                  have := h6.2
                  have : False := by omega
                  exact this
                refine (HNJ.out ▸ Choose_calls b dim rows AI cI B c1 ids lo hi v s k' wj hitj HR.out HLJ.out.2.1 (by have := HLJ.out.1; exact this) (by rw [HNJ.out]; omega) HATJ.out (by omega) HS1.out hblj (by omega)).mono ?_
                rintro e w6 ⟨vn, vl, vr, he, hon1, hol1, hor1, hat6, hon6⟩
                have hC1 := choose_len rows dim ids s k'
                have hC2 := choose_parts rows dim ids s k' (by rw [HNJ.out]; exact hi1')
                have hC3 := choose_tr rows dim ids s k'
                obtain ⟨C, hC⟩ : ∃ C, choose rows dim ids s k' = C := ⟨_, rfl⟩
                rw [hC] at he hon1 hol1 hor1 hat6 hC1 hC2 hC3
                subst he
                have HC := Lib.hid hC
                have hz6 := hon6.size
                have HSTc := Lib.hid (HSTJ.out.only hon6 fun b h1 _ h => by have := h.2; omega)
                have HONc := Lib.hid (HONJ.out.trans hon6)
                have HATc := Lib.hid hat6
                have BXc := Lib.hid (hon6.obj BXJ.out fun h => by have := h.2; omega)
                have hXj := HSTJ.out.blt
                obtain ⟨An, cn, rfl, _, _⟩ := hon1.shape
                obtain ⟨Al, cl, rfl, _, _⟩ := hol1.shape
                obtain ⟨Ar, cr, rfl, _, _⟩ := hor1.shape
                have HLN := Lib.hid (Lies.own (X := XB (.slice NA NN Nc) (.slice (some ⟨g, 0, none⟩) m cu) bs) hon1 hzj1 fun b hb => (hXj b hb).2)
                have HLL := Lib.hid (Lies.own (X := XB (.slice NA NN Nc) (.slice (some ⟨g, 0, none⟩) m cu) bs) hol1 hzj1 fun b hb => (hXj b hb).2)
                have HLR := Lib.hid (Lies.own (X := XB (.slice NA NN Nc) (.slice (some ⟨g, 0, none⟩) m cu) bs) hor1 hzj1 fun b hb => (hXj b hb).2)
                obtain ⟨nn, hnn⟩ : ∃ x, C.ns.length = x := ⟨_, rfl⟩
                obtain ⟨oo, hoo⟩ : ∃ x, C.off = x := ⟨_, rfl⟩
                obtain ⟨nl, hnl⟩ : ∃ x, C.left.length = x := ⟨_, rfl⟩
                obtain ⟨nr, hnr⟩ : ∃ x, C.right.length = x := ⟨_, rfl⟩
                obtain ⟨tt, htt⟩ : ∃ x, C.tries = x := ⟨_, rfl⟩
                rw [hnl, hnr] at hC1 hC2
                rw [HNJ.out] at hC1
                rw [htt] at hC3
                rw [hnn, hoo, hnl, hnr, htt]
                have ENN := Lib.hid hnn
                have EOO := Lib.hid hoo
                have ENL := Lib.hid hnl
                have ENR := Lib.hid hnr
                have ETT := Lib.hid htt
                clear hon1 hol1 hor1 hat6 hon6 hnn hoo hnl hnr htt hC hitj hblj hXj
                have hb68 : Below w6.heap.size w6 ((w6.alloc (.cells #[.slice An nn cn, .int .i64 oo, .slice Al nl cl, .slice Ar nr cr, .int .i64 tt] 42)).alloc (.cells #[.bool false, .slice none 0 0, .slice An nn cn, .int .i64 oo, .int .i64 ((NN : Int) + 1), .int .i64 0] 73)) := below_alloc1 (below_alloc1 (Below.refl _ _) _) _
                have bxc8 : ((w6.alloc (.cells #[.slice An nn cn, .int .i64 oo, .slice Al nl cl, .slice Ar nr cr, .int .i64 tt] 42)).alloc (.cells #[.bool false, .slice none 0 0, .slice An nn cn, .int .i64 oo, .int .i64 ((NN : Int) + 1), .int .i64 0] 73)).heap[w6.heap.size]? = some (.cells #[.slice An nn cn, .int .i64 oo, .slice Al nl cl, .slice Ar nr cr, .int .i64 tt] 42 (0, 0)) := obj_below (below_alloc1 (Below.refl _ _) _) (heap_alloc_new w6 (.cells #[.slice An nn cn, .int .i64 oo, .slice Al nl cl, .slice Ar nr cr, .int .i64 tt] 42)) (obj_lt (heap_alloc_new w6 (.cells #[.slice An nn cn, .int .i64 oo, .slice Al nl cl, .slice Ar nr cr, .int .i64 tt] 42)))
                have bxj8 := obj_below hb68 BXc.out (obj_lt BXc.out)
                have hst8 := HSTc.out.below hb68
                have hX8 := HSTc.out.blt
                have hzc := HONc.out.size
                have hlt6 : wr.heap.size < w6.heap.size := obj_lt BXc.out
                obtain ⟨al, e8, h81, h82⟩ := hst8.n
                have hal : al.length = NN := by have h := congrArg List.length e8; rw [List.length_map, setR_length] at h; rw [h, HNN.out]
                have hnf : nodeF ⟨⟨false, [], C.ns, C.off, ((N.length + 1 : Nat) : Int), 0⟩, none, 0, An, cn⟩ = [.bool false, .slice none 0 0, .slice An nn cn, .int .i64 oo, .int .i64 ((NN : Int) + 1), .int .i64 0] := by simp only [nodeF, ENN.out, EOO.out, HNN.out, List.length_nil, Int.natCast_succ]
                have hvr : ∀ b, (Value.ownBlock (.slice NA NN Nc)) = some b → b < wr.heap.size := fun b h => by
                  have h := (HSTN.out.n.lt b h).2
                  exact h
                have HST8 := Lib.hid hst8
                have H81 := Lib.hid h81
                have H82 := Lib.hid h82
                have HE8 := Lib.hid e8
                have HNF := Lib.hid hnf
                have HB68 := Lib.hid hb68
                have BXC8 := Lib.hid bxc8
                have BXJ8 := Lib.hid bxj8
                have HVR := Lib.hid hvr
                have HLN8 := Lib.hid (HLN.out.step (Only.of_below (S := fun _ => False) hb68) (fun _ _ _ h => h.elim) (X1 := XB (.slice NA NN Nc) (.slice (some ⟨g, 0, none⟩) m cu) bs) (fun b hb => .inl hb))
                have HX8 := Lib.hid hX8
                clear hst8 h81 h82 e8 hnf hb68 bxc8 bxj8 hvr hX8
                go_wp2_with (first
                  | (at_builtin; refine wpList_appF (q := 6) (f := nodeF) _ rfl (.tmp 92) (.tmp 98) 68 73 rfl (.agg #[.bool false, .slice none 0 0, .slice none 0 0, .int .i64 0, .int .i64 0, .int .i64 0]) 80 Try.underlying68 infoN rfl (by omega) (by omega) nodeF_q nodeF_one w1.heap.size (.slice NA NN Nc) al rfl (some ⟨w6.heap.size + 1, 0, none⟩) 1 [⟨⟨false, [], C.ns, C.off, ((N.length + 1 : Nat) : Int), 0⟩, none, 0, An, cn⟩] rfl H81.out w6 (HB68.out.mono (by omega)) (by rw [World.size_alloc, World.size_alloc]; omega) (by rw [List.flatMap_cons, List.flatMap_nil, List.append_nil, HNF.out]; exact RdC.block (cs := #[.bool false, .slice none 0 0, .slice An nn cn, .int .i64 oo, .int .i64 ((NN : Int) + 1), .int .i64 0]) (by have h := heap_alloc_new (w6.alloc (.cells #[.slice An nn cn, .int .i64 oo, .slice Al nl cl, .slice Ar nr cr, .int .i64 tt] 42)) (.cells #[.bool false, .slice none 0 0, .slice An nn cn, .int .i64 oo, .int .i64 ((NN : Int) + 1), .int .i64 0] 73); rwa [World.size_alloc] at h)) (by rw [hal]; simp; omega) ?_; intro v9 w9 hown hgrow hbel hat9 hnil; have HST9 := Lib.hid (HST8.out.appN HE8.out H82.out (a := ⟨⟨false, [], C.ns, C.off, ((N.length + 1 : Nat) : Int), 0⟩, none, 0, An, cn⟩) ⟨Lies.nil _ _ _ _, HLN8.out⟩ hown hgrow hat9); have HB9 := Lib.hid hbel; have HG9 := Lib.hid hgrow; have BXC9 := Lib.hid (hgrow.obj BXC8.out (fun h => by have := HVR.out _ h; omega)); have BXJ9 := Lib.hid (hgrow.obj BXJ8.out (fun h => by have := HVR.out _ h; omega)); have HAT9 := Lib.hid hat9; obtain ⟨A9, c9, hv9, _⟩ := hown.shape; rw [List.length_append, List.length_singleton, hal] at hv9; subst hv9; have hj90 : w9.cell? ⟨wr.heap.size, 1, none⟩ = some (.int .i64 (dj : Int)) := (by have h := BXJ9.out; simp [World.cell?, h]); have hc91 : w9.cell? ⟨w6.heap.size, 3, none⟩ = some (.slice Ar nr cr) := (by have h := BXC9.out; simp [World.cell?, h]); clear hown hgrow hbel hat9 hnil))
                have hdf : ((dm - f' : Nat) : Int) = (dj : Int) + 1 := by have := HDJ.out; omega
                have hsz8 : ∀ o1 o2, ((w6.alloc o1).alloc o2).heap.size = w6.heap.size + 1 + 1 := fun o1 o2 => by rw [World.size_alloc, World.size_alloc]
                have hn9 : ∀ b, (Value.slice A9 (NN + 1) c9).ownBlock = some b → (Value.ownBlock (.slice NA NN Nc)) = some b ∨ w6.heap.size + 2 ≤ b := fun b hb => by
                  rcases HAT9.out with h | h
                  · exact .inl (by rw [← h]; exact hb)
                  · rw [h, hsz8] at hb; injection hb with hb; exact .inr (by omega)
                have hx69 : Only (XB (.slice NA NN Nc) (.slice (some ⟨g, 0, none⟩) m cu) bs) w6 w9 := (Only.of_below HB68.out).trans (HG9.out.mono fun b _ h => .inl h)
                have hnx : ∀ b, XB (.slice A9 (NN + 1) c9) (.slice (some ⟨g, 0, none⟩) m cu) bs b → b < wr.heap.size ∨ w6.heap.size + 2 ≤ b := fun b hb => by
                  rcases hb with hb | hb | hb
                  · rcases hn9 b hb with h | h
                    · exact .inl (HVR.out b h)
                    · exact .inr h
                  · have : g = b := by have h : (Value.slice (some ⟨g, 0, none⟩) m cu).ownBlock = some g := rfl
                                       rw [h] at hb; injection hb
                    exact .inl (by omega)
                  · exact .inl (by omega)
                have hxx : ∀ b, XB (.slice A9 (NN + 1) c9) (.slice (some ⟨g, 0, none⟩) m cu) bs b → XB (.slice NA NN Nc) (.slice (some ⟨g, 0, none⟩) m cu) bs b ∨ w6.heap.size ≤ b := fun b hb => by
                  rcases hb with hb | hb | hb
                  · rcases hn9 b hb with h | h
                    · exact .inl (.inl h)
                    · exact .inr (by omega)
                  · exact .inl (.inr (.inl hb))
                  · exact .inl (.inr (.inr hb))
                have HLR9 := Lib.hid (HLR.out.step hx69 (fun b _ _ h => h) hxx)
                have HLL9 := Lib.hid (HLL.out.step hx69 (fun b _ _ h => h) hxx)
                have HNX := Lib.hid hnx
                have hst0 : st0.length ≤ 1000 := hmb
                have hpr := push_calls w9 w1.heap.size dm bs _ _ _ _ Ar cr ⟨C.right, f', some N.length⟩ HST9.out HLR9.out (by rw [List.length_reverse]; omega)
                simp only [ENR.out, hdf, upI, HNN.out] at hpr
                have hz69 := HB9.out.size
                clear hn9 hx69 hnx hxx hsz8
                go_wp2_with fail
                refine hpr.mono ?_
                rintro e w10 ⟨he, ⟨u10', hst10, hu10⟩, hx10⟩
                subst he
                have hb10 := HST9.out.blt
                have BXC10 := Lib.hid (hx10.obj BXC9.out fun h => by have := HNX.out _ h; omega)
                have BXJ10 := Lib.hid (hx10.obj BXJ9.out fun h => by have := HNX.out _ h; omega)
                have hj100 : w10.cell? ⟨wr.heap.size, 1, none⟩ = some (.int .i64 (dj : Int)) := by have h := BXJ10.out; simp [World.cell?, h]
                have hc101 : w10.cell? ⟨w6.heap.size, 2, none⟩ = some (.slice Al nl cl) := by have h := BXC10.out; simp [World.cell?, h]
                have HLL10 := Lib.hid (HLL9.out.step hx10 (fun b _ _ h => h) (X1 := XB (.slice A9 (NN + 1) c9) u10' bs) fun b hb => by
                  rcases hb with hb | hb | hb
                  · exact .inl (.inl hb)
                  · rcases hu10 b hb with h | h
                    · exact .inl (.inr (.inl h))
                    · exact .inr h
                  · exact .inl (.inr (.inr hb)))
                have hpl := push_calls w10 w1.heap.size dm bs _ _ _ _ Al cl ⟨C.left, f', none⟩ hst10 HLL10.out (by rw [List.length_append, List.length_reverse, List.length_singleton]; omega)
                simp only [ENL.out, hdf, upI] at hpl
                have HONr := Lib.hid ((HONc.out.own (X := fun b => w1.heap.size ≤ b) ⟨HB9.out.os, HB9.out.tape, HB9.out.output, HB9.out.size, fun q hq hs => HB9.out.block q (by omega)⟩ (fun b hb h => by omega)).own hx10 (fun b hb h => by have := (hb10 b h).1; omega))
                have HATr := Lib.hid ((HATc.out.below HB9.out (by omega)).only hx10 (fun b h1 h2 h => by have := (hb10 b h).1; omega))
                have HSTr := Lib.hid hst10
                clear hpr hst10 hu10 hx10 hb10
                go_wp2_with fail
                refine hpl.mono ?_
                rintro e w11 ⟨he, ⟨u11', hst11, _⟩, hx11⟩
                subst he
                have hb11 := HSTr.out.blt
                have HSTz := Lib.hid hst11
                have HONz := Lib.hid (HONr.out.own hx11 (fun b hb h => by have := (hb11 b h).1; omega))
                have HATz := Lib.hid (HATr.out.only hx11 (fun b h1 h2 h => by have := (hb11 b h).1; omega))
                clear hpl hst11 hx11 hb11
                go_wp2_with fail
                go_roundg k1
                case measure => omega
                case rel =>
                  refine ⟨setR N none (NN : Int) ++ [⟨false, [], C.ns, C.off, ((N.length + 1 : Nat) : Int), 0⟩], ⟨C.left, f', none⟩ :: ⟨C.right, f', some N.length⟩ :: st0, k' + 2 * C.tries, u11', ?_, ?_, fun j hj => ?_, ?_, HATz.out, HONz.out⟩
                  · rw [List.length_append, setR_length, List.length_singleton]; omega
                  · have h := HFIN.out
                    rw [finJ_split (by rw [HNJ.out]; omega) HC.out, HNN.out] at h
                    rw [HNN.out]
                    exact h
                  · rcases List.mem_cons.1 hj with hj | hj
                    · subst hj
                      exact ⟨by simp only [ENL.out]; omega, by simp only [ENL.out]; omega, by simp only; omega, fun q hq => by simp at hq⟩
                    · rcases List.mem_cons.1 hj with hj | hj
                      · subst hj
                        exact ⟨by simp only [ENR.out]; omega, by simp only [ENR.out]; omega, by simp only; omega, fun q hq => by simp at hq; rw [List.length_append, setR_length, List.length_singleton]; omega⟩
                      · obtain ⟨a1, a2, a3, a4⟩ := HJS0.out j hj
                        exact ⟨a1, a2, a3, fun q hq => by rw [List.length_append, setR_length]; have := a4 q hq; omega⟩
                  · rw [List.reverse_cons, List.reverse_cons, HNN.out]
                    exact HSTz.out
            | some q =>
              have hq := hi4 q rfl
              rw [show upI (some q) = (q : Int) from rfl] at ha2
              rw [HNN.out] at hq
              obtain ⟨gN, xN, _, _, _, _, eA, _, hgN1, hgN2, hfzN, _, _, _, _, _, hcN, _⟩ := HSTN.out.n.at_ q hq
              subst eA
              have hNb : gN ≠ bs := fun e => HSTN.out.vb (by rw [e]; rfl)
              have hc5 := cell_sa (bs := bs) hcN hNb
              have hf5 := frozen_sa (bs := bs) (w := wr) (a := ⟨gN, q * 6 + 5, none⟩) (hfzN _) hgN2 hNb
              have hstp := HSTN.out.pop.right hq (NN : Int)
              have hX : Only (XB (.slice (some ⟨gN, 0, none⟩) NN Nc) (.slice (some ⟨g, 0, none⟩) (m + 1) cu) bs) wr ((wr.setCell ⟨bs, 0, none⟩ (.slice (some ⟨g, 0, none⟩) m cu)).setCell ⟨gN, q * 6 + 5, none⟩ (.int .i64 (NN : Int))) := ((only_set wr bs 0 _).mono fun _ _ e => .inr (.inr e)).trans ((only_set _ gN _ _).mono fun _ _ e => .inl (by rw [e]; rfl))
              have hstj := hstp.below (below_alloc1 (Below.refl _ _) (.cells #[.slice B nj c1, .int .i64 (dj : Int), .int .i64 (q : Int)] 114))
              have hxa := hX.trans (Only.of_below (S := XB (.slice (some ⟨gN, 0, none⟩) NN Nc) (.slice (some ⟨g, 0, none⟩) (m + 1) cu) bs) (below_alloc1 (Below.refl _ _) (.cells #[.slice B nj c1, .int .i64 (dj : Int), .int .i64 (q : Int)] 114)))
              have honj := HON.out.own hxa (fun b hb h => by have := (HSTN.out.blt b h).1; omega)
              have hatj := HATR.out.only hxa (fun b h1 h2 h => by have := (HSTN.out.blt b h).1; omega)
              have hlij := HLI.out.step hxa (fun b _ _ h => h) (X1 := XB (.slice (some ⟨gN, 0, none⟩) NN Nc) (.slice (some ⟨g, 0, none⟩) m cu) bs) (fun b hb => .inl (by rw [xb_slice _ _ (m + 1) m cu cu]; exact hb))
              have hbxj := heap_alloc_new ((wr.setCell ⟨bs, 0, none⟩ (.slice (some ⟨g, 0, none⟩) m cu)).setCell ⟨gN, q * 6 + 5, none⟩ (.int .i64 (NN : Int))) (.cells #[.slice B nj c1, .int .i64 (dj : Int), .int .i64 (q : Int)] 114)
              have hsz : ((wr.setCell ⟨bs, 0, none⟩ (.slice (some ⟨g, 0, none⟩) m cu)).setCell ⟨gN, q * 6 + 5, none⟩ (.int .i64 (NN : Int))).heap.size = wr.heap.size := by simp
              rw [hsz] at hbxj
              have bpj := honj.obj BP1.out (fun h => by have := h.2; omega)
              have hp1 : (((wr.setCell ⟨bs, 0, none⟩ (.slice (some ⟨g, 0, none⟩) m cu)).setCell ⟨gN, q * 6 + 5, none⟩ (.int .i64 (NN : Int))).alloc (.cells #[.slice B nj c1, .int .i64 (dj : Int), .int .i64 (q : Int)] 114)).cell? ⟨w.heap.size, 1, none⟩ = some (.int .i64 (leaf : Int)) := by simp only [World.cell?, bpj]; rfl
              have hp2 : (((wr.setCell ⟨bs, 0, none⟩ (.slice (some ⟨g, 0, none⟩) m cu)).setCell ⟨gN, q * 6 + 5, none⟩ (.int .i64 (NN : Int))).alloc (.cells #[.slice B nj c1, .int .i64 (dj : Int), .int .i64 (q : Int)] 114)).cell? ⟨w.heap.size, 2, none⟩ = some (.int .i64 (dm : Int)) := by simp only [World.cell?, bpj]; rfl
              have hXB := HSTN.out.blt
              clear hX hstp bpj hsz hxa
              by_cases hle : nj ≤ leaf
              · have hle' : decide (nj ≤ leaf) = true := decide_eq_true hle
                go_wp2_with fail
                obtain ⟨wj, hwj⟩ : ∃ W, ((wr.setCell ⟨bs, 0, none⟩ (.slice (some ⟨g, 0, none⟩) m cu)).setCell ⟨gN, q * 6 + 5, none⟩ (.int .i64 (NN : Int))).alloc (.cells #[.slice B nj c1, .int .i64 (dj : Int), .int .i64 (q : Int)] 114) = W := ⟨_, rfl⟩
                rw [hwj] at hstj honj hatj hlij hbxj hp1 hp2 ⊢
                have HSTJ := Lib.hid hstj
                have HONJ := Lib.hid honj
                have HATJ := Lib.hid hatj
                have HLJ := Lib.hid hlij
                have BXJ := Lib.hid hbxj
                have hzj1 : w1.heap.size ≤ wj.heap.size := HONJ.out.size
                have hzr2 : wr.heap.size < wj.heap.size := obj_lt hbxj
                clear hwj hstj honj hatj hlij hbxj
                refine (HNJ.out ▸ CloneI_calls B c1 ids wj HLJ.out.2.1 (by rw [HNJ.out]; omega) (by rw [HNJ.out]; omega)).mono ?_
                rintro e w6 ⟨v6, he, ho6, hb6⟩
                subst he
                have ho6s := ho6
                obtain ⟨CA, cc, rfl, hcc, _⟩ := ho6.shape
                rw [HNJ.out] at hcc ⊢
                have hz6 := hb6.size
                have hX6 := HSTJ.out.blt
                have hli6 := (Lies.own (X := XB (.slice (some ⟨gN, 0, none⟩) NN Nc) (.slice (some ⟨g, 0, none⟩) m cu) bs) ho6s hzj1 (fun b hb => (hX6 b hb).2)).step (Only.of_below (S := fun _ => False) (below_alloc1 (Below.refl _ _) (.cells #[.bool true, .slice CA nj cc, .slice none 0 0, .int .i64 0, .int .i64 0, .int .i64 0] 73))) (fun _ _ _ h => h.elim) (fun b hb => .inl hb)
                have hst6 := (HSTJ.out.below hb6).below (below_alloc1 (Below.refl _ _) (.cells #[.bool true, .slice CA nj cc, .slice none 0 0, .int .i64 0, .int .i64 0, .int .i64 0] 73))
                obtain ⟨al, e6, h61, h62⟩ := hst6.n
                have hal : al.length = NN := by have h := congrArg List.length e6; rw [List.length_map, setR_length] at h; rw [h, HNN.out]
                have hnf : nodeF ⟨leafN ids, CA, cc, none, 0⟩ = [.bool true, .slice CA nj cc, .slice none 0 0, .int .i64 0, .int .i64 0, .int .i64 0] := by simp only [nodeF, leafN, HNJ.out]; rfl
                have HST6 := Lib.hid hst6
                have HLI6 := Lib.hid hli6
                have H61 := Lib.hid h61
                have H62 := Lib.hid h62
                have HE6 := Lib.hid e6
                have HNF := Lib.hid hnf
                have HON6 := Lib.hid (HONJ.out.low hb6)
                have HAT6 := Lib.hid (HATJ.out.only (S := fun _ => False) (Only.of_below hb6) fun _ _ _ h => h)
                have hz16 := HON6.out.size
                clear ho6 ho6s hst6 hX6 hli6 e6 h61 h62 hnf hb6
                go_wp2_with (first
                  | (at_builtin; (refine wpList_appF (q := 6) (f := nodeF) _ rfl (.tmp 80) (.tmp 85) 68 73 rfl (.agg #[.bool false, .slice none 0 0, .slice none 0 0, .int .i64 0, .int .i64 0, .int .i64 0]) 80 Try.underlying68 infoN rfl (by omega) (by omega) nodeF_q nodeF_one w1.heap.size (.slice (some ⟨gN, 0, none⟩) NN Nc) al rfl (some ⟨w6.heap.size, 0, none⟩) 1 [⟨leafN ids, CA, cc, none, 0⟩] rfl H61.out w6 ((Below.refl _ _).alloc (by omega) _) (by rw [World.size_alloc]; omega) (by rw [List.flatMap_cons, List.flatMap_nil, List.append_nil, HNF.out]; exact RdC.block (cs := #[.bool true, .slice CA nj cc, .slice none 0 0, .int .i64 0, .int .i64 0, .int .i64 0]) (heap_alloc_new _ _)) (by rw [hal]; simp; omega) ?_; intro v7 w7 hown hgrow hbel hat7 hnil; have HST7 := Lib.hid (HST6.out.appN HE6.out H62.out (a := ⟨leafN ids, CA, cc, none, 0⟩) ⟨HLI6.out, Lies.nil _ _ _ _⟩ hown hgrow hat7); have HB7 := Lib.hid hbel; obtain ⟨A7, c7, hv7, _⟩ := hown.shape; rw [List.length_append, List.length_singleton, hal] at hv7; subst hv7; clear hown hgrow hbel hat7 hnil)))
                go_wp2_with fail
                go_roundg k1
                case measure => omega
                case rel =>
                  refine ⟨setR N (some q) (NN : Int) ++ [leafN ids], st0, k', _, ?_, ?_, fun j hj => ?_, HST7.out, HAT6.out.below HB7.out (by omega), HON6.out.own (X := fun b => w1.heap.size ≤ b) ⟨HB7.out.os, HB7.out.tape, HB7.out.output, HB7.out.size, fun q hq hs => HB7.out.block q (by omega)⟩ (fun b hb h => by omega)⟩
                  · rw [List.length_append, setR_length, List.length_singleton]; omega
                  · have h := HFIN.out
                    rw [finJ_leaf (.inl (by rw [HNJ.out]; exact hle)), HNN.out] at h
                    exact h
                  · obtain ⟨a1, a2, a3, a4⟩ := HJS0.out j hj
                    exact ⟨a1, a2, a3, fun q hq => by rw [List.length_append, setR_length]; have := a4 q hq; omega⟩
              have hle' : decide (nj ≤ leaf) = false := decide_eq_false hle
              cases f with
              | zero =>
                have hdd : dj = dm := by rw [← HDJ.out]; omega
                subst hdd
                go_wp2_with fail
                obtain ⟨wj, hwj⟩ : ∃ W, ((wr.setCell ⟨bs, 0, none⟩ (.slice (some ⟨g, 0, none⟩) m cu)).setCell ⟨gN, q * 6 + 5, none⟩ (.int .i64 (NN : Int))).alloc (.cells #[.slice B nj c1, .int .i64 (dj : Int), .int .i64 (q : Int)] 114) = W := ⟨_, rfl⟩
                rw [hwj] at hstj honj hatj hlij hbxj hp1 hp2 ⊢
                have HSTJ := Lib.hid hstj
                have HONJ := Lib.hid honj
                have HATJ := Lib.hid hatj
                have HLJ := Lib.hid hlij
                have BXJ := Lib.hid hbxj
                have hzj1 : w1.heap.size ≤ wj.heap.size := HONJ.out.size
                have hzr2 : wr.heap.size < wj.heap.size := obj_lt hbxj
                clear hwj hstj honj hatj hlij hbxj
                refine (HNJ.out ▸ CloneI_calls B c1 ids wj HLJ.out.2.1 (by rw [HNJ.out]; omega) (by rw [HNJ.out]; omega)).mono ?_
                rintro e w6 ⟨v6, he, ho6, hb6⟩
                subst he
                have ho6s := ho6
                obtain ⟨CA, cc, rfl, hcc, _⟩ := ho6.shape
                rw [HNJ.out] at hcc ⊢
                have hz6 := hb6.size
                have hX6 := HSTJ.out.blt
                have hli6 := (Lies.own (X := XB (.slice (some ⟨gN, 0, none⟩) NN Nc) (.slice (some ⟨g, 0, none⟩) m cu) bs) ho6s hzj1 (fun b hb => (hX6 b hb).2)).step (Only.of_below (S := fun _ => False) (below_alloc1 (Below.refl _ _) (.cells #[.bool true, .slice CA nj cc, .slice none 0 0, .int .i64 0, .int .i64 0, .int .i64 0] 73))) (fun _ _ _ h => h.elim) (fun b hb => .inl hb)
                have hst6 := (HSTJ.out.below hb6).below (below_alloc1 (Below.refl _ _) (.cells #[.bool true, .slice CA nj cc, .slice none 0 0, .int .i64 0, .int .i64 0, .int .i64 0] 73))
                obtain ⟨al, e6, h61, h62⟩ := hst6.n
                have hal : al.length = NN := by have h := congrArg List.length e6; rw [List.length_map, setR_length] at h; rw [h, HNN.out]
                have hnf : nodeF ⟨leafN ids, CA, cc, none, 0⟩ = [.bool true, .slice CA nj cc, .slice none 0 0, .int .i64 0, .int .i64 0, .int .i64 0] := by simp only [nodeF, leafN, HNJ.out]; rfl
                have HST6 := Lib.hid hst6
                have HLI6 := Lib.hid hli6
                have H61 := Lib.hid h61
                have H62 := Lib.hid h62
                have HE6 := Lib.hid e6
                have HNF := Lib.hid hnf
                have HON6 := Lib.hid (HONJ.out.low hb6)
                have HAT6 := Lib.hid (HATJ.out.only (S := fun _ => False) (Only.of_below hb6) fun _ _ _ h => h)
                have hz16 := HON6.out.size
                clear ho6 ho6s hst6 hX6 hli6 e6 h61 h62 hnf hb6
                go_wp2_with (first
                  | (at_builtin; (refine wpList_appF (q := 6) (f := nodeF) _ rfl (.tmp 80) (.tmp 85) 68 73 rfl (.agg #[.bool false, .slice none 0 0, .slice none 0 0, .int .i64 0, .int .i64 0, .int .i64 0]) 80 Try.underlying68 infoN rfl (by omega) (by omega) nodeF_q nodeF_one w1.heap.size (.slice (some ⟨gN, 0, none⟩) NN Nc) al rfl (some ⟨w6.heap.size, 0, none⟩) 1 [⟨leafN ids, CA, cc, none, 0⟩] rfl H61.out w6 ((Below.refl _ _).alloc (by omega) _) (by rw [World.size_alloc]; omega) (by rw [List.flatMap_cons, List.flatMap_nil, List.append_nil, HNF.out]; exact RdC.block (cs := #[.bool true, .slice CA nj cc, .slice none 0 0, .int .i64 0, .int .i64 0, .int .i64 0]) (heap_alloc_new _ _)) (by rw [hal]; simp; omega) ?_; intro v7 w7 hown hgrow hbel hat7 hnil; have HST7 := Lib.hid (HST6.out.appN HE6.out H62.out (a := ⟨leafN ids, CA, cc, none, 0⟩) ⟨HLI6.out, Lies.nil _ _ _ _⟩ hown hgrow hat7); have HB7 := Lib.hid hbel; obtain ⟨A7, c7, hv7, _⟩ := hown.shape; rw [List.length_append, List.length_singleton, hal] at hv7; subst hv7; clear hown hgrow hbel hat7 hnil)))
                go_wp2_with fail
                go_roundg k1
                case measure => omega
                case rel =>
                  refine ⟨setR N (some q) (NN : Int) ++ [leafN ids], st0, k', _, ?_, ?_, fun j hj => ?_, HST7.out, HAT6.out.below HB7.out (by omega), HON6.out.own (X := fun b => w1.heap.size ≤ b) ⟨HB7.out.os, HB7.out.tape, HB7.out.output, HB7.out.size, fun q hq hs => HB7.out.block q (by omega)⟩ (fun b hb h => by omega)⟩
                  · rw [List.length_append, setR_length, List.length_singleton]; omega
                  · have h := HFIN.out
                    rw [finJ_leaf (.inr rfl), HNN.out] at h
                    exact h
                  · obtain ⟨a1, a2, a3, a4⟩ := HJS0.out j hj
                    exact ⟨a1, a2, a3, fun q hq => by rw [List.length_append, setR_length]; have := a4 q hq; omega⟩
              | succ f' =>
                have hdd : ¬ dj = dm := by rw [← HDJ.out]; omega
                have hdd' : decide (dj = dm) = false := decide_eq_false hdd
                have hkk := hkb
                have hi1' : 2 ≤ nj := by omega
                have hw2 : IntKind.i64.wrap ((dj : Int) + 1) = (dj : Int) + 1 := by rw [i64_w]; have := HDJ.out; exact wrap64_id _ (by omega)
                have hw3 : IntKind.i64.wrap ((NN : Int) + 1) = (NN : Int) + 1 := by rw [i64_w]; exact wrap64_id _ (by omega)
                go_wp2_with fail
                obtain ⟨wj, hwj⟩ : ∃ W, ((wr.setCell ⟨bs, 0, none⟩ (.slice (some ⟨g, 0, none⟩) m cu)).setCell ⟨gN, q * 6 + 5, none⟩ (.int .i64 (NN : Int))).alloc (.cells #[.slice B nj c1, .int .i64 (dj : Int), .int .i64 (q : Int)] 114) = W := ⟨_, rfl⟩
                rw [hwj] at hstj honj hatj hlij hbxj hp1 hp2 ⊢
                have HSTJ := Lib.hid hstj
                have HONJ := Lib.hid honj
                have HATJ := Lib.hid hatj
                have HLJ := Lib.hid hlij
                have BXJ := Lib.hid hbxj
                have hzj1 : w1.heap.size ≤ wj.heap.size := HONJ.out.size
                have hzr2 : wr.heap.size < wj.heap.size := obj_lt hbxj
                clear hwj hstj honj hatj hlij hbxj
                have hitj := (HIT.out.only (S := fun _ => False) (Only.of_below HB1.out) fun _ _ h => h).only HONJ.out HS1.out
                have hblj := fun ad h1 e h => by
                  have h5 := (HLJ.out.2.2 ad h1 e).1
                  have h6 : Within lo hi ad.block := h
                  have := h6.2
                  have : False := by omega
                  exact this
                refine (HNJ.out ▸ Choose_calls b dim rows AI cI B c1 ids lo hi v s k' wj hitj HR.out HLJ.out.2.1 (by have := HLJ.out.1; exact this) (by rw [HNJ.out]; omega) HATJ.out (by omega) HS1.out hblj (by omega)).mono ?_
                rintro e w6 ⟨vn, vl, vr, he, hon1, hol1, hor1, hat6, hon6⟩
                have hC1 := choose_len rows dim ids s k'
                have hC2 := choose_parts rows dim ids s k' (by rw [HNJ.out]; exact hi1')
                have hC3 := choose_tr rows dim ids s k'
                obtain ⟨C, hC⟩ : ∃ C, choose rows dim ids s k' = C := ⟨_, rfl⟩
                rw [hC] at he hon1 hol1 hor1 hat6 hC1 hC2 hC3
                subst he
                have HC := Lib.hid hC
                have hz6 := hon6.size
                have HSTc := Lib.hid (HSTJ.out.only hon6 fun b h1 _ h => by have := h.2; omega)
                have HONc := Lib.hid (HONJ.out.trans hon6)
                have HATc := Lib.hid hat6
                have BXc := Lib.hid (hon6.obj BXJ.out fun h => by have := h.2; omega)
                have hXj := HSTJ.out.blt
                obtain ⟨An, cn, rfl, _, _⟩ := hon1.shape
                obtain ⟨Al, cl, rfl, _, _⟩ := hol1.shape
                obtain ⟨Ar, cr, rfl, _, _⟩ := hor1.shape
                have HLN := Lib.hid (Lies.own (X := XB (.slice (some ⟨gN, 0, none⟩) NN Nc) (.slice (some ⟨g, 0, none⟩) m cu) bs) hon1 hzj1 fun b hb => (hXj b hb).2)
                have HLL := Lib.hid (Lies.own (X := XB (.slice (some ⟨gN, 0, none⟩) NN Nc) (.slice (some ⟨g, 0, none⟩) m cu) bs) hol1 hzj1 fun b hb => (hXj b hb).2)
                have HLR := Lib.hid (Lies.own (X := XB (.slice (some ⟨gN, 0, none⟩) NN Nc) (.slice (some ⟨g, 0, none⟩) m cu) bs) hor1 hzj1 fun b hb => (hXj b hb).2)
                obtain ⟨nn, hnn⟩ : ∃ x, C.ns.length = x := ⟨_, rfl⟩
                obtain ⟨oo, hoo⟩ : ∃ x, C.off = x := ⟨_, rfl⟩
                obtain ⟨nl, hnl⟩ : ∃ x, C.left.length = x := ⟨_, rfl⟩
                obtain ⟨nr, hnr⟩ : ∃ x, C.right.length = x := ⟨_, rfl⟩
                obtain ⟨tt, htt⟩ : ∃ x, C.tries = x := ⟨_, rfl⟩
                rw [hnl, hnr] at hC1 hC2
                rw [HNJ.out] at hC1
                rw [htt] at hC3
                rw [hnn, hoo, hnl, hnr, htt]
                have ENN := Lib.hid hnn
                have EOO := Lib.hid hoo
                have ENL := Lib.hid hnl
                have ENR := Lib.hid hnr
                have ETT := Lib.hid htt
                clear hon1 hol1 hor1 hat6 hon6 hnn hoo hnl hnr htt hC hitj hblj hXj
                have hb68 : Below w6.heap.size w6 ((w6.alloc (.cells #[.slice An nn cn, .int .i64 oo, .slice Al nl cl, .slice Ar nr cr, .int .i64 tt] 42)).alloc (.cells #[.bool false, .slice none 0 0, .slice An nn cn, .int .i64 oo, .int .i64 ((NN : Int) + 1), .int .i64 0] 73)) := below_alloc1 (below_alloc1 (Below.refl _ _) _) _
                have bxc8 : ((w6.alloc (.cells #[.slice An nn cn, .int .i64 oo, .slice Al nl cl, .slice Ar nr cr, .int .i64 tt] 42)).alloc (.cells #[.bool false, .slice none 0 0, .slice An nn cn, .int .i64 oo, .int .i64 ((NN : Int) + 1), .int .i64 0] 73)).heap[w6.heap.size]? = some (.cells #[.slice An nn cn, .int .i64 oo, .slice Al nl cl, .slice Ar nr cr, .int .i64 tt] 42 (0, 0)) := obj_below (below_alloc1 (Below.refl _ _) _) (heap_alloc_new w6 (.cells #[.slice An nn cn, .int .i64 oo, .slice Al nl cl, .slice Ar nr cr, .int .i64 tt] 42)) (obj_lt (heap_alloc_new w6 (.cells #[.slice An nn cn, .int .i64 oo, .slice Al nl cl, .slice Ar nr cr, .int .i64 tt] 42)))
                have bxj8 := obj_below hb68 BXc.out (obj_lt BXc.out)
                have hst8 := HSTc.out.below hb68
                have hX8 := HSTc.out.blt
                have hzc := HONc.out.size
                have hlt6 : wr.heap.size < w6.heap.size := obj_lt BXc.out
                obtain ⟨al, e8, h81, h82⟩ := hst8.n
                have hal : al.length = NN := by have h := congrArg List.length e8; rw [List.length_map, setR_length] at h; rw [h, HNN.out]
                have hnf : nodeF ⟨⟨false, [], C.ns, C.off, ((N.length + 1 : Nat) : Int), 0⟩, none, 0, An, cn⟩ = [.bool false, .slice none 0 0, .slice An nn cn, .int .i64 oo, .int .i64 ((NN : Int) + 1), .int .i64 0] := by simp only [nodeF, ENN.out, EOO.out, HNN.out, List.length_nil, Int.natCast_succ]
                have hvr : ∀ b, (Value.ownBlock (.slice (some ⟨gN, 0, none⟩) NN Nc)) = some b → b < wr.heap.size := fun b h => by
                  have h := (HSTN.out.n.lt b h).2
                  exact h
                have HST8 := Lib.hid hst8
                have H81 := Lib.hid h81
                have H82 := Lib.hid h82
                have HE8 := Lib.hid e8
                have HNF := Lib.hid hnf
                have HB68 := Lib.hid hb68
                have BXC8 := Lib.hid bxc8
                have BXJ8 := Lib.hid bxj8
                have HVR := Lib.hid hvr
                have HLN8 := Lib.hid (HLN.out.step (Only.of_below (S := fun _ => False) hb68) (fun _ _ _ h => h.elim) (X1 := XB (.slice (some ⟨gN, 0, none⟩) NN Nc) (.slice (some ⟨g, 0, none⟩) m cu) bs) (fun b hb => .inl hb))
                have HX8 := Lib.hid hX8
                clear hst8 h81 h82 e8 hnf hb68 bxc8 bxj8 hvr hX8
                go_wp2_with (first
                  | (at_builtin; refine wpList_appF (q := 6) (f := nodeF) _ rfl (.tmp 92) (.tmp 98) 68 73 rfl (.agg #[.bool false, .slice none 0 0, .slice none 0 0, .int .i64 0, .int .i64 0, .int .i64 0]) 80 Try.underlying68 infoN rfl (by omega) (by omega) nodeF_q nodeF_one w1.heap.size (.slice (some ⟨gN, 0, none⟩) NN Nc) al rfl (some ⟨w6.heap.size + 1, 0, none⟩) 1 [⟨⟨false, [], C.ns, C.off, ((N.length + 1 : Nat) : Int), 0⟩, none, 0, An, cn⟩] rfl H81.out w6 (HB68.out.mono (by omega)) (by rw [World.size_alloc, World.size_alloc]; omega) (by rw [List.flatMap_cons, List.flatMap_nil, List.append_nil, HNF.out]; exact RdC.block (cs := #[.bool false, .slice none 0 0, .slice An nn cn, .int .i64 oo, .int .i64 ((NN : Int) + 1), .int .i64 0]) (by have h := heap_alloc_new (w6.alloc (.cells #[.slice An nn cn, .int .i64 oo, .slice Al nl cl, .slice Ar nr cr, .int .i64 tt] 42)) (.cells #[.bool false, .slice none 0 0, .slice An nn cn, .int .i64 oo, .int .i64 ((NN : Int) + 1), .int .i64 0] 73); rwa [World.size_alloc] at h)) (by rw [hal]; simp; omega) ?_; intro v9 w9 hown hgrow hbel hat9 hnil; have HST9 := Lib.hid (HST8.out.appN HE8.out H82.out (a := ⟨⟨false, [], C.ns, C.off, ((N.length + 1 : Nat) : Int), 0⟩, none, 0, An, cn⟩) ⟨Lies.nil _ _ _ _, HLN8.out⟩ hown hgrow hat9); have HB9 := Lib.hid hbel; have HG9 := Lib.hid hgrow; have BXC9 := Lib.hid (hgrow.obj BXC8.out (fun h => by have := HVR.out _ h; omega)); have BXJ9 := Lib.hid (hgrow.obj BXJ8.out (fun h => by have := HVR.out _ h; omega)); have HAT9 := Lib.hid hat9; obtain ⟨A9, c9, hv9, _⟩ := hown.shape; rw [List.length_append, List.length_singleton, hal] at hv9; subst hv9; have hj90 : w9.cell? ⟨wr.heap.size, 1, none⟩ = some (.int .i64 (dj : Int)) := (by have h := BXJ9.out; simp [World.cell?, h]); have hc91 : w9.cell? ⟨w6.heap.size, 3, none⟩ = some (.slice Ar nr cr) := (by have h := BXC9.out; simp [World.cell?, h]); clear hown hgrow hbel hat9 hnil))
                have hdf : ((dm - f' : Nat) : Int) = (dj : Int) + 1 := by have := HDJ.out; omega
                have hsz8 : ∀ o1 o2, ((w6.alloc o1).alloc o2).heap.size = w6.heap.size + 1 + 1 := fun o1 o2 => by rw [World.size_alloc, World.size_alloc]
                have hn9 : ∀ b, (Value.slice A9 (NN + 1) c9).ownBlock = some b → (Value.ownBlock (.slice (some ⟨gN, 0, none⟩) NN Nc)) = some b ∨ w6.heap.size + 2 ≤ b := fun b hb => by
                  rcases HAT9.out with h | h
                  · exact .inl (by rw [← h]; exact hb)
                  · rw [h, hsz8] at hb; injection hb with hb; exact .inr (by omega)
                have hx69 : Only (XB (.slice (some ⟨gN, 0, none⟩) NN Nc) (.slice (some ⟨g, 0, none⟩) m cu) bs) w6 w9 := (Only.of_below HB68.out).trans (HG9.out.mono fun b _ h => .inl h)
                have hnx : ∀ b, XB (.slice A9 (NN + 1) c9) (.slice (some ⟨g, 0, none⟩) m cu) bs b → b < wr.heap.size ∨ w6.heap.size + 2 ≤ b := fun b hb => by
                  rcases hb with hb | hb | hb
                  · rcases hn9 b hb with h | h
                    · exact .inl (HVR.out b h)
                    · exact .inr h
                  · have : g = b := by have h : (Value.slice (some ⟨g, 0, none⟩) m cu).ownBlock = some g := rfl
                                       rw [h] at hb; injection hb
                    exact .inl (by omega)
                  · exact .inl (by omega)
                have hxx : ∀ b, XB (.slice A9 (NN + 1) c9) (.slice (some ⟨g, 0, none⟩) m cu) bs b → XB (.slice (some ⟨gN, 0, none⟩) NN Nc) (.slice (some ⟨g, 0, none⟩) m cu) bs b ∨ w6.heap.size ≤ b := fun b hb => by
                  rcases hb with hb | hb | hb
                  · rcases hn9 b hb with h | h
                    · exact .inl (.inl h)
                    · exact .inr (by omega)
                  · exact .inl (.inr (.inl hb))
                  · exact .inl (.inr (.inr hb))
                have HLR9 := Lib.hid (HLR.out.step hx69 (fun b _ _ h => h) hxx)
                have HLL9 := Lib.hid (HLL.out.step hx69 (fun b _ _ h => h) hxx)
                have HNX := Lib.hid hnx
                have hst0 : st0.length ≤ 1000 := hmb
                have hpr := push_calls w9 w1.heap.size dm bs _ _ _ _ Ar cr ⟨C.right, f', some N.length⟩ HST9.out HLR9.out (by rw [List.length_reverse]; omega)
                simp only [ENR.out, hdf, upI, HNN.out] at hpr
                have hz69 := HB9.out.size
                clear hn9 hx69 hnx hxx hsz8
                go_wp2_with fail
                refine hpr.mono ?_
                rintro e w10 ⟨he, ⟨u10', hst10, hu10⟩, hx10⟩
                subst he
                have hb10 := HST9.out.blt
                have BXC10 := Lib.hid (hx10.obj BXC9.out fun h => by have := HNX.out _ h; omega)
                have BXJ10 := Lib.hid (hx10.obj BXJ9.out fun h => by have := HNX.out _ h; omega)
                have hj100 : w10.cell? ⟨wr.heap.size, 1, none⟩ = some (.int .i64 (dj : Int)) := by have h := BXJ10.out; simp [World.cell?, h]
                have hc101 : w10.cell? ⟨w6.heap.size, 2, none⟩ = some (.slice Al nl cl) := by have h := BXC10.out; simp [World.cell?, h]
                have HLL10 := Lib.hid (HLL9.out.step hx10 (fun b _ _ h => h) (X1 := XB (.slice A9 (NN + 1) c9) u10' bs) fun b hb => by
                  rcases hb with hb | hb | hb
                  · exact .inl (.inl hb)
                  · rcases hu10 b hb with h | h
                    · exact .inl (.inr (.inl h))
                    · exact .inr h
                  · exact .inl (.inr (.inr hb)))
                have hpl := push_calls w10 w1.heap.size dm bs _ _ _ _ Al cl ⟨C.left, f', none⟩ hst10 HLL10.out (by rw [List.length_append, List.length_reverse, List.length_singleton]; omega)
                simp only [ENL.out, hdf, upI] at hpl
                have HONr := Lib.hid ((HONc.out.own (X := fun b => w1.heap.size ≤ b) ⟨HB9.out.os, HB9.out.tape, HB9.out.output, HB9.out.size, fun q hq hs => HB9.out.block q (by omega)⟩ (fun b hb h => by omega)).own hx10 (fun b hb h => by have := (hb10 b h).1; omega))
                have HATr := Lib.hid ((HATc.out.below HB9.out (by omega)).only hx10 (fun b h1 h2 h => by have := (hb10 b h).1; omega))
                have HSTr := Lib.hid hst10
                clear hpr hst10 hu10 hx10 hb10
                go_wp2_with fail
                refine hpl.mono ?_
                rintro e w11 ⟨he, ⟨u11', hst11, _⟩, hx11⟩
                subst he
                have hb11 := HSTr.out.blt
                have HSTz := Lib.hid hst11
                have HONz := Lib.hid (HONr.out.own hx11 (fun b hb h => by have := (hb11 b h).1; omega))
                have HATz := Lib.hid (HATr.out.only hx11 (fun b h1 h2 h => by have := (hb11 b h).1; omega))
                clear hpl hst11 hx11 hb11
                go_wp2_with fail
                go_roundg k1
                case measure => omega
                case rel =>
                  refine ⟨setR N (some q) (NN : Int) ++ [⟨false, [], C.ns, C.off, ((N.length + 1 : Nat) : Int), 0⟩], ⟨C.left, f', none⟩ :: ⟨C.right, f', some N.length⟩ :: st0, k' + 2 * C.tries, u11', ?_, ?_, fun j hj => ?_, ?_, HATz.out, HONz.out⟩
                  · rw [List.length_append, setR_length, List.length_singleton]; omega
                  · have h := HFIN.out
                    rw [finJ_split (by rw [HNJ.out]; omega) HC.out, HNN.out] at h
                    rw [HNN.out]
                    exact h
                  · rcases List.mem_cons.1 hj with hj | hj
                    · subst hj
                      exact ⟨by simp only [ENL.out]; omega, by simp only [ENL.out]; omega, by simp only; omega, fun q hq => by simp at hq⟩
                    · rcases List.mem_cons.1 hj with hj | hj
                      · subst hj
                        exact ⟨by simp only [ENR.out]; omega, by simp only [ENR.out]; omega, by simp only; omega, fun q hq => by simp at hq; rw [List.length_append, setR_length, List.length_singleton]; omega⟩
                      · obtain ⟨a1, a2, a3, a4⟩ := HJS0.out j hj
                        exact ⟨a1, a2, a3, fun q hq => by rw [List.length_append, setR_length]; have := a4 q hq; omega⟩
                  · rw [List.reverse_cons, List.reverse_cons, HNN.out]
                    exact HSTz.out
end Go.Proofs.Ytohmcpblagcfeaa
