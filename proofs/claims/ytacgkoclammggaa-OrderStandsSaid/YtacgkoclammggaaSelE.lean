
/-
  The selector (topk, over shelterbelt/api.Result): New, Len, Last, Offer. Condition: the selector's blocks are as the word SelE says; no more than a million are kept.
-/
import Derived.Test.YtacgkoclammggaaHeap6E
import Derived.Test.YtacgkoclammggaaSl
namespace Go.Proofs.Ytacgkoclammggaa
open Go.RowKit
set_option linter.unusedVariables false
set_option maxRecDepth 100000
set_option linter.unusedSimpArgs false

/-- A selector of so many, that nx were offered to; its heap holds L. -/
def SelE (w : World) (s : Sl) (most nx : Int) (L : List (Int × Int × Int)) : Prop :=
  w.heap[s.bs]? = some (.cells #[.func (.func 29) #[] #[], .int .i64 most, .pointer (some ⟨s.b, 0, none⟩), .int .i64 nx] 121 (0, 0)) ∧ w.cell? ⟨s.bx, 0, none⟩ = some (.pointer (some ⟨s.bs, 0, none⟩)) ∧ HpE s.bx w s.b s.b s.v L ∧ HeapOk ltE L ∧ Ns s.v s.b s.bx ∧ Ns s.v s.b s.bs ∧ s.bx ≠ s.bs
theorem SelE.slx {w : World} {s : Sl} {most nx : Int} {L : List (Int × Int × Int)} (h : SelE w s most nx L) : SlxE w s.bx s.bs := ⟨h.2.1, by have h1 := h.1; simp [World.cell?, h1]⟩
theorem SelE.only {w w' : World} {S : Nat → Prop} {s : Sl} {most nx : Int} {L : List (Int × Int × Int)} (h : SelE w s most nx L) (ho : Only S w w') (hs : ∀ k, SlB s k → ¬ S k) (hx : ¬ S s.bx) : SelE w' s most nx L :=
  ⟨ho.obj h.1 (hs _ (.inl rfl)), ho.cell h.2.1 hx, h.2.2.1.only ho (hs _ (.inr (.inl rfl))) (fun k hk => hs k (.inr (.inr hk))), h.2.2.2⟩
theorem SelE.keep {w w' : World} {s : Sl} {most nx : Int} {L : List (Int × Int × Int)} (h : SelE w s most nx L) (hb : Below w.heap.size w w') : SelE w' s most nx L := h.only (S := fun _ => False) (Only.of_below hb) (fun _ _ h => h) fun h => h
theorem SelE.lt {w : World} {s : Sl} {most nx : Int} {L : List (Int × Int × Int)} (h : SelE w s most nx L) : (∀ k, SlB s k → k < w.heap.size) ∧ s.bx < w.heap.size :=
  ⟨fun k hk => by
    rcases hk with hk | hk | hk
    · rw [hk]; exact obj_lt h.1
    · rw [hk]; exact h.2.2.1.lt
    · exact (h.2.2.1.2.1.lt k hk).2, World.block_lt_of_cell? _ _ h.2.1⟩
theorem SelE.nbx {w : World} {s : Sl} {most nx : Int} {L : List (Int × Int × Int)} (h : SelE w s most nx L) : ¬ SlB s s.bx := fun hk => hk.elim (fun e => h.2.2.2.2.2.2 e) fun e => h.2.2.2.2.1 e
theorem SLenE_calls (s : Sl) (most nx : Int) (L : List (Int × Int × Int)) (w : World) (h : SelE w s most nx L) :
    Calls Try.prog 57 #[.pointer (some ⟨s.bs, 0, none⟩)] w fun e w' => e = .returned (.int .i64 L.length) ∧ ∃ n, w' = w.drewN n := by
  obtain ⟨bs, bx, b, v⟩ := s
  obtain ⟨h1, _, hH, _⟩ := h
  have hc2 : w.cell? ⟨bs, 2, none⟩ = some (.pointer (some ⟨b, 0, none⟩)) := by simp [World.cell?, h1]
  have HH := Lib.hid hH
  clear h1 hH
  go_enter Try.func57, Try.ntmps57
  go_wp2_with fail
  refine (HLenE_calls bx b b v L _ HH.out).mono ?_
  rintro e _ ⟨he, q, rfl⟩
  subst he
  go_wp2_with fail
  go_ret
  exact ⟨rfl, q, rfl⟩
theorem SLastE_none (s : Sl) (most nx : Int) (w : World) (h : SelE w s most nx []) :
    Calls Try.prog 56 #[.pointer (some ⟨s.bs, 0, none⟩)] w fun e w' => e = .returned (.tuple #[.agg #[.int .i64 0, .int .i64 0], .bool false]) ∧ Below w.heap.size w w' := by
  obtain ⟨bs, bx, b, v⟩ := s
  obtain ⟨W, hW⟩ : ∃ W, w.alloc (.cells #[.int .i64 0, .int .i64 0] 41) = W := ⟨_, rfl⟩
  have hB : Below w.heap.size w W := by rw [← hW]; exact below_alloc1 (Below.refl _ _) _
  have hk := h.keep hB
  obtain ⟨h1, _, hH, _⟩ := hk
  have hc2 : W.cell? ⟨bs, 2, none⟩ = some (.pointer (some ⟨b, 0, none⟩)) := by simp [World.cell?, h1]
  have hx := (show W.heap[w.heap.size]? = some (.cells #[.int .i64 0, .int .i64 0] 41 (0, 0)) by rw [← hW]; exact heap_alloc_new _ _)
  have HH := Lib.hid hH
  have HB := Lib.hid hB
  have HX := Lib.hid hx
  clear h h1 hH hB hx
  go_enter Try.func56, Try.ntmps56
  go_wp2_with fail
  refine (PeekE_none bx b b v _ HH.out).mono ?_
  rintro e W2 ⟨he, hb2⟩
  subst he
  have hx2 := obj_below hb2 HX.out (obj_lt HX.out)
  have hf0 : W2.frozen? ⟨w.heap.size, 0, none⟩ = false := by simp [World.frozen?, hx2]
  have hf1 : W2.frozen? ⟨w.heap.size, 1, none⟩ = false := by simp [World.frozen?, hx2]
  have hc0 : W2.cell? ⟨w.heap.size, 0, none⟩ = some (.int .i64 0) := by simp [World.cell?, hx2]
  have hc1 : W2.cell? ⟨w.heap.size, 1, none⟩ = some (.int .i64 0) := by simp [World.cell?, hx2]
  have g0 := fun o => (World.cell?_alloc_lt (o := o) W2 _ (World.block_lt_of_cell? _ _ hc0)).trans hc0
  have g1 := fun o => (World.cell?_alloc_lt (o := o) W2 _ (World.block_lt_of_cell? _ _ hc1)).trans hc1
  have gf : ∀ (o : Obj) (j : Nat), (W2.alloc o).frozen? ⟨w.heap.size, j, none⟩ = false := fun o j => by
    have h := obj_below (below_alloc1 (Below.refl W2.heap.size W2) o) hx2 (obj_lt hx2)
    simp [World.frozen?, h]
  have gf0 := fun o => gf o 0
  have gf1 := fun o => gf o 1
  have hlt := (Below.after HB.out hb2).size
  have HB2 := Lib.hid (Below.after HB.out hb2)
  have hltx := obj_lt hx2
  clear hx2 hb2 gf
  go_wp2_with fail
  refine bodyPost_ret ?_ rfl ⟨rfl, ?_⟩
  · rw [results_cell_tmp rfl]
    go_simp
  · exact below_alloc1 (below_set (below_set HB2.out (Nat.le_refl _) _ _) (Nat.le_refl _) _ _) _
theorem SLastE_some (s : Sl) (most nx : Int) (x0 x1 x2 : Int) (l : List (Int × Int × Int)) (w : World) (h : SelE w s most nx ((x0, x1, x2) :: l)) :
    Calls Try.prog 56 #[.pointer (some ⟨s.bs, 0, none⟩)] w fun e w' => e = .returned (.tuple #[.agg #[.int .i64 x0, .int .i64 x1], .bool true]) ∧ Below w.heap.size w w' := by
  obtain ⟨bs, bx, b, v⟩ := s
  obtain ⟨W, hW⟩ : ∃ W, w.alloc (.cells #[.int .i64 0, .int .i64 0] 41) = W := ⟨_, rfl⟩
  have hB : Below w.heap.size w W := by rw [← hW]; exact below_alloc1 (Below.refl _ _) _
  have hk := h.keep hB
  obtain ⟨h1, _, hH, _⟩ := hk
  have hc2 : W.cell? ⟨bs, 2, none⟩ = some (.pointer (some ⟨b, 0, none⟩)) := by simp [World.cell?, h1]
  have hx := (show W.heap[w.heap.size]? = some (.cells #[.int .i64 0, .int .i64 0] 41 (0, 0)) by rw [← hW]; exact heap_alloc_new _ _)
  have HH := Lib.hid hH
  have HB := Lib.hid hB
  have HX := Lib.hid hx
  clear h h1 hH hB hx
  go_enter Try.func56, Try.ntmps56
  go_wp2_with fail
  refine (PeekE_some bx b b v x0 x1 x2 l _ HH.out).mono ?_
  rintro e W2 ⟨he, hb2⟩
  subst he
  have hx2 := obj_below hb2 HX.out (obj_lt HX.out)
  have hf0 : W2.frozen? ⟨w.heap.size, 0, none⟩ = false := by simp [World.frozen?, hx2]
  have hf1 : W2.frozen? ⟨w.heap.size, 1, none⟩ = false := by simp [World.frozen?, hx2]
  have hc0 : W2.cell? ⟨w.heap.size, 0, none⟩ = some (.int .i64 0) := by simp [World.cell?, hx2]
  have hc1 : W2.cell? ⟨w.heap.size, 1, none⟩ = some (.int .i64 0) := by simp [World.cell?, hx2]
  have g0 := fun o => (World.cell?_alloc_lt (o := o) W2 _ (World.block_lt_of_cell? _ _ hc0)).trans hc0
  have g1 := fun o => (World.cell?_alloc_lt (o := o) W2 _ (World.block_lt_of_cell? _ _ hc1)).trans hc1
  have gf : ∀ (o : Obj) (j : Nat), (W2.alloc o).frozen? ⟨w.heap.size, j, none⟩ = false := fun o j => by
    have h := obj_below (below_alloc1 (Below.refl W2.heap.size W2) o) hx2 (obj_lt hx2)
    simp [World.frozen?, h]
  have gf0 := fun o => gf o 0
  have gf1 := fun o => gf o 1
  have hlt := (Below.after HB.out hb2).size
  have HB2 := Lib.hid (Below.after HB.out hb2)
  have hltx := obj_lt hx2
  clear hx2 hb2 gf
  go_wp2_with fail
  refine bodyPost_ret ?_ rfl ⟨rfl, ?_⟩
  · rw [results_cell_tmp rfl]
    go_simp
  · exact below_alloc1 (below_set (below_set HB2.out (Nat.le_refl _) _ _) (Nat.le_refl _) _ _) _
set_option maxHeartbeats 3200000 in
theorem SNewE_calls (most : Int) (w : World) :
    Calls Try.prog 44 #[.func (.func 29) #[] #[], .int .i64 most] w fun e w' => ∃ s, e = .returned (.pointer (some ⟨s.bs, 0, none⟩)) ∧ SelE w' s most 0 [] ∧ Below w.heap.size w w' ∧ (∀ k, SlB s k → w.heap.size ≤ k) ∧ w.heap.size ≤ s.bx ∧ s.v = .slice none 0 0 := by
  go_enter Try.func44, Try.ntmps44
  go_wp2_with fail
  obtain ⟨w2, hw2⟩ : ∃ W, (w.alloc (.cells #[.func (.func 29) #[] #[], .int .i64 most, .pointer none, .int .i64 0] 121)).alloc (.cells #[.pointer (some ⟨w.heap.size, 0, none⟩)] 72) = W := ⟨_, rfl⟩
  (try rw [hw2])
  have hbel2 : Below w.heap.size w w2 := by rw [← hw2]; exact below_alloc1 (below_alloc1 (Below.refl _ _) _) _
  have ba : w2.heap[w.heap.size]? = some (.cells #[.func (.func 29) #[] #[], .int .i64 most, .pointer none, .int .i64 0] 121 (0, 0)) := by
    rw [← hw2]; exact obj_below ((Below.refl _ _).alloc (Nat.le_refl _) _) (heap_alloc_new w _) (obj_lt (heap_alloc_new w _))
  have bb : w2.heap[w.heap.size + 1]? = some (.cells #[.pointer (some ⟨w.heap.size, 0, none⟩)] 72 (0, 0)) := by
    rw [← hw2]; have h := heap_alloc_new (w.alloc (.cells #[.func (.func 29) #[] #[], .int .i64 most, .pointer none, .int .i64 0] 121)) (.cells #[.pointer (some ⟨w.heap.size, 0, none⟩)] 72); rwa [World.size_alloc] at h
  have HB2 := Lib.hid hbel2
  have BA := Lib.hid ba
  have BB := Lib.hid bb
  have hz := obj_lt bb
  have hp : w2.cell? ⟨w.heap.size + 1, 0, none⟩ = some (.pointer (some ⟨w.heap.size, 0, none⟩)) := by have h := BB.out; simp [World.cell?, h]
  have hbr : Below w2.heap.size w2 w2 := Below.refl _ _
  clear hw2 hbel2 ba bb
  go_wp2_with fail
  go_cut [] (fun wx => ∃ b, w2.heap.size ≤ b ∧ wx.heap[w.heap.size]? = some (.cells #[.func (.func 29) #[] #[], .int .i64 most, .pointer (some ⟨b, 0, none⟩), .int .i64 0] 121 (0, 0)) ∧ HpE (w.heap.size + 1) wx b b (.slice none 0 0) [] ∧ Only (fun k => k = w.heap.size) w2 wx)
  case first =>
    go_region_held3 (fun w' => w'.cell? ⟨w.heap.size + 1, 0, none⟩ = some (.pointer (some ⟨w.heap.size, 0, none⟩)) ∧ Only (fun k => k = w.heap.size) w2 w')
      (first | exact ⟨cell_below (B := w2.heap.size) (w := w2) (below_drew1 hbr) hp (World.block_lt_of_cell? _ _ hp), Only.of_below (below_drew1 hbr)⟩ | exact ⟨cell_below (B := w2.heap.size) (w := w2) hB3 hp (World.block_lt_of_cell? _ _ hp), Only.of_below hB3⟩ | exact ⟨(only_set _ w.heap.size _ _).cell (cell_below (B := w2.heap.size) (w := w2) hB3 hp (World.block_lt_of_cell? _ _ hp)) (Nat.succ_ne_self _), (Only.of_below hB3).trans (only_set _ w.heap.size _ _)⟩ | go_keep)
      (first
        | (go_at_call 82; go_split_ands; (with_reducible refine (NewE_calls (w.heap.size + 1) _).mono ?_); rintro e w3 ⟨b, he, hlo, hH, hbq⟩; subst he; have hB3 : Below w2.heap.size w2 w3 := Below.after (by first | ((repeat (first | assumption | exact Below.refl _ _ | apply below_drew1 | apply below_alloc1)); done)) hbq; have hBA3 := obj_below hB3 BA.out (obj_lt BA.out); have hfz : w3.frozen? ⟨w.heap.size, 2, none⟩ = false := free_blk hBA3 2; have hcs : w3.cell? ⟨w.heap.size, 2, none⟩ = some (.pointer none) := (by simp [World.cell?, hBA3]); have HHN := Lib.hid hH; have HBA3 := Lib.hid hBA3; have hlo2 : w2.heap.size ≤ b := hlo; clear hH hBA3))
    all_goals
      go_wp2_with fail
      go_meet
      exact ⟨b, hlo2, set_blk (cs := [_, _, _, _]) HBA3.out 2 _, HHN.out.only (only_set _ _ _ _) (fun h => by omega) (fun k hk h => by simp [Value.ownBlock] at hk), (Only.of_below hB3).trans (only_set _ w.heap.size _ _)⟩
  obtain ⟨b, hlo, hs, hH, hon⟩ := hcut
  have hpx : wc.cell? ⟨w.heap.size + 1, 0, none⟩ = some (.pointer (some ⟨w.heap.size, 0, none⟩)) := hon.cell hp (Nat.succ_ne_self _)
  have HS := Lib.hid hs
  have HH := Lib.hid hH
  have HBB := Lib.hid (HB2.out.trans (hon.below (by omega) fun k hk h => by omega))
  have HP := Lib.hid hpx
  clear hs hH hon hp
  go_wp2_with fail
  go_ret
  exact ⟨⟨w.heap.size, w.heap.size + 1, b, .slice none 0 0⟩, rfl, ⟨HS.out, HP.out, HH.out, fun i a b h0 ha => by simp at ha, fun h => h.elim (fun h => by have : w.heap.size + 1 = b := h; omega) fun h => by simp [OwnB, Value.ownBlock] at h, fun h => h.elim (fun h => by have : w.heap.size = b := h; omega) fun h => by simp [OwnB, Value.ownBlock] at h, Nat.succ_ne_self _⟩, HBB.out, fun k hk => by
    rcases hk with hk | hk | hk
    · exact Nat.le_of_eq hk.symm
    · have : k = b := hk
      omega
    · simp [OwnB, Value.ownBlock] at hk, Nat.le_succ _, rfl⟩
set_option maxHeartbeats 3200000 in
set_option maxRecDepth 1000000 in
theorem OfferE_calls (s : Sl) (most nx : Int) (L : List (Int × Int × Int)) (x0 x1 : Int) (w : World) (h : SelE w s most nx L) (hl : L.length ≤ 100000) (hn0 : 0 ≤ nx) (hn1 : nx < 1000000) :
    Calls Try.prog 45 #[.pointer (some ⟨s.bs, 0, none⟩), .agg #[.int .i64 x0, .int .i64 x1]] w fun e w' => ∃ s' L' ok, e = .returned (.bool ok) ∧ SelE w' s' most (nx + 1) L' ∧ SlTo s s' w.heap.size ∧ Only (SlB s) w w' ∧ OffR aheadE most (x0, x1, nx) L L' ok := by
  obtain ⟨bs, bx, b, v⟩ := s
  obtain ⟨n1, hn⟩ : ∃ n, nx + 1 = n := ⟨_, rfl⟩
  have hwr : IntKind.i64.wrap (nx + 1) = n1 := by rw [i64_w, ← hn]; exact wrap64_id _ (by omega)
  rw [hn]
  obtain ⟨W1, hW⟩ : ∃ W, w.alloc (.cells #[.int .i64 x0, .int .i64 x1] 41) = W := ⟨_, rfl⟩
  have hB : Below w.heap.size w W1 := by rw [← hW]; exact below_alloc1 (Below.refl _ _) _
  have hx := (show W1.heap[w.heap.size]? = some (.cells #[.int .i64 x0, .int .i64 x1] 41 (0, 0)) by rw [← hW]; exact heap_alloc_new _ _)
  have hk := h.keep hB
  have hlts := h.lt
  have hc3 : W1.cell? ⟨bs, 3, none⟩ = some (.int .i64 nx) := by have h1 := hk.1; simp [World.cell?, h1]
  have hx0 : W1.cell? ⟨w.heap.size, 0, none⟩ = some (.int .i64 x0) := by simp [World.cell?, hx]
  have hx1 : W1.cell? ⟨w.heap.size, 1, none⟩ = some (.int .i64 x1) := by simp [World.cell?, hx]
  have gc3 := fun o => (World.cell?_alloc_lt (o := o) W1 _ (World.block_lt_of_cell? _ _ hc3)).trans hc3
  have gx0 := fun o => (World.cell?_alloc_lt (o := o) W1 _ (World.block_lt_of_cell? _ _ hx0)).trans hx0
  have gx1 := fun o => (World.cell?_alloc_lt (o := o) W1 _ (World.block_lt_of_cell? _ _ hx1)).trans hx1
  have HK := Lib.hid hk
  have HB := Lib.hid hB
  clear hk h hx hB
  have HNX := Lib.hid hn
  clear hn
  go_enter Try.func45, Try.ntmps45
  go_wp2_with fail
  (try rw [hW])
  clear hW
  go_cut [5] (fun s5 wx => ∃ be, s5 = .pointer (some ⟨be, 0, none⟩) ∧ W1.heap.size ≤ be ∧ wx.heap[be]? = some (.cells #[.int .i64 x0, .int .i64 x1, .int .i64 nx] 124 (0, 0)) ∧ Below W1.heap.size W1 wx)
  case first =>
    go_region
    all_goals
      go_wp2_with fail
      go_meet
      exact ⟨_, rfl, Nat.le_refl _, (show ((W1.alloc (.cells #[.int .i64 x0, .int .i64 x1, .int .i64 nx] 124)).drew).heap[W1.heap.size]? = _ from heap_alloc_new W1 _), below_drew1 (below_alloc1 (Below.refl _ _) _)⟩
  obtain ⟨be, rfl, hbe1, hbe, hb2⟩ := hcut
  have hz1 := HB.out.size
  have hz1' : w.heap.size < W1.heap.size := World.block_lt_of_cell? _ _ hx0
  have hkc := HK.out.keep hb2
  have hc3' := cell_below hb2 hc3 (World.block_lt_of_cell? _ _ hc3)
  have hf3 : wc.frozen? ⟨bs, 3, none⟩ = false := free_blk hkc.1 3
  have hbe9 := obj_lt hbe
  have hlb := hlts.1 b (.inr (.inl rfl))
  have hlbs := hlts.1 bs (.inl rfl)
  have hlbx := hlts.2
  have hlv : ∀ k, v.ownBlock = some k → k < w.heap.size := fun k hk => hlts.1 k (.inr (.inr hk))
  obtain ⟨W2, hW2⟩ : ∃ W, wc.setCell ⟨bs, 3, none⟩ (.int .i64 n1) = W := ⟨_, rfl⟩
  have ho2 : Only (fun k => k = bs) wc W2 := by rw [← hW2]; exact only_set _ _ _ _
  have hbs2 : W2.heap[bs]? = some (.cells #[.func (.func 29) #[] #[], .int .i64 most, .pointer (some ⟨b, 0, none⟩), .int .i64 n1] 121 (0, 0)) := by rw [← hW2]; exact set_blk (cs := [_, _, _, _]) hkc.1 3 _
  obtain ⟨_, hkx, hkH, hkok, hnx, hns, hne⟩ := hkc
  have hp2 : HpE bx W2 b b v L := hkH.only ho2 (fun h => hns (.inl h.symm)) fun k hk h => hns (.inr (by rw [← show k = bs from h]; exact hk))
  have hx2 : W2.cell? ⟨bx, 0, none⟩ = some (.pointer (some ⟨bs, 0, none⟩)) := ho2.cell hkx hne
  have hbe2 := ho2.obj hbe (fun h => by have : be = bs := h; omega)
  have HON := Lib.hid (((Only.of_below (S := SlB ⟨bs, bx, b, v⟩) HB.out).trans (Only.of_below hb2)).trans (ho2.mono fun k _ h => .inl h))
  have hzw : w.heap.size ≤ W2.heap.size := HON.out.size
  have HS2 := Lib.hid (show SelE W2 ⟨bs, bx, b, v⟩ most n1 L from ⟨hbs2, hx2, hp2, hkok, hnx, hns, hne⟩)
  have hbe3 : be < W2.heap.size := obj_lt hbe2
  have HBE := Lib.hid hbe2
  obtain ⟨N, hN⟩ : ∃ N, L.length = N := ⟨_, rfl⟩
  have HLC := Lib.hid fun (W : World) (hW : SelE W ⟨bs, bx, b, v⟩ most n1 L) => by have h := SLenE_calls ⟨bs, bx, b, v⟩ most n1 L W hW; rw [hN] at h; exact h
  have HN := Lib.hid hN
  have hcm : W2.cell? ⟨bs, 1, none⟩ = some (.int .i64 most) := by simp [World.cell?, hbs2]
  have hck : W2.cell? ⟨bs, 2, none⟩ = some (.pointer (some ⟨b, 0, none⟩)) := by simp [World.cell?, hbs2]
  have he0 : W2.cell? ⟨be, 0, none⟩ = some (.int .i64 x0) := by simp [World.cell?, hbe2]
  have he1 : W2.cell? ⟨be, 1, none⟩ = some (.int .i64 x1) := by simp [World.cell?, hbe2]
  have he2 : W2.cell? ⟨be, 2, none⟩ = some (.int .i64 nx) := by simp [World.cell?, hbe2]
  clear hx0 hx1 gc3 gx0 gx1 HK hc3 hb2 hbe hp2 hx2 hbe2 hkx hkH hkok hbs2 ho2 hN hlts HB
  have hc3 := hc3'
  clear hc3'
  go_wp2_with fail
  (try rw [hW2])
  clear hW2 hc3 hf3
  by_cases hlt : (N : Int) < most
  · have hd : decide ((N : Int) < most) = true := decide_eq_true hlt
    go_wp2_with fail
    go_quiet ((go_at_call 57; exact Calls.quiet_of (HLC.out _ (HS2.out.keep (below_drewN_self _ _)))))
    obtain ⟨W3, hW3⟩ : ∃ W, W2.drewN nq = W := ⟨_, rfl⟩
    have hb3 : Below W2.heap.size W2 W3 := by rw [← hW3]; exact below_drewN_self _ _
    rw [hW3]
    clear hW3
    have hHP := HS2.out.2.2.1.keep hb3
    have HSL := Lib.hid (HS2.out.slx.keep hb3)
    have HBS := Lib.hid (obj_below hb3 HS2.out.1 (obj_lt HS2.out.1))
    have HBE3 := Lib.hid (obj_below hb3 HBE.out (obj_lt HBE.out))
    have HON3 := Lib.hid (HON.out.trans (Only.of_below hb3))
    have hz3 := hb3.size
    have HOK := Lib.hid HS2.out.2.2.2.1
    have HHP := Lib.hid hHP
    have HTO := Lib.hid (fun (k : Nat) (hk : v.ownBlock = some k) => (.inl hk : v.ownBlock = some k ∨ w.heap.size ≤ k))
    clear hHP hcm hck he0 he1 he2 hb3
    have hnx' := hnx
    have hns' := hns
    have hlv' := hlv
    have hbr : Below W3.heap.size W3 W3 := Below.refl _ _
    have hck : W3.cell? ⟨bs, 2, none⟩ = some (.pointer (some ⟨b, 0, none⟩)) := by have h := HBS.out; simp [World.cell?, h]
    have he0 : W3.cell? ⟨be, 0, none⟩ = some (.int .i64 x0) := by have h := HBE3.out; simp [World.cell?, h]
    have he1 : W3.cell? ⟨be, 1, none⟩ = some (.int .i64 x1) := by have h := HBE3.out; simp [World.cell?, h]
    have he2 : W3.cell? ⟨be, 2, none⟩ = some (.int .i64 nx) := by have h := HBE3.out; simp [World.cell?, h]
    have hnbs : ¬ HpBE v b bs := hns'
    have hnbe : ¬ HpBE v b be := fun h => h.elim (fun h => by omega) fun h => by have := hlv' be h; omega
    go_wp2_with fail
    go_region_held3 (fun w' => w'.cell? ⟨bs, 2, none⟩ = some (.pointer (some ⟨b, 0, none⟩)) ∧ w'.cell? ⟨be, 0, none⟩ = some (.int .i64 x0) ∧ w'.cell? ⟨be, 1, none⟩ = some (.int .i64 x1) ∧ w'.cell? ⟨be, 2, none⟩ = some (.int .i64 nx) ∧ Only (HpBE v b) W3 w')
      (first | exact ⟨cell_below (B := W3.heap.size) (w := W3) (below_drew1 hbr) hck (World.block_lt_of_cell? _ _ hck), cell_below (B := W3.heap.size) (w := W3) (below_drew1 hbr) he0 (World.block_lt_of_cell? _ _ he0), cell_below (B := W3.heap.size) (w := W3) (below_drew1 hbr) he1 (World.block_lt_of_cell? _ _ he1), cell_below (B := W3.heap.size) (w := W3) (below_drew1 hbr) he2 (World.block_lt_of_cell? _ _ he2), Only.of_below (below_drew1 hbr)⟩ | exact ⟨hQ.cell hck hnbs, hQ.cell he0 hnbe, hQ.cell he1 hnbe, hQ.cell he2 hnbe, hQ⟩ | go_keep)
      (first
        | (go_at_call 85; go_split_ands; (with_reducible refine Calls.mono (PushE_calls bx bs b b v L x0 x1 nx _ ?_ HOK.out (by omega) ?_ hnx' hns') ?_); (exact HHP.out.keep (below_drew1 hbr)); (exact HSL.out.keep (below_drew1 hbr)); rintro e wq ⟨he, v9, l9, ⟨hH, hok, hon, hfr⟩, hpm⟩; subst he; have hQ : Only (HpBE v b) W3 wq := (Only.of_below (below_drew1 hbr)).trans hon; have HH9 := Lib.hid hH; have HOK9 := Lib.hid hok; have HFR9 := Lib.hid (show ∀ k, v9.ownBlock = some k → (v).ownBlock = some k ∨ W3.heap.size ≤ k from hfr); have HPM9 := Lib.hid hpm; clear hH hok hon hfr hpm))
    go_wp2_with fail
    go_ret
    have hpm := HPM9.out
    have hN9 : ∀ k, k < W3.heap.size → Ns v b k → Ns v9 b k := fun k hk h h2 => h2.elim (fun e => h (.inl e)) fun h2 => (HFR9.out k h2).elim (fun e => h (.inr e)) fun e => by omega
    refine ⟨⟨bs, bx, b, v9⟩, l9, true, rfl, ⟨hQ.obj HBS.out hnbs, hQ.cell HSL.out.1 hnx', HH9.out, HOK9.out, hN9 bx (by omega) hnx', hN9 bs (by omega) hns', hne⟩, ⟨rfl, rfl, rfl, fun k hk => (HFR9.out k hk).elim (fun h => HTO.out k h) fun h => .inr (by omega)⟩, ?_, .inl ⟨by rw [HN.out]; omega, rfl, hpm⟩⟩
    refine (HON3.out).trans2E hQ fun k hk h => ?_
    rcases h with h | h
    · exact .inr (.inl h)
    · exact .inr (.inr ((HTO.out k h).resolve_right (by omega)))
  · have hd : decide ((N : Int) < most) = false := decide_eq_false hlt
    go_wp2_with fail
    go_quiet ((go_at_call 57; exact Calls.quiet_of (HLC.out _ (HS2.out.keep (below_drewN_self _ _)))))
    go_wp2_with fail
    obtain ⟨W3, hW3⟩ : ∃ W, W2.drewN nq = W := ⟨_, rfl⟩
    have hb3 : Below W2.heap.size W2 W3 := by rw [← hW3]; exact below_drewN_self _ _
    rw [hW3]
    clear hW3 HLC
    have HS3 := Lib.hid (HS2.out.keep hb3)
    have HBE3 := Lib.hid (obj_below hb3 HBE.out (obj_lt HBE.out))
    have HON3 := Lib.hid (HON.out.trans (Only.of_below hb3))
    have hz3 := hb3.size
    have hck : W3.cell? ⟨bs, 2, none⟩ = some (.pointer (some ⟨b, 0, none⟩)) := by have h := HS3.out.1; simp [World.cell?, h]
    clear hcm he0 he1 he2 hb3 HS2 HBE HON
    cases L with
    | nil =>
      go_wp2_with fail
      refine (PeekE_none bx b b v _ HS3.out.2.2.1).mono ?_
      rintro e W4 ⟨he, hb4⟩
      subst he
      have ha0 : W4.cell? ⟨be, 0, none⟩ = some (.int .i64 x0) := by have h := obj_below hb4 HBE3.out (obj_lt HBE3.out); simp [World.cell?, h]
      have ha1 : W4.cell? ⟨be, 1, none⟩ = some (.int .i64 x1) := by have h := obj_below hb4 HBE3.out (obj_lt HBE3.out); simp [World.cell?, h]
      have ha2 : W4.cell? ⟨be, 2, none⟩ = some (.int .i64 nx) := by have h := obj_below hb4 HBE3.out (obj_lt HBE3.out); simp [World.cell?, h]
      have HB4 := Lib.hid hb4
      have HS4 := Lib.hid (HS3.out.keep hb4)
      clear hb4 HS3
      go_wp2_with fail
      go_ret
      have hb5 : Below W3.heap.size W3 (W4.alloc (.cells #[.int .i64 0, .int .i64 0, .int .i64 0] 124)) := below_alloc1 HB4.out _
      exact ⟨⟨bs, bx, b, v⟩, [], false, rfl, HS4.out.keep (below_alloc1 (Below.refl _ _) _), SlTo.refl _ _, HON3.out.trans (Only.of_below hb5), .inr ⟨by rw [HN.out]; omega, .inl ⟨rfl, rfl, rfl⟩⟩⟩
    | cons z r =>
      obtain ⟨z0, z1, z2⟩ := z
      obtain ⟨q, hq⟩ : ∃ q, aheadE (x0, x1, nx) (z0, z1, z2) = q := ⟨_, rfl⟩
      have HQ := Lib.hid hq
      clear hq
      go_wp2_with fail
      refine (PeekE_some bx b b v z0 z1 z2 r _ HS3.out.2.2.1).mono ?_
      rintro e W4 ⟨he, hb4⟩
      subst he
      obtain ⟨W5, hW5⟩ : ∃ W, W4.alloc (.cells #[.int .i64 z0, .int .i64 z1, .int .i64 z2] 124) = W := ⟨_, rfl⟩
      have hb5 : Below W4.heap.size W4 W5 := by rw [← hW5]; exact below_alloc1 (Below.refl _ _) _
      have hla : W5.heap[W4.heap.size]? = some (.cells #[.int .i64 z0, .int .i64 z1, .int .i64 z2] 124 (0, 0)) := by rw [← hW5]; exact heap_alloc_new _ _
      have hb35 : Below W3.heap.size W3 W5 := hb4.trans (hb5.mono hb4.size)
      have hbe5 := obj_below hb35 HBE3.out (obj_lt HBE3.out)
      have ha0 : W5.cell? ⟨be, 0, none⟩ = some (.int .i64 x0) := by simp [World.cell?, hbe5]
      have ha1 : W5.cell? ⟨be, 1, none⟩ = some (.int .i64 x1) := by simp [World.cell?, hbe5]
      have ha2 : W5.cell? ⟨be, 2, none⟩ = some (.int .i64 nx) := by simp [World.cell?, hbe5]
      have hl0 : W5.cell? ⟨W4.heap.size, 0, none⟩ = some (.int .i64 z0) := by simp [World.cell?, hla]
      have hl1 : W5.cell? ⟨W4.heap.size, 1, none⟩ = some (.int .i64 z1) := by simp [World.cell?, hla]
      have hl2 : W5.cell? ⟨W4.heap.size, 2, none⟩ = some (.int .i64 z2) := by simp [World.cell?, hla]
      have HBE5 := Lib.hid hbe5
      have HON5 := Lib.hid (HON3.out.trans (Only.of_below hb35))
      have HS5 := Lib.hid (HS3.out.keep hb35)
      have hz5 := hb35.size
      clear hb4 hb5 hla hb35 hbe5 HS3 HON3 HBE3 hck
      go_wp2_with fail
      refine (AheadE_calls bs x0 x1 nx z0 z1 z2 _ HS5.out.slx.2).mono ?_
      rintro e W6 ⟨he, hb6⟩
      rw [HQ.out] at he
      subst he
      have HS6 := Lib.hid (HS5.out.keep hb6)
      have HBE6 := Lib.hid (obj_below hb6 HBE5.out (obj_lt HBE5.out))
      have HON6 := Lib.hid (HON5.out.trans (Only.of_below hb6))
      have hz6 := hb6.size
      have hck : W6.cell? ⟨bs, 2, none⟩ = some (.pointer (some ⟨b, 0, none⟩)) := by have h := HS6.out.1; simp [World.cell?, h]
      clear hb6 ha0 ha1 ha2 hl0 hl1 hl2 HS5 HBE5 HON5 hW5
      cases q with
      | false =>
        go_wp2_with fail
        go_ret
        exact ⟨⟨bs, bx, b, v⟩, _, false, rfl, HS6.out, SlTo.refl _ _, HON6.out, .inr ⟨by rw [HN.out]; omega, .inr ⟨_, _, rfl, .inl ⟨HQ.out, rfl, rfl⟩⟩⟩⟩
      | true =>
        have hlr : r.length ≤ 1000000 := by simp at hl; omega
        go_wp2_with fail
        refine (PopE_some bx bs b b v z0 z1 z2 r _ HS6.out.2.2.1 HS6.out.2.2.2.1 hlr HS6.out.slx hnx hns).mono ?_
        rintro e W7 ⟨he, v7, r7, ⟨hH7, hok7, hon7, _⟩, hpm7, hv7⟩
        subst he
        have hnbs7 : ¬ HpBE v b bs := hns
        have hnbe7 : ¬ HpBE v b be := fun h => h.elim (fun h => by omega) fun h => by have := hlv be h; omega
        have hnbx7 : ¬ HpBE v b bx := hnx
        have HBS := Lib.hid (hon7.obj HS6.out.1 hnbs7)
        have HBE3 := Lib.hid (hon7.obj HBE6.out hnbe7)
        have HSL := Lib.hid (HS6.out.slx.only hon7 hnbx7 hnbs7)
        have HHP := Lib.hid hH7
        have HOK := Lib.hid hok7
        have HPM7 := Lib.hid hpm7
        have HTO := Lib.hid (fun (k : Nat) (hk : v7.ownBlock = some k) => (.inl (by rw [← hv7]; exact hk) : v.ownBlock = some k ∨ w.heap.size ≤ k))
        have HON3 := Lib.hid (HON6.out.trans2E hon7 (fun k hk h => h.elim (fun h => .inr (.inl h)) fun h => .inr (.inr h)))
        have hz7 := hon7.size
        have hlv' : ∀ k, v7.ownBlock = some k → k < w.heap.size := fun k hk => hlv k (by rw [← hv7]; exact hk)
        have hnx' : Ns v7 b bx := by unfold Ns OwnB; rw [hv7]; exact hnx
        have hns' : Ns v7 b bs := by unfold Ns OwnB; rw [hv7]; exact hns
        have hlr7 : r7.length ≤ 1000000 := by rw [hpm7.length_eq]; exact hlr
        clear hH7 hok7 hon7 hpm7 hv7 hck
        go_wp2_with fail
        have hbr : Below W7.heap.size W7 W7 := Below.refl _ _
        have hck : W7.cell? ⟨bs, 2, none⟩ = some (.pointer (some ⟨b, 0, none⟩)) := by have h := HBS.out; simp [World.cell?, h]
        have he0 : W7.cell? ⟨be, 0, none⟩ = some (.int .i64 x0) := by have h := HBE3.out; simp [World.cell?, h]
        have he1 : W7.cell? ⟨be, 1, none⟩ = some (.int .i64 x1) := by have h := HBE3.out; simp [World.cell?, h]
        have he2 : W7.cell? ⟨be, 2, none⟩ = some (.int .i64 nx) := by have h := HBE3.out; simp [World.cell?, h]
        have hnbs : ¬ HpBE v7 b bs := hns'
        have hnbe : ¬ HpBE v7 b be := fun h => h.elim (fun h => by omega) fun h => by have := hlv' be h; omega
        go_wp2_with fail
        go_region_held3 (fun w' => w'.cell? ⟨bs, 2, none⟩ = some (.pointer (some ⟨b, 0, none⟩)) ∧ w'.cell? ⟨be, 0, none⟩ = some (.int .i64 x0) ∧ w'.cell? ⟨be, 1, none⟩ = some (.int .i64 x1) ∧ w'.cell? ⟨be, 2, none⟩ = some (.int .i64 nx) ∧ Only (HpBE v7 b) W7 w')
          (first | exact ⟨cell_below (B := W7.heap.size) (w := W7) (below_drew1 hbr) hck (World.block_lt_of_cell? _ _ hck), cell_below (B := W7.heap.size) (w := W7) (below_drew1 hbr) he0 (World.block_lt_of_cell? _ _ he0), cell_below (B := W7.heap.size) (w := W7) (below_drew1 hbr) he1 (World.block_lt_of_cell? _ _ he1), cell_below (B := W7.heap.size) (w := W7) (below_drew1 hbr) he2 (World.block_lt_of_cell? _ _ he2), Only.of_below (below_drew1 hbr)⟩ | exact ⟨hQ.cell hck hnbs, hQ.cell he0 hnbe, hQ.cell he1 hnbe, hQ.cell he2 hnbe, hQ⟩ | go_keep)
          (first
            | (go_at_call 85; go_split_ands; (with_reducible refine Calls.mono (PushE_calls bx bs b b v7 r7 x0 x1 nx _ ?_ HOK.out (by omega) ?_ hnx' hns') ?_); (exact HHP.out.keep (below_drew1 hbr)); (exact HSL.out.keep (below_drew1 hbr)); rintro e wq ⟨he, v9, l9, ⟨hH, hok, hon, hfr⟩, hpm⟩; subst he; have hQ : Only (HpBE v7 b) W7 wq := (Only.of_below (below_drew1 hbr)).trans hon; have HH9 := Lib.hid hH; have HOK9 := Lib.hid hok; have HFR9 := Lib.hid (show ∀ k, v9.ownBlock = some k → (v7).ownBlock = some k ∨ W7.heap.size ≤ k from hfr); have HPM9 := Lib.hid hpm; clear hH hok hon hfr hpm))
        go_wp2_with fail
        go_ret
        have hpm := HPM9.out
        have hN9 : ∀ k, k < W7.heap.size → Ns v7 b k → Ns v9 b k := fun k hk h h2 => h2.elim (fun e => h (.inl e)) fun h2 => (HFR9.out k h2).elim (fun e => h (.inr e)) fun e => by omega
        refine ⟨⟨bs, bx, b, v9⟩, l9, true, rfl, ⟨hQ.obj HBS.out hnbs, hQ.cell HSL.out.1 hnx', HH9.out, HOK9.out, hN9 bx (by omega) hnx', hN9 bs (by omega) hns', hne⟩, ⟨rfl, rfl, rfl, fun k hk => (HFR9.out k hk).elim (fun h => HTO.out k h) fun h => .inr (by omega)⟩, ?_, .inr ⟨by rw [HN.out]; omega, .inr ⟨_, _, rfl, .inr ⟨HQ.out, rfl, hpm.trans (HPM7.out.cons _)⟩⟩⟩⟩
        refine (HON3.out).trans2E hQ fun k hk h => ?_
        rcases h with h | h
        · exact .inr (.inl h)
        · exact .inr (.inr ((HTO.out k h).resolve_right (by omega)))
end Go.Proofs.Ytacgkoclammggaa
