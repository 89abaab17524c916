/-
  Texts on the program, part 9: Heap6E, SelE, LstE.
-/
import Derived.Shelf.Abstract
import Derived.Test.YticdmglondpgaaaGreatQ03
import Derived.Test.YticdmglondpgaaaGreatQ07
import Derived.Test.YticdmglondpgaaaGreatQ08

/-! ## Heap6E: The heap of entries of a selector (shelterbelt/api.Result): Drain, as an iterator. Condition: the heap's blocks are as the word HpE bx says; no more than a million things. -/
namespace Go.Proofs.YticdmglondpgaaaGreat
open Go.RowKit
set_option linter.unusedVariables false
set_option maxRecDepth 100000
set_option linter.unusedSimpArgs false
attribute [local go_sem] Oper.semAt_some

/-- The caller keeps the heap's blocks, the box, and the selector's. -/
def KpSE (v : Value) (b bX bx bs : Nat) (A B : World) : Prop := Only (fun k => ¬ (k = b ∨ OwnB v k ∨ k = bX ∨ k = bx ∨ k = bs)) A B
theorem KpSE.trans {v : Value} {b bX bx bs : Nat} {A B C : World} (h : KpSE v b bX bx bs A B) (k : KpSE v b bX bx bs B C) : KpSE v b bX bx bs A C := Only.trans h k
theorem KpSE.putObj {v : Value} {b bX bx bs n : Nat} (hE : b < n ∧ bX < n ∧ bx < n ∧ bs < n ∧ ∀ k, OwnB v k → k < n) (W : World) (l : Nat) (o' : Obj) (hl : n ≤ l) : KpSE v b bX bx bs W (W.putObj l o') :=
  ⟨rfl, rfl, rfl, by simp, fun k _ hk => World.putObj_heap_other fun e => hk fun h => by
    rcases h with h | h | h | h | h
    · omega
    · have := hE.2.2.2.2 k h; omega
    · omega
    · omega
    · omega⟩
theorem DrainE_calls (b : Nat) (w : World) :
    Calls Tryz.prog 184 #[.pointer (some ⟨b, 0, none⟩)] w fun e w' => e = .returned (.func (.func 226) #[] #[.pointer (some ⟨w.heap.size, 0, none⟩)]) ∧ w' = w.alloc (.cells #[.pointer (some ⟨b, 0, none⟩)] 272) := by
  go_enter Tryz.func184, Tryz.ntmps184
  go_wp2_with fail
  go_ret
  exact ⟨rfl, rfl⟩
theorem HpE.n {w : World} {bx b lo : Nat} {v : Value} {l : List (Int × Int × Int)} (h : HpE bx w b lo v l) : hpN b w = l.length := by
  obtain ⟨A, c, rfl, hlc⟩ := h.2.1.shape
  have h1 := h.1
  simp [hpN, World.cell?, h1]
theorem HpE.kp {A B : World} {bx bs b lo bX : Nat} {v v' : Value} {l : List (Int × Int × Int)} (h : HpE bx A b lo v' l) (hv : v'.ownBlock = v.ownBlock) (hk : KpSE v b bX bx bs A B) : HpE bx B b lo v' l :=
  h.only hk (fun h => h (.inl rfl)) fun k hk h => h (.inr (.inl (by unfold OwnB; rw [← hv]; exact hk)))
set_option maxHeartbeats 1600000 in
theorem drainE_iter (m bX bx bs b lo : Nat) (v : Value) (l : List (Int × Int × Int)) (w : World) (hp : HpE bx w b lo v l) (hok : HeapOk ltE l) (hl : l.length ≤ 1000000) (hbX : w.heap[bX]? = some (.cells #[.pointer (some ⟨b, 0, none⟩)] 272 (0, 0))) (hne : bX ≠ b) (hno : ∀ k, v.ownBlock = some k → k ≠ bX) (hsl : SlxE w bx bs) (hnx : Ns v b bx) (hns : Ns v b bs) :
    IterD Fence.wide m Tryz.prog 226 #[.pointer (some ⟨bX, 0, none⟩)] (fun x : Int × Int × Int => #[.agg #[.int .i64 x.1, .int .i64 x.2.1, .int .i64 x.2.2]]) (HpBE v b) (KpSE v b bX bx bs) (fun pre x _ _ => ∃ L, Drn ltE l (pre ++ [x]) L)
      (fun xs W => ∃ v', HpE bx W b lo v' [] ∧ Drn ltE l xs [] ∧ v'.ownBlock = v.ownBlock) (fun xs W => ∃ v' L, HpE bx W b lo v' L ∧ HeapOk ltE L ∧ Drn ltE l xs L ∧ v'.ownBlock = v.ownBlock) l.length w := by
  intro lp J Jx W hW hJ hJx hY h0
  refine callsIn_of_wp Tryz.func226 rfl trivial ?_ rfl
  simp only [Tryz.ntmps226, List.size_toArray, List.length_cons, List.length_nil, Nat.reduceAdd, Nat.reduceSub, Array.replicate_succ, Array.replicate_zero, List.push_toArray, List.append_toArray, List.nil_append, List.cons_append]
  have hX0 := obj_below hW hbX (obj_lt hbX)
  have hP0 := hp.keep hW
  have HJ := Lib.hid hJ
  have HJX := Lib.hid hJx
  have HY := Lib.hid hY
  have H0 := Lib.hid h0
  have HX0 := Lib.hid hX0
  have HP0 := Lib.hid hP0
  have HOK := Lib.hid hok
  have HNO := Lib.hid hno
  have HSL0 := Lib.hid (hsl.keep hW)
  clear hJ hJx hY h0 hX0 hP0 hok hbX hp hno hsl
  gi_wp2
  gi_loopw [] (fun wr => ∃ v' L pre, HpE bx wr b lo v' L ∧ HeapOk ltE L ∧ Drn ltE l pre L ∧ v'.ownBlock = v.ownBlock ∧ J pre wr ∧ SlxE wr bx bs ∧ wr.heap[bX]? = some (.cells #[.pointer (some ⟨b, 0, none⟩)] 272 (0, 0))) (fun wr => hpN b wr)
  case atStart => exact ⟨v, l, [], HP0.out, HOK.out, Drn.nil (List.Perm.refl _), rfl, H0.out, HSL0.out, HX0.out⟩
  case round =>
    clear HX0 H0 HP0 HOK
    obtain ⟨v', L, pre, hH, hok, hdr, hv, hJs, hsl, hX⟩ := hrel
    have hx0 : wr.cell? ⟨bX, 0, none⟩ = some (.pointer (some ⟨b, 0, none⟩)) := by simp [World.cell?, hX]
    have HH := Lib.hid hH
    have HOK := Lib.hid hok
    have HDR := Lib.hid hdr
    have HV := Lib.hid hv
    have HJS := Lib.hid hJs
    have HSL := Lib.hid hsl
    have hnx' : Ns v' b bx := by unfold Ns OwnB; rw [hv]; exact hnx
    have hns' : Ns v' b bs := by unfold Ns OwnB; rw [hv]; exact hns
    have HNX := Lib.hid hnx'
    have HNS := Lib.hid hns'
    clear hsl hnx' hns'
    have HX := Lib.hid hX
    have HN := Lib.hid hH.n
    clear hH hok hdr hv hJs hX
    cases L with
    | nil =>
      gi_wp2
      refine ⟨trivial, (fun h => by cases h), (callsIn_wide.2 (HLenE_calls bx b lo v' [] wr HH.out)).mono ?_⟩
      rintro e _ ⟨he, q, rfl⟩
      subst he
      gi_wp2
      go_end0
      exact ⟨⟨_, rfl⟩, .inl ⟨pre, ⟨v', HH.out.keep (below_drewN_self _ q), HDR.out, HV.out⟩, HJ.out _ _ _ HJS.out (Only.of_below (below_drewN_self _ q))⟩⟩
    | cons x L0 =>
      obtain ⟨x0, x1, x2⟩ := x
      have hln := HDR.out.len
      have hL0 : L0.length ≤ 1000000 := by simp at hln; omega
      have hpl : pre.length < l.length := by simp at hln; omega
      have hb0 : decide ((0 : Int) < (((x0, x1, x2) :: L0 : List (Int × Int × Int)).length : Int)) = true := by simp
      obtain ⟨n, hn⟩ : ∃ n, (((x0, x1, x2) :: L0 : List (Int × Int × Int)).length : Int) = n := ⟨_, rfl⟩
      rw [hn] at hb0
      have HNN := Lib.hid hn
      clear hln hn
      gi_wp2
      refine ⟨trivial, (fun h => by cases h), (callsIn_wide.2 (HLenE_calls bx b lo v' ((x0, x1, x2) :: L0) wr HH.out)).mono ?_⟩
      rintro e _ ⟨he, q, rfl⟩
      rw [HNN.out] at he
      subst he
      gi_wp2
      refine ⟨trivial, (fun h => by cases h), (callsIn_wide.2 (PopE_some bx bs b lo v' x0 x1 x2 L0 _ (HH.out.keep (below_drewN_self _ q)) HOK.out hL0 (HSL.out.keep (below_drewN_self _ q)) HNX.out HNS.out)).mono ?_⟩
      rintro e w2 ⟨he, v2, L2, ⟨hH2, hok2, hon2, _⟩, hpm2, hv2⟩
      subst he
      have hvv : v2.ownBlock = v.ownBlock := hv2.trans HV.out
      have ho1 : Only (HpBE v b) wr w2 := (Only.of_below (below_drewN_self wr q)).trans (hon2.mono fun k _ h => h.imp (fun h => h) fun h => by unfold OwnB at h ⊢; rw [← HV.out]; exact h)
      have hdr2 := HDR.out.step ltE_wo HOK.out hpm2
      have ho2 : Only (HpBE v b) wr (w2.alloc (.cells #[.int .i64 x0, .int .i64 x1, .int .i64 x2] 277)) := ho1.trans (Only.of_below (below_alloc1 (Below.refl _ _) _))
      obtain ⟨fn, tmps, assign, body, hy, hR⟩ := HY.out pre (x0, x1, x2) wr _ HJS.out ho2 hpl ⟨L2, hdr2⟩
      have HRR := Lib.hid hR
      have hbXn : ¬ HpBE v b bX := fun h => h.elim (fun h => hne h) fun h => HNO.out bX h rfl
      have HX2 := Lib.hid (ho2.obj HX.out hbXn)
      have HSL2 := Lib.hid (HSL.out.only ho2 hnx hns)
      have HH2 := Lib.hid (hH2.keep (below_alloc1 (Below.refl _ _) (.cells #[.int .i64 x0, .int .i64 x1, .int .i64 x2] 277)))
      have HOK2 := Lib.hid hok2
      have HDR2 := Lib.hid hdr2
      have HV2 := Lib.hid hvv
      have HL2 := Lib.hid hpm2.length_eq
      clear ho1 ho2 hR hH2 hok2 hon2 hpm2 hv2 hvv hdr2 HX
      gi_wp2
      refine ⟨(fun h => by cases h), HRR.out.mono ?_⟩
      rintro e W3 (⟨rfl, hJ3, hk3⟩ | ⟨rfl, hJx3, hk3⟩)
      · have HJ3 := Lib.hid hJ3
        have HH3 := Lib.hid (HH2.out.only hk3 (fun h => h (.inl rfl)) fun k hk h => h (.inr (.inl (by unfold OwnB; rw [← HV2.out]; exact hk))))
        have HX3 := Lib.hid (Only.obj hk3 HX2.out fun h => h (.inr (.inr (.inl rfl))))
        have HSL3 := Lib.hid (HSL2.out.only hk3 (fun h => h (.inr (.inr (.inr (.inl rfl))))) (fun h => h (.inr (.inr (.inr (.inr rfl))))))
        clear hJ3 hk3
        gi_wp2
        go_roundw
        case rel => exact ⟨v2, L2, _, HH3.out, HOK2.out, HDR2.out, HV2.out, HJ3.out, HSL3.out, HX3.out⟩
        case measure => rw [HN.out, HH3.out.n, HL2.out]; simp
      · have HJ3 := Lib.hid hJx3
        have HH3 := Lib.hid (HH2.out.only hk3 (fun h => h (.inl rfl)) fun k hk h => h (.inr (.inl (by unfold OwnB; rw [← HV2.out]; exact hk))))
        clear hJx3 hk3
        gi_wp2
        refine bodyPost_ret (results_none rfl _ _ _) rfl ?_
        exact ⟨⟨_, rfl⟩, .inr ⟨_, ⟨v2, L2, HH3.out, HOK2.out, HDR2.out, HV2.out⟩, HJ3.out⟩⟩
end Go.Proofs.YticdmglondpgaaaGreat

/-! ## SelE: The selector (topk, over shelterbelt/api.Result): New, Len, Last, Offer. Condition: the selector's blocks are as the word SelE says; no more than a million are kept. -/
namespace Go.Proofs.YticdmglondpgaaaGreat
open Go.RowKit
set_option linter.unusedVariables false
set_option maxRecDepth 100000
set_option linter.unusedSimpArgs false

/-- A selector of so many, that nx were offered to; its heap holds L. -/
def SelE (w : World) (s : Sl) (most nx : Int) (L : List (Int × Int × Int)) : Prop :=
  w.heap[s.bs]? = some (.cells #[.func (.func 91) #[] #[], .int .i64 most, .pointer (some ⟨s.b, 0, none⟩), .int .i64 nx] 274 (0, 0)) ∧ w.cell? ⟨s.bx, 0, none⟩ = some (.pointer (some ⟨s.bs, 0, none⟩)) ∧ HpE s.bx w s.b s.b s.v L ∧ HeapOk ltE L ∧ Ns s.v s.b s.bx ∧ Ns s.v s.b s.bs ∧ s.bx ≠ s.bs
theorem SelE.slx {w : World} {s : Sl} {most nx : Int} {L : List (Int × Int × Int)} (h : SelE w s most nx L) : SlxE w s.bx s.bs := ⟨h.2.1, by have h1 := h.1; simp [World.cell?, h1]⟩
theorem SelE.only {w w' : World} {S : Nat → Prop} {s : Sl} {most nx : Int} {L : List (Int × Int × Int)} (h : SelE w s most nx L) (ho : Only S w w') (hs : ∀ k, SlB s k → ¬ S k) (hx : ¬ S s.bx) : SelE w' s most nx L :=
  ⟨ho.obj h.1 (hs _ (.inl rfl)), ho.cell h.2.1 hx, h.2.2.1.only ho (hs _ (.inr (.inl rfl))) (fun k hk => hs k (.inr (.inr hk))), h.2.2.2⟩
theorem SelE.keep {w w' : World} {s : Sl} {most nx : Int} {L : List (Int × Int × Int)} (h : SelE w s most nx L) (hb : Below w.heap.size w w') : SelE w' s most nx L := h.only (S := fun _ => False) (Only.of_below hb) (fun _ _ h => h) fun h => h
theorem SelE.lt {w : World} {s : Sl} {most nx : Int} {L : List (Int × Int × Int)} (h : SelE w s most nx L) : (∀ k, SlB s k → k < w.heap.size) ∧ s.bx < w.heap.size :=
  ⟨fun k hk => by
    rcases hk with hk | hk | hk
    · rw [hk]; exact obj_lt h.1
    · rw [hk]; exact h.2.2.1.lt
    · exact (h.2.2.1.2.1.lt k hk).2, World.block_lt_of_cell? _ _ h.2.1⟩
theorem SelE.nbx {w : World} {s : Sl} {most nx : Int} {L : List (Int × Int × Int)} (h : SelE w s most nx L) : ¬ SlB s s.bx := fun hk => hk.elim (fun e => h.2.2.2.2.2.2 e) fun e => h.2.2.2.2.1 e
theorem SLenE_calls (s : Sl) (most nx : Int) (L : List (Int × Int × Int)) (w : World) (h : SelE w s most nx L) :
    Calls Tryz.prog 180 #[.pointer (some ⟨s.bs, 0, none⟩)] w fun e w' => e = .returned (.int .i64 L.length) ∧ ∃ n, w' = w.drewN n := by
  obtain ⟨bs, bx, b, v⟩ := s
  obtain ⟨h1, _, hH, _⟩ := h
  have hc2 : w.cell? ⟨bs, 2, none⟩ = some (.pointer (some ⟨b, 0, none⟩)) := by simp [World.cell?, h1]
  have HH := Lib.hid hH
  clear h1 hH
  go_enter Tryz.func180, Tryz.ntmps180
  go_wp2_with fail
  refine (HLenE_calls bx b b v L _ HH.out).mono ?_
  rintro e _ ⟨he, q, rfl⟩
  subst he
  go_wp2_with fail
  go_ret
  exact ⟨rfl, q, rfl⟩
set_option maxHeartbeats 3200000 in
theorem SNewE_calls (most : Int) (w : World) :
    Calls Tryz.prog 131 #[.func (.func 91) #[] #[], .int .i64 most] w fun e w' => ∃ s, e = .returned (.pointer (some ⟨s.bs, 0, none⟩)) ∧ SelE w' s most 0 [] ∧ Below w.heap.size w w' ∧ (∀ k, SlB s k → w.heap.size ≤ k) ∧ w.heap.size ≤ s.bx ∧ s.v = .slice none 0 0 := by
  go_enter Tryz.func131, Tryz.ntmps131
  go_wp2_with fail
  obtain ⟨w2, hw2⟩ : ∃ W, (w.alloc (.cells #[.func (.func 91) #[] #[], .int .i64 most, .pointer none, .int .i64 0] 274)).alloc (.cells #[.pointer (some ⟨w.heap.size, 0, none⟩)] 229) = W := ⟨_, rfl⟩
  (try rw [hw2])
  have hbel2 : Below w.heap.size w w2 := by rw [← hw2]; exact below_alloc1 (below_alloc1 (Below.refl _ _) _) _
  have ba : w2.heap[w.heap.size]? = some (.cells #[.func (.func 91) #[] #[], .int .i64 most, .pointer none, .int .i64 0] 274 (0, 0)) := by
    rw [← hw2]; exact obj_below ((Below.refl _ _).alloc (Nat.le_refl _) _) (heap_alloc_new w _) (obj_lt (heap_alloc_new w _))
  have bb : w2.heap[w.heap.size + 1]? = some (.cells #[.pointer (some ⟨w.heap.size, 0, none⟩)] 229 (0, 0)) := by
    rw [← hw2]; have h := heap_alloc_new (w.alloc (.cells #[.func (.func 91) #[] #[], .int .i64 most, .pointer none, .int .i64 0] 274)) (.cells #[.pointer (some ⟨w.heap.size, 0, none⟩)] 229); rwa [World.size_alloc] at h
  have HB2 := Lib.hid hbel2
  have BA := Lib.hid ba
  have BB := Lib.hid bb
  have hz := obj_lt bb
  have hp : w2.cell? ⟨w.heap.size + 1, 0, none⟩ = some (.pointer (some ⟨w.heap.size, 0, none⟩)) := by have h := BB.out; simp [World.cell?, h]
  have hbr : Below w2.heap.size w2 w2 := Below.refl _ _
  clear hw2 hbel2 ba bb
  go_wp2_with fail
  go_cut [] (fun wx => ∃ b, w2.heap.size ≤ b ∧ wx.heap[w.heap.size]? = some (.cells #[.func (.func 91) #[] #[], .int .i64 most, .pointer (some ⟨b, 0, none⟩), .int .i64 0] 274 (0, 0)) ∧ HpE (w.heap.size + 1) wx b b (.slice none 0 0) [] ∧ Only (fun k => k = w.heap.size) w2 wx)
  case first =>
    go_region_held3 (fun w' => w'.cell? ⟨w.heap.size + 1, 0, none⟩ = some (.pointer (some ⟨w.heap.size, 0, none⟩)) ∧ Only (fun k => k = w.heap.size) w2 w')
      (first | exact ⟨cell_below (B := w2.heap.size) (w := w2) (below_drew1 hbr) hp (World.block_lt_of_cell? _ _ hp), Only.of_below (below_drew1 hbr)⟩ | exact ⟨cell_below (B := w2.heap.size) (w := w2) hB3 hp (World.block_lt_of_cell? _ _ hp), Only.of_below hB3⟩ | exact ⟨(only_set _ w.heap.size _ _).cell (cell_below (B := w2.heap.size) (w := w2) hB3 hp (World.block_lt_of_cell? _ _ hp)) (Nat.succ_ne_self _), (Only.of_below hB3).trans (only_set _ w.heap.size _ _)⟩ | go_keep)
      (first
        | (go_at_call 177; go_split_ands; (with_reducible refine (NewE_calls (w.heap.size + 1) _).mono ?_); rintro e w3 ⟨b, he, hlo, hH, hbq⟩; subst he; have hB3 : Below w2.heap.size w2 w3 := Below.after (by first | ((repeat (first | assumption | exact Below.refl _ _ | apply below_drew1 | apply below_alloc1)); done)) hbq; have hBA3 := obj_below hB3 BA.out (obj_lt BA.out); have hfz : w3.frozen? ⟨w.heap.size, 2, none⟩ = false := free_blk hBA3 2; have hcs : w3.cell? ⟨w.heap.size, 2, none⟩ = some (.pointer none) := (by simp [World.cell?, hBA3]); have HHN := Lib.hid hH; have HBA3 := Lib.hid hBA3; have hlo2 : w2.heap.size ≤ b := hlo; clear hH hBA3))
    all_goals
      go_wp2_with fail
      go_meet
      exact ⟨b, hlo2, set_blk (cs := [_, _, _, _]) HBA3.out 2 _, HHN.out.only (only_set _ _ _ _) (fun h => by omega) (fun k hk h => by simp [Value.ownBlock] at hk), (Only.of_below hB3).trans (only_set _ w.heap.size _ _)⟩
  obtain ⟨b, hlo, hs, hH, hon⟩ := hcut
  have hpx : wc.cell? ⟨w.heap.size + 1, 0, none⟩ = some (.pointer (some ⟨w.heap.size, 0, none⟩)) := hon.cell hp (Nat.succ_ne_self _)
  have HS := Lib.hid hs
  have HH := Lib.hid hH
  have HBB := Lib.hid (HB2.out.trans (hon.below (by omega) fun k hk h => by omega))
  have HP := Lib.hid hpx
  clear hs hH hon hp
  go_wp2_with fail
  go_ret
  exact ⟨⟨w.heap.size, w.heap.size + 1, b, .slice none 0 0⟩, rfl, ⟨HS.out, HP.out, HH.out, fun i a b h0 ha => by simp at ha, fun h => h.elim (fun h => by have : w.heap.size + 1 = b := h; omega) fun h => by simp [OwnB, Value.ownBlock] at h, fun h => h.elim (fun h => by have : w.heap.size = b := h; omega) fun h => by simp [OwnB, Value.ownBlock] at h, Nat.succ_ne_self _⟩, HBB.out, fun k hk => by
    rcases hk with hk | hk | hk
    · exact Nat.le_of_eq hk.symm
    · have : k = b := hk
      omega
    · simp [OwnB, Value.ownBlock] at hk, Nat.le_succ _, rfl⟩
set_option maxHeartbeats 3200000 in
set_option maxRecDepth 1000000 in
theorem OfferE_calls (s : Sl) (most nx : Int) (L : List (Int × Int × Int)) (x0 x1 : Int) (w : World) (h : SelE w s most nx L) (hl : L.length ≤ 100000) (hn0 : 0 ≤ nx) (hn1 : nx < 1000000) :
    Calls Tryz.prog 132 #[.pointer (some ⟨s.bs, 0, none⟩), .agg #[.int .i64 x0, .int .i64 x1]] w fun e w' => ∃ s' L' ok, e = .returned (.bool ok) ∧ SelE w' s' most (nx + 1) L' ∧ SlTo s s' w.heap.size ∧ Only (SlB s) w w' ∧ OffR aheadE most (x0, x1, nx) L L' ok := by
  obtain ⟨bs, bx, b, v⟩ := s
  obtain ⟨n1, hn⟩ : ∃ n, nx + 1 = n := ⟨_, rfl⟩
  have hwr : IntKind.i64.wrap (nx + 1) = n1 := by rw [i64_w, ← hn]; exact wrap64_id _ (by omega)
  rw [hn]
  obtain ⟨W1, hW⟩ : ∃ W, w.alloc (.cells #[.int .i64 x0, .int .i64 x1] 90) = W := ⟨_, rfl⟩
  have hB : Below w.heap.size w W1 := by rw [← hW]; exact below_alloc1 (Below.refl _ _) _
  have hx := (show W1.heap[w.heap.size]? = some (.cells #[.int .i64 x0, .int .i64 x1] 90 (0, 0)) by rw [← hW]; exact heap_alloc_new _ _)
  have hk := h.keep hB
  have hlts := h.lt
  have hc3 : W1.cell? ⟨bs, 3, none⟩ = some (.int .i64 nx) := by have h1 := hk.1; simp [World.cell?, h1]
  have hx0 : W1.cell? ⟨w.heap.size, 0, none⟩ = some (.int .i64 x0) := by simp [World.cell?, hx]
  have hx1 : W1.cell? ⟨w.heap.size, 1, none⟩ = some (.int .i64 x1) := by simp [World.cell?, hx]
  have gc3 := fun o => (World.cell?_alloc_lt (o := o) W1 _ (World.block_lt_of_cell? _ _ hc3)).trans hc3
  have gx0 := fun o => (World.cell?_alloc_lt (o := o) W1 _ (World.block_lt_of_cell? _ _ hx0)).trans hx0
  have gx1 := fun o => (World.cell?_alloc_lt (o := o) W1 _ (World.block_lt_of_cell? _ _ hx1)).trans hx1
  have HK := Lib.hid hk
  have HB := Lib.hid hB
  clear hk h hx hB
  have HNX := Lib.hid hn
  clear hn
  go_enter Tryz.func132, Tryz.ntmps132
  go_wp2_with fail
  (try rw [hW])
  clear hW
  go_cut [5] (fun s5 wx => ∃ be, s5 = .pointer (some ⟨be, 0, none⟩) ∧ W1.heap.size ≤ be ∧ wx.heap[be]? = some (.cells #[.int .i64 x0, .int .i64 x1, .int .i64 nx] 277 (0, 0)) ∧ Below W1.heap.size W1 wx)
  case first =>
    go_region
    all_goals
      go_wp2_with fail
      go_meet
      exact ⟨_, rfl, Nat.le_refl _, (show ((W1.alloc (.cells #[.int .i64 x0, .int .i64 x1, .int .i64 nx] 277)).drew).heap[W1.heap.size]? = _ from heap_alloc_new W1 _), below_drew1 (below_alloc1 (Below.refl _ _) _)⟩
  obtain ⟨be, rfl, hbe1, hbe, hb2⟩ := hcut
  have hz1 := HB.out.size
  have hz1' : w.heap.size < W1.heap.size := World.block_lt_of_cell? _ _ hx0
  have hkc := HK.out.keep hb2
  have hc3' := cell_below hb2 hc3 (World.block_lt_of_cell? _ _ hc3)
  have hf3 : wc.frozen? ⟨bs, 3, none⟩ = false := free_blk hkc.1 3
  have hbe9 := obj_lt hbe
  have hlb := hlts.1 b (.inr (.inl rfl))
  have hlbs := hlts.1 bs (.inl rfl)
  have hlbx := hlts.2
  have hlv : ∀ k, v.ownBlock = some k → k < w.heap.size := fun k hk => hlts.1 k (.inr (.inr hk))
  obtain ⟨W2, hW2⟩ : ∃ W, wc.setCell ⟨bs, 3, none⟩ (.int .i64 n1) = W := ⟨_, rfl⟩
  have ho2 : Only (fun k => k = bs) wc W2 := by rw [← hW2]; exact only_set _ _ _ _
  have hbs2 : W2.heap[bs]? = some (.cells #[.func (.func 91) #[] #[], .int .i64 most, .pointer (some ⟨b, 0, none⟩), .int .i64 n1] 274 (0, 0)) := by rw [← hW2]; exact set_blk (cs := [_, _, _, _]) hkc.1 3 _
  obtain ⟨_, hkx, hkH, hkok, hnx, hns, hne⟩ := hkc
  have hp2 : HpE bx W2 b b v L := hkH.only ho2 (fun h => hns (.inl h.symm)) fun k hk h => hns (.inr (by rw [← show k = bs from h]; exact hk))
  have hx2 : W2.cell? ⟨bx, 0, none⟩ = some (.pointer (some ⟨bs, 0, none⟩)) := ho2.cell hkx hne
  have hbe2 := ho2.obj hbe (fun h => by have : be = bs := h; omega)
  have HON := Lib.hid (((Only.of_below (S := SlB ⟨bs, bx, b, v⟩) HB.out).trans (Only.of_below hb2)).trans (ho2.mono fun k _ h => .inl h))
  have hzw : w.heap.size ≤ W2.heap.size := HON.out.size
  have HS2 := Lib.hid (show SelE W2 ⟨bs, bx, b, v⟩ most n1 L from ⟨hbs2, hx2, hp2, hkok, hnx, hns, hne⟩)
  have hbe3 : be < W2.heap.size := obj_lt hbe2
  have HBE := Lib.hid hbe2
  obtain ⟨N, hN⟩ : ∃ N, L.length = N := ⟨_, rfl⟩
  have HLC := Lib.hid fun (W : World) (hW : SelE W ⟨bs, bx, b, v⟩ most n1 L) => by have h := SLenE_calls ⟨bs, bx, b, v⟩ most n1 L W hW; rw [hN] at h; exact h
  have HN := Lib.hid hN
  have hcm : W2.cell? ⟨bs, 1, none⟩ = some (.int .i64 most) := by simp [World.cell?, hbs2]
  have hck : W2.cell? ⟨bs, 2, none⟩ = some (.pointer (some ⟨b, 0, none⟩)) := by simp [World.cell?, hbs2]
  have he0 : W2.cell? ⟨be, 0, none⟩ = some (.int .i64 x0) := by simp [World.cell?, hbe2]
  have he1 : W2.cell? ⟨be, 1, none⟩ = some (.int .i64 x1) := by simp [World.cell?, hbe2]
  have he2 : W2.cell? ⟨be, 2, none⟩ = some (.int .i64 nx) := by simp [World.cell?, hbe2]
  clear hx0 hx1 gc3 gx0 gx1 HK hc3 hb2 hbe hp2 hx2 hbe2 hkx hkH hkok hbs2 ho2 hN hlts HB
  have hc3 := hc3'
  clear hc3'
  go_wp2_with fail
  (try rw [hW2])
  clear hW2 hc3 hf3
  by_cases hlt : (N : Int) < most
  · have hd : decide ((N : Int) < most) = true := decide_eq_true hlt
    go_wp2_with fail
    go_quiet ((go_at_call 180; exact Calls.quiet_of (HLC.out _ (HS2.out.keep (below_drewN_self _ _)))))
    obtain ⟨W3, hW3⟩ : ∃ W, W2.drewN nq = W := ⟨_, rfl⟩
    have hb3 : Below W2.heap.size W2 W3 := by rw [← hW3]; exact below_drewN_self _ _
    rw [hW3]
    clear hW3
    have hHP := HS2.out.2.2.1.keep hb3
    have HSL := Lib.hid (HS2.out.slx.keep hb3)
    have HBS := Lib.hid (obj_below hb3 HS2.out.1 (obj_lt HS2.out.1))
    have HBE3 := Lib.hid (obj_below hb3 HBE.out (obj_lt HBE.out))
    have HON3 := Lib.hid (HON.out.trans (Only.of_below hb3))
    have hz3 := hb3.size
    have HOK := Lib.hid HS2.out.2.2.2.1
    have HHP := Lib.hid hHP
    have HTO := Lib.hid (fun (k : Nat) (hk : v.ownBlock = some k) => (.inl hk : v.ownBlock = some k ∨ w.heap.size ≤ k))
    clear hHP hcm hck he0 he1 he2 hb3
    have hnx' := hnx
    have hns' := hns
    have hlv' := hlv
    have hbr : Below W3.heap.size W3 W3 := Below.refl _ _
    have hck : W3.cell? ⟨bs, 2, none⟩ = some (.pointer (some ⟨b, 0, none⟩)) := by have h := HBS.out; simp [World.cell?, h]
    have he0 : W3.cell? ⟨be, 0, none⟩ = some (.int .i64 x0) := by have h := HBE3.out; simp [World.cell?, h]
    have he1 : W3.cell? ⟨be, 1, none⟩ = some (.int .i64 x1) := by have h := HBE3.out; simp [World.cell?, h]
    have he2 : W3.cell? ⟨be, 2, none⟩ = some (.int .i64 nx) := by have h := HBE3.out; simp [World.cell?, h]
    have hnbs : ¬ HpBE v b bs := hns'
    have hnbe : ¬ HpBE v b be := fun h => h.elim (fun h => by omega) fun h => by have := hlv' be h; omega
    go_wp2_with fail
    go_region_held3 (fun w' => w'.cell? ⟨bs, 2, none⟩ = some (.pointer (some ⟨b, 0, none⟩)) ∧ w'.cell? ⟨be, 0, none⟩ = some (.int .i64 x0) ∧ w'.cell? ⟨be, 1, none⟩ = some (.int .i64 x1) ∧ w'.cell? ⟨be, 2, none⟩ = some (.int .i64 nx) ∧ Only (HpBE v b) W3 w')
      (first | exact ⟨cell_below (B := W3.heap.size) (w := W3) (below_drew1 hbr) hck (World.block_lt_of_cell? _ _ hck), cell_below (B := W3.heap.size) (w := W3) (below_drew1 hbr) he0 (World.block_lt_of_cell? _ _ he0), cell_below (B := W3.heap.size) (w := W3) (below_drew1 hbr) he1 (World.block_lt_of_cell? _ _ he1), cell_below (B := W3.heap.size) (w := W3) (below_drew1 hbr) he2 (World.block_lt_of_cell? _ _ he2), Only.of_below (below_drew1 hbr)⟩ | exact ⟨hQ.cell hck hnbs, hQ.cell he0 hnbe, hQ.cell he1 hnbe, hQ.cell he2 hnbe, hQ⟩ | go_keep)
      (first
        | (go_at_call 181; go_split_ands; (with_reducible refine Calls.mono (PushE_calls bx bs b b v L x0 x1 nx _ ?_ HOK.out (by omega) ?_ hnx' hns') ?_); (exact HHP.out.keep (below_drew1 hbr)); (exact HSL.out.keep (below_drew1 hbr)); rintro e wq ⟨he, v9, l9, ⟨hH, hok, hon, hfr⟩, hpm⟩; subst he; have hQ : Only (HpBE v b) W3 wq := (Only.of_below (below_drew1 hbr)).trans hon; have HH9 := Lib.hid hH; have HOK9 := Lib.hid hok; have HFR9 := Lib.hid (show ∀ k, v9.ownBlock = some k → (v).ownBlock = some k ∨ W3.heap.size ≤ k from hfr); have HPM9 := Lib.hid hpm; clear hH hok hon hfr hpm))
    go_wp2_with fail
    go_ret
    have hpm := HPM9.out
    have hN9 : ∀ k, k < W3.heap.size → Ns v b k → Ns v9 b k := fun k hk h h2 => h2.elim (fun e => h (.inl e)) fun h2 => (HFR9.out k h2).elim (fun e => h (.inr e)) fun e => by omega
    refine ⟨⟨bs, bx, b, v9⟩, l9, true, rfl, ⟨hQ.obj HBS.out hnbs, hQ.cell HSL.out.1 hnx', HH9.out, HOK9.out, hN9 bx (by omega) hnx', hN9 bs (by omega) hns', hne⟩, ⟨rfl, rfl, rfl, fun k hk => (HFR9.out k hk).elim (fun h => HTO.out k h) fun h => .inr (by omega)⟩, ?_, .inl ⟨by rw [HN.out]; omega, rfl, hpm⟩⟩
    refine (HON3.out).trans2E hQ fun k hk h => ?_
    rcases h with h | h
    · exact .inr (.inl h)
    · exact .inr (.inr ((HTO.out k h).resolve_right (by omega)))
  · have hd : decide ((N : Int) < most) = false := decide_eq_false hlt
    go_wp2_with fail
    go_quiet ((go_at_call 180; exact Calls.quiet_of (HLC.out _ (HS2.out.keep (below_drewN_self _ _)))))
    go_wp2_with fail
    obtain ⟨W3, hW3⟩ : ∃ W, W2.drewN nq = W := ⟨_, rfl⟩
    have hb3 : Below W2.heap.size W2 W3 := by rw [← hW3]; exact below_drewN_self _ _
    rw [hW3]
    clear hW3 HLC
    have HS3 := Lib.hid (HS2.out.keep hb3)
    have HBE3 := Lib.hid (obj_below hb3 HBE.out (obj_lt HBE.out))
    have HON3 := Lib.hid (HON.out.trans (Only.of_below hb3))
    have hz3 := hb3.size
    have hck : W3.cell? ⟨bs, 2, none⟩ = some (.pointer (some ⟨b, 0, none⟩)) := by have h := HS3.out.1; simp [World.cell?, h]
    clear hcm he0 he1 he2 hb3 HS2 HBE HON
    cases L with
    | nil =>
      go_wp2_with fail
      refine (PeekE_none bx b b v _ HS3.out.2.2.1).mono ?_
      rintro e W4 ⟨he, hb4⟩
      subst he
      have ha0 : W4.cell? ⟨be, 0, none⟩ = some (.int .i64 x0) := by have h := obj_below hb4 HBE3.out (obj_lt HBE3.out); simp [World.cell?, h]
      have ha1 : W4.cell? ⟨be, 1, none⟩ = some (.int .i64 x1) := by have h := obj_below hb4 HBE3.out (obj_lt HBE3.out); simp [World.cell?, h]
      have ha2 : W4.cell? ⟨be, 2, none⟩ = some (.int .i64 nx) := by have h := obj_below hb4 HBE3.out (obj_lt HBE3.out); simp [World.cell?, h]
      have HB4 := Lib.hid hb4
      have HS4 := Lib.hid (HS3.out.keep hb4)
      clear hb4 HS3
      go_wp2_with fail
      go_ret
      have hb5 : Below W3.heap.size W3 (W4.alloc (.cells #[.int .i64 0, .int .i64 0, .int .i64 0] 277)) := below_alloc1 HB4.out _
      exact ⟨⟨bs, bx, b, v⟩, [], false, rfl, HS4.out.keep (below_alloc1 (Below.refl _ _) _), SlTo.refl _ _, HON3.out.trans (Only.of_below hb5), .inr ⟨by rw [HN.out]; omega, .inl ⟨rfl, rfl, rfl⟩⟩⟩
    | cons z r =>
      obtain ⟨z0, z1, z2⟩ := z
      obtain ⟨q, hq⟩ : ∃ q, aheadE (x0, x1, nx) (z0, z1, z2) = q := ⟨_, rfl⟩
      have HQ := Lib.hid hq
      clear hq
      go_wp2_with fail
      refine (PeekE_some bx b b v z0 z1 z2 r _ HS3.out.2.2.1).mono ?_
      rintro e W4 ⟨he, hb4⟩
      subst he
      obtain ⟨W5, hW5⟩ : ∃ W, W4.alloc (.cells #[.int .i64 z0, .int .i64 z1, .int .i64 z2] 277) = W := ⟨_, rfl⟩
      have hb5 : Below W4.heap.size W4 W5 := by rw [← hW5]; exact below_alloc1 (Below.refl _ _) _
      have hla : W5.heap[W4.heap.size]? = some (.cells #[.int .i64 z0, .int .i64 z1, .int .i64 z2] 277 (0, 0)) := by rw [← hW5]; exact heap_alloc_new _ _
      have hb35 : Below W3.heap.size W3 W5 := hb4.trans (hb5.mono hb4.size)
      have hbe5 := obj_below hb35 HBE3.out (obj_lt HBE3.out)
      have ha0 : W5.cell? ⟨be, 0, none⟩ = some (.int .i64 x0) := by simp [World.cell?, hbe5]
      have ha1 : W5.cell? ⟨be, 1, none⟩ = some (.int .i64 x1) := by simp [World.cell?, hbe5]
      have ha2 : W5.cell? ⟨be, 2, none⟩ = some (.int .i64 nx) := by simp [World.cell?, hbe5]
      have hl0 : W5.cell? ⟨W4.heap.size, 0, none⟩ = some (.int .i64 z0) := by simp [World.cell?, hla]
      have hl1 : W5.cell? ⟨W4.heap.size, 1, none⟩ = some (.int .i64 z1) := by simp [World.cell?, hla]
      have hl2 : W5.cell? ⟨W4.heap.size, 2, none⟩ = some (.int .i64 z2) := by simp [World.cell?, hla]
      have HBE5 := Lib.hid hbe5
      have HON5 := Lib.hid (HON3.out.trans (Only.of_below hb35))
      have HS5 := Lib.hid (HS3.out.keep hb35)
      have hz5 := hb35.size
      clear hb4 hb5 hla hb35 hbe5 HS3 HON3 HBE3 hck
      go_wp2_with fail
      refine (AheadE_calls bs x0 x1 nx z0 z1 z2 _ HS5.out.slx.2).mono ?_
      rintro e W6 ⟨he, hb6⟩
      rw [HQ.out] at he
      subst he
      have HS6 := Lib.hid (HS5.out.keep hb6)
      have HBE6 := Lib.hid (obj_below hb6 HBE5.out (obj_lt HBE5.out))
      have HON6 := Lib.hid (HON5.out.trans (Only.of_below hb6))
      have hz6 := hb6.size
      have hck : W6.cell? ⟨bs, 2, none⟩ = some (.pointer (some ⟨b, 0, none⟩)) := by have h := HS6.out.1; simp [World.cell?, h]
      clear hb6 ha0 ha1 ha2 hl0 hl1 hl2 HS5 HBE5 HON5 hW5
      cases q with
      | false =>
        go_wp2_with fail
        go_ret
        exact ⟨⟨bs, bx, b, v⟩, _, false, rfl, HS6.out, SlTo.refl _ _, HON6.out, .inr ⟨by rw [HN.out]; omega, .inr ⟨_, _, rfl, .inl ⟨HQ.out, rfl, rfl⟩⟩⟩⟩
      | true =>
        have hlr : r.length ≤ 1000000 := by simp at hl; omega
        go_wp2_with fail
        refine (PopE_some bx bs b b v z0 z1 z2 r _ HS6.out.2.2.1 HS6.out.2.2.2.1 hlr HS6.out.slx hnx hns).mono ?_
        rintro e W7 ⟨he, v7, r7, ⟨hH7, hok7, hon7, _⟩, hpm7, hv7⟩
        subst he
        have hnbs7 : ¬ HpBE v b bs := hns
        have hnbe7 : ¬ HpBE v b be := fun h => h.elim (fun h => by omega) fun h => by have := hlv be h; omega
        have hnbx7 : ¬ HpBE v b bx := hnx
        have HBS := Lib.hid (hon7.obj HS6.out.1 hnbs7)
        have HBE3 := Lib.hid (hon7.obj HBE6.out hnbe7)
        have HSL := Lib.hid (HS6.out.slx.only hon7 hnbx7 hnbs7)
        have HHP := Lib.hid hH7
        have HOK := Lib.hid hok7
        have HPM7 := Lib.hid hpm7
        have HTO := Lib.hid (fun (k : Nat) (hk : v7.ownBlock = some k) => (.inl (by rw [← hv7]; exact hk) : v.ownBlock = some k ∨ w.heap.size ≤ k))
        have HON3 := Lib.hid (HON6.out.trans2E hon7 (fun k hk h => h.elim (fun h => .inr (.inl h)) fun h => .inr (.inr h)))
        have hz7 := hon7.size
        have hlv' : ∀ k, v7.ownBlock = some k → k < w.heap.size := fun k hk => hlv k (by rw [← hv7]; exact hk)
        have hnx' : Ns v7 b bx := by unfold Ns OwnB; rw [hv7]; exact hnx
        have hns' : Ns v7 b bs := by unfold Ns OwnB; rw [hv7]; exact hns
        have hlr7 : r7.length ≤ 1000000 := by rw [hpm7.length_eq]; exact hlr
        clear hH7 hok7 hon7 hpm7 hv7 hck
        go_wp2_with fail
        have hbr : Below W7.heap.size W7 W7 := Below.refl _ _
        have hck : W7.cell? ⟨bs, 2, none⟩ = some (.pointer (some ⟨b, 0, none⟩)) := by have h := HBS.out; simp [World.cell?, h]
        have he0 : W7.cell? ⟨be, 0, none⟩ = some (.int .i64 x0) := by have h := HBE3.out; simp [World.cell?, h]
        have he1 : W7.cell? ⟨be, 1, none⟩ = some (.int .i64 x1) := by have h := HBE3.out; simp [World.cell?, h]
        have he2 : W7.cell? ⟨be, 2, none⟩ = some (.int .i64 nx) := by have h := HBE3.out; simp [World.cell?, h]
        have hnbs : ¬ HpBE v7 b bs := hns'
        have hnbe : ¬ HpBE v7 b be := fun h => h.elim (fun h => by omega) fun h => by have := hlv' be h; omega
        go_wp2_with fail
        go_region_held3 (fun w' => w'.cell? ⟨bs, 2, none⟩ = some (.pointer (some ⟨b, 0, none⟩)) ∧ w'.cell? ⟨be, 0, none⟩ = some (.int .i64 x0) ∧ w'.cell? ⟨be, 1, none⟩ = some (.int .i64 x1) ∧ w'.cell? ⟨be, 2, none⟩ = some (.int .i64 nx) ∧ Only (HpBE v7 b) W7 w')
          (first | exact ⟨cell_below (B := W7.heap.size) (w := W7) (below_drew1 hbr) hck (World.block_lt_of_cell? _ _ hck), cell_below (B := W7.heap.size) (w := W7) (below_drew1 hbr) he0 (World.block_lt_of_cell? _ _ he0), cell_below (B := W7.heap.size) (w := W7) (below_drew1 hbr) he1 (World.block_lt_of_cell? _ _ he1), cell_below (B := W7.heap.size) (w := W7) (below_drew1 hbr) he2 (World.block_lt_of_cell? _ _ he2), Only.of_below (below_drew1 hbr)⟩ | exact ⟨hQ.cell hck hnbs, hQ.cell he0 hnbe, hQ.cell he1 hnbe, hQ.cell he2 hnbe, hQ⟩ | go_keep)
          (first
            | (go_at_call 181; go_split_ands; (with_reducible refine Calls.mono (PushE_calls bx bs b b v7 r7 x0 x1 nx _ ?_ HOK.out (by omega) ?_ hnx' hns') ?_); (exact HHP.out.keep (below_drew1 hbr)); (exact HSL.out.keep (below_drew1 hbr)); rintro e wq ⟨he, v9, l9, ⟨hH, hok, hon, hfr⟩, hpm⟩; subst he; have hQ : Only (HpBE v7 b) W7 wq := (Only.of_below (below_drew1 hbr)).trans hon; have HH9 := Lib.hid hH; have HOK9 := Lib.hid hok; have HFR9 := Lib.hid (show ∀ k, v9.ownBlock = some k → (v7).ownBlock = some k ∨ W7.heap.size ≤ k from hfr); have HPM9 := Lib.hid hpm; clear hH hok hon hfr hpm))
        go_wp2_with fail
        go_ret
        have hpm := HPM9.out
        have hN9 : ∀ k, k < W7.heap.size → Ns v7 b k → Ns v9 b k := fun k hk h h2 => h2.elim (fun e => h (.inl e)) fun h2 => (HFR9.out k h2).elim (fun e => h (.inr e)) fun e => by omega
        refine ⟨⟨bs, bx, b, v9⟩, l9, true, rfl, ⟨hQ.obj HBS.out hnbs, hQ.cell HSL.out.1 hnx', HH9.out, HOK9.out, hN9 bx (by omega) hnx', hN9 bs (by omega) hns', hne⟩, ⟨rfl, rfl, rfl, fun k hk => (HFR9.out k hk).elim (fun h => HTO.out k h) fun h => .inr (by omega)⟩, ?_, .inr ⟨by rw [HN.out]; omega, .inr ⟨_, _, rfl, .inr ⟨HQ.out, rfl, hpm.trans (HPM7.out.cons _)⟩⟩⟩⟩
        refine (HON3.out).trans2E hQ fun k hk h => ?_
        rcases h with h | h
        · exact .inr (.inl h)
        · exact .inr (.inr ((HTO.out k h).resolve_right (by omega)))
end Go.Proofs.YticdmglondpgaaaGreat

/-! ## LstE: The selector (topk, over shelterbelt/api.Result): List; the library's Reverse of entries. Condition: the selector's blocks are as the word SelE says; no more than a million are kept. -/
namespace Go.Proofs.YticdmglondpgaaaGreat
open Go.RowKit
set_option linter.unusedVariables false
set_option maxRecDepth 100000
set_option linter.unusedSimpArgs false
attribute [local go_sem] Oper.semAt_some

set_option maxHeartbeats 3200000 in
set_option maxRecDepth 1000000 in
theorem RevE_calls (lo : Nat) (A : Option Addr) (n c : Nat) (l : List (Int × Int × Int)) (w : World) (h : OwnF w lo 277 3 tri (.slice A n c) l) (hln : l.length = n) (hl : n ≤ 1000000) :
    Calls Tryz.prog 185 #[.slice A n c] w fun e w' => e = .returned (.tuple #[]) ∧ OwnF w' lo 277 3 tri (.slice A n c) l.reverse ∧ Only (OwnB (.slice A n c)) w w' := by
  have HH := Lib.hid h
  have HL := Lib.hid hln
  clear h hln
  obtain ⟨e0, he0⟩ : ∃ e, (n : Int) - 1 = e := ⟨_, rfl⟩
  have hw0 : IntKind.i64.wrap ((n : Int) - 1) = e0 := by rw [i64_w, ← he0]; exact wrap64_id _ (by omega)
  have HE0 := Lib.hid he0
  clear he0
  go_enter Tryz.func185, Tryz.ntmps185
  go_wp2_with fail
  go_loopg [2, 3] n (fun kq v2 v3 w' => ∃ (k : Nat) (e : Int) (L : List (Int × Int × Int)), n ≤ 2 * k + kq ∧ 2 * k ≤ n ∧ v2 = .int .i64 ((k : Nat) : Int) ∧ v3 = .int .i64 e ∧ e = (n : Int) - 1 - k ∧ OwnF w' lo 277 3 tri (.slice A n c) L ∧ RevAt n k l L ∧ Only (OwnB (.slice A n c)) w w')
  case atStart => exact ⟨0, e0, l, by omega, by omega, rfl, rfl, by rw [← HE0.out]; omega, HH.out, RevAt.start l HL.out, Only.refl _ _⟩
  case round =>
    clear HH
    obtain ⟨k, e, L, hkq, hkn, rfl, rfl, hee, hO, hrv, hon⟩ := hrel
    have HO := Lib.hid hO
    have HRV := Lib.hid hrv
    have HON := Lib.hid hon
    have HEE := Lib.hid hee
    clear hO hrv hon
    by_cases hlt : (k : Int) < e
    · obtain ⟨m, hm⟩ : ∃ m : Nat, n - 1 - k = m := ⟨_, rfl⟩
      have hem : e = (m : Int) := by omega
      have HM := Lib.hid hm
      subst hem
      have hkm : k < m := by omega
      have hmn : m < n := by omega
      have hkn2 : k < n := by omega
      have hd : decide ((k : Int) < (m : Int)) = true := decide_eq_true hlt
      obtain ⟨m1, hm1⟩ : ∃ m1 : Int, (m : Int) - 1 = m1 := ⟨_, rfl⟩
      obtain ⟨k1, hk1⟩ : ∃ k1 : Nat, k + 1 = k1 := ⟨_, rfl⟩
      have hw1 : IntKind.i64.wrap ((k : Int) + 1) = (k1 : Int) := by rw [i64_w, show (k : Int) + 1 = (k1 : Int) by omega]; exact wrap64_id _ (by omega)
      have hw2 : IntKind.i64.wrap ((m : Int) - 1) = m1 := by rw [i64_w, ← hm1]; exact wrap64_id _ (by omega)
      have HK1 := Lib.hid hk1
      have HM1 := Lib.hid hm1
      obtain ⟨g, ⟨xk0, xk1, xk2⟩, hgA, _, _, hxk, hck, hfk, _⟩ := HO.out.at_ tri_q k hkn2 (by omega)
      subst hgA
      obtain ⟨g', ⟨xb0, xb1, xb2⟩, hg', _, _, hxb, hcb, _, _⟩ := HO.out.at_ tri_q m hmn (by omega)
      injection hg' with hg'
      injection hg' with hg'
      subst hg'
      have hck0 : wr.cell? ⟨g, k * 3, none⟩ = some (.int .i64 xk0) := hck 0 (by omega)
      have hck1 : wr.cell? ⟨g, k * 3 + 1, none⟩ = some (.int .i64 xk1) := hck 1 (by omega)
      have hck2 : wr.cell? ⟨g, k * 3 + 2, none⟩ = some (.int .i64 xk2) := hck 2 (by omega)
      have hcb0 : wr.cell? ⟨g, m * 3, none⟩ = some (.int .i64 xb0) := hcb 0 (by omega)
      have hcb1 : wr.cell? ⟨g, m * 3 + 1, none⟩ = some (.int .i64 xb1) := hcb 1 (by omega)
      have hcb2 : wr.cell? ⟨g, m * 3 + 2, none⟩ = some (.int .i64 xb2) := hcb 2 (by omega)
      have hf1 := hfk (k * 3)
      have hf2 := hfk (k * 3 + 1)
      have hf3 := hfk (k * 3 + 2)
      have hf4 := hfk (m * 3)
      have hf5 := hfk (m * 3 + 1)
      have hf6 := hfk (m * 3 + 2)
      have bK : (k : Int) < (n : Int) := by omega
      have bB : (m : Int) < (n : Int) := by omega
      have n00a : ¬ k * 3 = m * 3 := by omega
      have n00b : ¬ m * 3 = k * 3 := by omega
      have n01a : ¬ k * 3 = m * 3 + 1 := by omega
      have n01b : ¬ m * 3 + 1 = k * 3 := by omega
      have n02a : ¬ k * 3 = m * 3 + 2 := by omega
      have n02b : ¬ m * 3 + 2 = k * 3 := by omega
      have n10a : ¬ k * 3 + 1 = m * 3 := by omega
      have n10b : ¬ m * 3 = k * 3 + 1 := by omega
      have n11a : ¬ k * 3 + 1 = m * 3 + 1 := by omega
      have n11b : ¬ m * 3 + 1 = k * 3 + 1 := by omega
      have n12a : ¬ k * 3 + 1 = m * 3 + 2 := by omega
      have n12b : ¬ m * 3 + 2 = k * 3 + 1 := by omega
      have n20a : ¬ k * 3 + 2 = m * 3 := by omega
      have n20b : ¬ m * 3 = k * 3 + 2 := by omega
      have n21a : ¬ k * 3 + 2 = m * 3 + 1 := by omega
      have n21b : ¬ m * 3 + 1 = k * 3 + 2 := by omega
      have n22a : ¬ k * 3 + 2 = m * 3 + 2 := by omega
      have n22b : ¬ m * 3 + 2 = k * 3 + 2 := by omega
      have h5 := (HO.out.store3 k hkn2 (xb0, xb1, xb2)).store3 m hmn (xk0, xk1, xk2)
      have HS := Lib.hid (own_drew1 h5)
      have HR := Lib.hid (HRV.out.step HL.out hkm hmn HM.out hxk hxb)
      have hs := fun (W : World) (q : Nat) (u : Value) => (only_set W g q u).mono (T := OwnB (.slice (some ⟨g, 0, none⟩) n c)) fun k _ h => by rw [h]; rfl
      have HON2 := Lib.hid (((((((hs wr (k * 3) (.int .i64 xb0)).trans (hs _ (k * 3 + 1) (.int .i64 xb1))).trans (hs _ (k * 3 + 2) (.int .i64 xb2))).trans (hs _ (m * 3) (.int .i64 xk0))).trans (hs _ (m * 3 + 1) (.int .i64 xk1))).trans (hs _ (m * 3 + 2) (.int .i64 xk2))).trans (Only.of_below (Below.refl _ _).drew))
      clear hck hcb hfk hxk hxb h5 hs hm hm1 hk1 hee hlt
      go_wp2_with fail
      go_region
      go_wp2_with fail
      go_roundg (n - 2 * k1)
      case measure => have h1 := HK1.out; have h2 := HM.out; omega
      case rel =>
        have q1 := HK1.out
        have q2 := HM.out
        have q3 := HM1.out
        refine ⟨k1, m1, _, by omega, by omega, rfl, rfl, by omega, HS.out, by rw [← HK1.out]; exact HR.out, HON.out.trans HON2.out⟩
    · have hd : decide ((k : Int) < e) = false := decide_eq_false hlt
      have hlt9 : n ≤ 2 * k + 1 := by omega
      clear hee hlt
      go_wp2_with fail
      go_end0
      exact ⟨rfl, by rw [← HRV.out.done HL.out (by omega)]; exact HO.out, HON.out⟩
theorem ent_oneE (x0 x1 x2 : Int) : ∀ u ∈ [Value.int .i64 x0, Value.int .i64 x1, Value.int .i64 x2], u.oneCell' = true := tri_one (x0, x1, x2)
/-- Between two rounds of List's first loop: pre has come; bA: the list's box. -/
def LCE (w : World) (v : Value) (b bA base : Nat) (pre : List (Int × Int × Int)) (W : World) : Prop :=
  Only (HpBE v b) w W ∧ ∃ v9, W.heap[bA]? = some (.cells #[v9] 282 (0, 0)) ∧ OwnF W base 277 3 tri v9 pre
theorem LCE.only {w A B : World} {v : Value} {b bA base : Nat} {pre : List (Int × Int × Int)} {S : Nat → Prop} (h : LCE w v b bA base pre A) (ho : Only S A B) (hs : ∀ k, S k → (HpBE v b k ∨ w.heap.size ≤ k) ∧ k ≠ bA ∧ k < base) : LCE w v b bA base pre B := by
  obtain ⟨h1, v9, h3, h4⟩ := h
  exact ⟨h1.trans2E ho fun k hk h => (hs k h).1.resolve_right (by omega), v9, ho.obj h3 fun h => (hs _ h).2.1 rfl, h4.only ho fun k hk h => by have := (hs _ h).2.2; have := (h4.lt k hk).1; omega⟩
set_option maxHeartbeats 6400000 in
set_option maxRecDepth 1000000 in
theorem ListE_calls (s : Sl) (most nx : Int) (L : List (Int × Int × Int)) (w : World) (h : SelE w s most nx L) (hl : L.length ≤ 100000) :
    Calls Tryz.prog 133 #[.pointer (some ⟨s.bs, 0, none⟩)] w fun e w' => ∃ s' L' S vO, e = .returned vO ∧ SelE w' s' most nx L' ∧ L'.Perm L ∧ SlTo s s' w.heap.size ∧ Only (SlB s) w w' ∧ S.Perm L ∧ Srt aheadE S ∧ OwnF w' w.heap.size 90 2 twoR vO (S.map fun p => (p.1, p.2.1)) ∧ ∀ k, vO.ownBlock = some k → ¬ SlB s' k := by
  obtain ⟨bs, bx, b, v⟩ := s
  have hlts := h.lt
  have hlb := hlts.1 b (.inr (.inl rfl))
  have hlbs := hlts.1 bs (.inl rfl)
  have hlbx := hlts.2
  have hlv : ∀ k, v.ownBlock = some k → k < w.heap.size := fun k hk => hlts.1 k (.inr (.inr hk))
  have hlv2 : ∀ k, OwnB v k → k < w.heap.size := hlv
  have hDb : ∀ k, HpBE v b k → k < w.heap.size := fun k h => h.elim (fun h => by omega) fun h => hlv k h
  simp only at hlbx
  have HS0 := Lib.hid h
  have hnx := h.2.2.2.2.1
  have hns := h.2.2.2.2.2.1
  have hne := h.2.2.2.2.2.2
  simp only at hnx hns hne
  clear hlts h
  refine (callsIn_wide (n := 5)).1 ?_
  refine callsIn_of_wp_marks Tryz.func133 rfl trivial ?_ rfl
  refine wpIn_wide.2 ?_
  simp only [Tryz.ntmps133, List.size_toArray, List.length_cons, List.length_nil, Nat.reduceAdd, Nat.reduceSub, Array.replicate_succ, Array.replicate_zero, List.push_toArray, List.append_toArray, List.nil_append, List.cons_append]
  obtain ⟨w1, hw1⟩ : ∃ W, w.alloc (.cells #[.slice none 0 0] 282) = W := ⟨_, rfl⟩
  have hbn1 : Below w.heap.size w w1 := by rw [← hw1]; exact below_alloc1 (Below.refl _ _) _
  have bo1 : w1.heap[w.heap.size]? = some (.cells #[.slice none 0 0] 282 (0, 0)) := by rw [← hw1]; exact heap_alloc_new w _
  have hz1 : w1.heap.size ≤ w.heap.size + 1 ∧ w.heap.size + 1 ≤ w1.heap.size := by rw [← hw1]; simp
  have hs1 := HS0.out.keep hbn1
  have hck : w1.cell? ⟨bs, 2, none⟩ = some (.pointer (some ⟨b, 0, none⟩)) := by have h := hs1.1; simp [World.cell?, h]
  have HS1 := Lib.hid hs1
  have BO1 := Lib.hid bo1
  have HB1 := Lib.hid hbn1
  clear hs1 hbn1 bo1
  go_wp2_with fail
  (try rw [hw1])
  refine (DrainE_calls b _).mono ?_
  rintro e w2 ⟨he, hw2⟩
  subst he
  have hbn2 : Below w1.heap.size w1 w2 := by rw [hw2]; exact below_alloc1 (Below.refl _ _) _
  have bX2 : w2.heap[w1.heap.size]? = some (.cells #[.pointer (some ⟨b, 0, none⟩)] 272 (0, 0)) := by rw [hw2]; exact heap_alloc_new _ _
  have hz2 : w2.heap.size ≤ w1.heap.size + 1 ∧ w1.heap.size + 1 ≤ w2.heap.size := by rw [hw2]; simp
  have hI0 : LCE w v b w.heap.size (w2.heap.size + 2) [] w2 := ⟨(Only.of_below HB1.out).trans (Only.of_below hbn2), _, obj_below hbn2 BO1.out (obj_lt BO1.out), OwnF.nil _ _ _⟩
  have HI0 := Lib.hid hI0
  have hs2 := HS1.out.keep hbn2
  have HH2 := Lib.hid hs2.2.2.1
  have HOK2 := Lib.hid hs2.2.2.2.1
  have HSL2 := Lib.hid hs2.slx
  have HBS2 := Lib.hid hs2.1
  have BX := Lib.hid bX2
  have hLl : L.length ≤ 1000000 := by omega
  clear hbn2 hw2 bX2 hI0 hs2 hck hw1
  go_wp2_with fail
  refine (wpIn_wide (n := 5)).1 ?_
  refine wpIn_rangeA rfl (by omega) (gf := 226) (lb := #[.pointer (some ⟨w1.heap.size, 0, none⟩)]) rfl trivial (enters_of Tryz.func226 (by kernel_rfl) rfl)
    (drainE_iter _ w1.heap.size bx bs b b v L w2 HH2.out HOK2.out hLl BX.out (by omega) (fun k hk => by have := hlv k hk; omega) HSL2.out hnx hns)
    (fun k h => by have := hDb k h; omega) (fun h k => h.trans k) (fun W l o o' hl _ _ => KpSE.putObj ⟨by omega, by omega, by omega, by omega, fun k hk => by have := hlv k hk; omega⟩ W l o' hl)
    (fun xs A B h hk => by obtain ⟨v', h1, h2, h3⟩ := h; exact ⟨v', h1.kp h3 hk, h2, h3⟩) (fun xs A B h hk => by obtain ⟨v', L, h1, h4, h2, h3⟩ := h; exact ⟨v', L, h1.kp h3 hk, h4, h2, h3⟩) (fun _ => rfl)
    (fun pre W => LCE w v b w.heap.size (w2.heap.size + 2) pre W)
    (fun c pre W => False)
    (fun pre A B h hs => h.only hs fun k hk => by
      rcases hk with hk | hk
      · have := hDb k hk; exact ⟨.inl hk, by omega, by omega⟩
      · exact ⟨.inr (by omega), by omega, by omega⟩) (fun c pre A B h hs => h) HI0.out ?a1 (fun x W => W.alloc (.cells #[.int .i64 x.1, .int .i64 x.2.1, .int .i64 x.2.2] 277)) (fun x W => below_alloc1 (Below.refl _ _) _) (fun x W => Only.of_below (below_alloc1 (Below.refl _ _) _)) ?assign ?body ?done ?stop
  case assign =>
    intro l x W K hK
    gi_wp2
    exact hK
  case body =>
    clear HI0 HOK2
    rintro l2 pre ⟨x0, x1, x2⟩ A0 W0 W o' hW ⟨t1, v9, t3, t4⟩ hlen hsz _ _ _
    have hbx : W.heap[W0.heap.size]? = some (.cells #[.int .i64 x0, .int .i64 x1, .int .i64 x2] 277 (0, 0)) := by
      rw [hW]; exact (World.putObj_heap_other (by omega)).trans (heap_alloc_new W0 _)
    obtain ⟨bB, hbB⟩ : ∃ bB, W0.heap.size = bB := ⟨_, rfl⟩
    have hbBn : w2.heap.size + 2 ≤ bB := by omega
    have hwW := t1.size
    rw [hbB] at hbx ⊢
    obtain ⟨A1, c1, rfl, hc1⟩ := t4.shape
    have hrow0 := t4
    unfold OwnF at hrow0
    obtain ⟨pn, hpn⟩ : ∃ pn, pre.length = pn := ⟨_, rfl⟩
    rw [hpn] at t3 hlen hrow0
    have hco : W.cell? ⟨w.heap.size, 0, none⟩ = some (.slice A1 pn c1) := by simp [World.cell?, t3]
    have hcb0 : W.cell? ⟨bB, 0, none⟩ = some (.int .i64 x0) := by simp [World.cell?, hbx]
    have hcb1 : W.cell? ⟨bB, 1, none⟩ = some (.int .i64 x1) := by simp [World.cell?, hbx]
    have hcb2 : W.cell? ⟨bB, 2, none⟩ = some (.int .i64 x2) := by simp [World.cell?, hbx]
    have hbWz := obj_lt hbx
    have hneO : ¬ OwnB (.slice A1 pn c1) w.heap.size := fun h => by have := own_base hrow0 _ h; omega
    have HW1 := Lib.hid (obj_below ((Below.refl W.heap.size W).alloc (Nat.le_refl _) (.cells #[.int .i64 x0, .int .i64 x1, .int .i64 x2] 277)) t3 (obj_lt t3))
    have hbz : w2.heap.size + 2 ≤ (W.alloc (.cells #[.int .i64 x0, .int .i64 x1, .int .i64 x2] 277)).heap.size := by rw [World.size_alloc]; omega
    have T1 := Lib.hid t1
    have HROW0 := Lib.hid hrow0
    have HPN := Lib.hid hpn
    have hob5 : ∀ k, OwnB (.slice A1 pn c1) k → w2.heap.size + 2 ≤ k := fun k h => own_base hrow0 k h
    have HOB6 := Lib.hid (show ∀ k, OwnB (.slice A1 pn c1) k → ∃ cs t f, W.heap[k]? = some (.cells cs t f) from fun k h => own_cells hrow0 k h)
    have hpn6 : pn ≤ 1000000 := by omega
    clear t1 t3 t4 hrow0 hW hbx hpn
    gi_wp2_with (gi_at_builtin; refine wpListIn_app _ rfl (.tmp 14) (.tmp 16) 282 277 rfl (.agg #[.int .i64 0, .int .i64 0, .int .i64 0]) 3 24 Tryz.underlying282 infoE rfl (by omega) (by omega) (w2.heap.size + 2) (.slice A1 pn c1) pn (pre.flatMap tri) rfl (some ⟨W.heap.size, 0, none⟩) 1 1 rfl (own_alloc1 HROW0.out _) hbz [.int .i64 x0, .int .i64 x1, .int .i64 x2] rfl (RdC.block (cs := #[.int .i64 x0, .int .i64 x1, .int .i64 x2]) (heap_alloc_new _ _)) (ent_oneE x0 x1 x2) (by omega) ?_; intro v1 W2 hrow hob hv hnil; obtain ⟨A2, c2, hv2, _⟩ := own_shape hrow; subst hv2; have HROW := Lib.hid hrow; have HOB := Lib.hid hob; have hfz : W2.frozen? ⟨w.heap.size, 0, none⟩ = false := free_blk (hob.obj HW1.out hneO) 0; have hcw : W2.cell? ⟨w.heap.size, 0, none⟩ = some (.slice A1 pn c1) := cell_blk (cs := [_]) (hob.obj HW1.out hneO) 0; clear hrow hob hv hnil)
    obtain ⟨WE, hWE⟩ : ∃ WE, W2.setCell ⟨w.heap.size, 0, none⟩ (.slice A2 (pn + 1) c2) = WE := ⟨_, rfl⟩
    rw [hWE]
    have hW : Only (fun _ => False) W (W.alloc (.cells #[.int .i64 x0, .int .i64 x1, .int .i64 x2] 277)) := Only.of_below (below_alloc1 (Below.refl _ _) _)
    have hset : Only (fun b => b = w.heap.size) W2 WE := by rw [← hWE]; exact only_set _ _ _ _
    have hall : Only (fun b => OwnB (.slice A1 pn c1) b ∨ b = w.heap.size) W WE := ((hW.mono fun _ _ h => h.elim).trans (HOB.out.mono fun _ _ h => .inl h)).trans (hset.mono fun _ _ h => .inr h)
    have hkf : KeepsFrom w2.heap.size W WE := ⟨hall.size, fun k o hk hh hc => hall.obj hh fun h => by
      rcases h with h | h
      · obtain ⟨cs, t, f, hcs⟩ := HOB6.out k h
        rw [hh] at hcs
        injection hcs with hcs
        rw [hcs] at hc
        cases hc
      · omega⟩
    have hke : KpSE v b w1.heap.size bx bs W WE := hall.mono fun k _ h he => by
      have h6 : w2.heap.size + 2 ≤ k ∨ k = w.heap.size := h.imp (hob5 k) fun h => h
      rcases he with he | he | he | he | he
      · omega
      · have := hlv k he; omega
      · omega
      · omega
      · omega
    refine ⟨hkf, hke, T1.out.trans2E hall fun k hk h => ?_, _, by rw [← hWE]; exact set_blk (cs := [_]) (HOB.out.obj HW1.out hneO) 0 _, ?_⟩
    · have h6 : w2.heap.size + 2 ≤ k ∨ k = w.heap.size := h.imp (hob5 k) fun h => h
      omega
    · have h7 : OwnF W2 (w2.heap.size + 2) 277 3 tri (.slice A2 (pn + 1) c2) (pre ++ [(x0, x1, x2)]) := by
        have h8 := HROW.out
        unfold OwnF
        rw [show (pre ++ [(x0, x1, x2)]).length = pn + 1 by simp [HPN.out]]
        simpa [tri] using h8
      exact h7.only hset fun k hk e => by have := (h7.lt k hk).1; omega
  case done =>
    rintro _ pre W rfl ⟨v', hH', hdr, hv'⟩ ⟨t1, v9, t3, t4⟩ hK
    clear HI0 HH2 HOK2 HSL2 HBS2 BX HS1 HB1 BO1
    obtain ⟨A9, c9, rfl, hc9⟩ := t4.shape
    obtain ⟨N, hN⟩ : ∃ N, pre.length = N := ⟨_, rfl⟩
    have hpl := hdr.len
    rw [hN] at t3 t4 hc9 hpl
    have hN6 : N ≤ 100000 := by simp at hpl; omega
    have hpp : pre.Perm L := by have h := hdr.1; simpa using h
    have hsr : Srt aheadE pre.reverse := by
      unfold Srt
      rw [List.pairwise_reverse]
      exact hdr.2.1
    have hob9 : ∀ k, OwnB (.slice A9 N c9) k → w2.heap.size + 2 ≤ k ∧ k < W.heap.size := fun k hk => t4.lt k hk
    have hc0 : W.cell? ⟨w.heap.size, 0, none⟩ = some (.slice A9 N c9) := by simp [World.cell?, t3]
    have T1 := Lib.hid t1
    have T3 := Lib.hid t3
    have T4 := Lib.hid t4
    have HN := Lib.hid hN
    have HPP := Lib.hid hpp
    have HSR := Lib.hid hsr
    have HHV := Lib.hid hH'
    have HV := Lib.hid hv'
    have HK := Lib.hid hK
    have hwW := t1.size
    have hKz := obj_lt hK
    clear t1 t3 t4 hN hpp hsr hH' hdr hv' hK hpl
    go_wp2_with fail
    refine (RevE_calls (w2.heap.size + 2) A9 N c9 pre W T4.out HN.out (by omega)).mono ?_
    rintro e W2 ⟨he, hO2, hon2⟩
    subst he
    have hK2 := hon2.obj HK.out (fun h => by have := (hob9 _ h).1; omega)
    have ht3 := hon2.obj T3.out (fun h => by have := (hob9 _ h).1; omega)
    have hH2 := HHV.out.only hon2 (fun h => by have := (hob9 _ h).1; omega) (fun k hk h => by have := (hob9 _ h).1; rw [HV.out] at hk; have := hlv k hk; omega)
    have hONW := T1.out.trans2E hon2 (fun k hk h => by have := (hob9 _ h).1; omega)
    have hc0 : W2.cell? ⟨w.heap.size, 0, none⟩ = some (.slice A9 N c9) := by simp [World.cell?, ht3]
    have hz2W := hon2.size
    obtain ⟨S, hS⟩ : ∃ S, pre.reverse = S := ⟨_, rfl⟩
    rw [hS] at hO2 HSR
    have hSN : S.length = N := by rw [← hS, List.length_reverse, HN.out]
    have HPS := Lib.hid (show S.Perm L by rw [← hS]; exact (List.reverse_perm pre).trans HPP.out)
    have HK2 := Lib.hid hK2
    have HO2 := Lib.hid hO2
    have HH2 := Lib.hid hH2
    have HONW := Lib.hid hONW
    have HSN := Lib.hid hSN
    clear hS hK2 ht3 hH2 hONW hO2 hSN hon2 T1 T3 T4 HN HPP HHV HK
    go_wp2_with fail
    go_loopg [5, 22] N (fun kq v5 v22 w' => ∃ vq Lq A5 c5, kq ≤ N ∧ v5 = .slice A5 (N - kq) c5 ∧ v22 = .int .i64 ((N - kq : Nat) : Int) ∧ HpE bx w' b b vq Lq ∧ HeapOk ltE Lq ∧ Lq.Perm (S.take (N - kq)) ∧ (∀ k, vq.ownBlock = some k → v.ownBlock = some k ∨ W2.heap.size ≤ k) ∧ OwnF w' W2.heap.size 90 2 twoR (.slice A5 (N - kq) c5) ((S.take (N - kq)).map fun p => (p.1, p.2.1)) ∧ (∀ k, (Value.slice A5 (N - kq) c5).ownBlock = some k → ¬ (vq.ownBlock = some k)) ∧ OwnF w' (w2.heap.size + 2) 277 3 tri (.slice A9 N c9) S ∧ Only (HpBE v b) w w' ∧ W2.heap.size ≤ w'.heap.size ∧ w'.heap[w2.heap.size]? = some (.deferred (some [])))
    case atStart => exact ⟨v', [], none, 0, Nat.le_refl _, by simp, by simp, HH2.out, fun i a b h0 ha => by simp at ha, by simp, fun k hk => .inl (by rw [← HV.out]; exact hk), by simp only [Nat.sub_self, List.take_zero, List.map_nil]; exact OwnF.nil _ _ _, fun k hk => by simp [Value.ownBlock] at hk, HO2.out, HONW.out, Nat.le_refl _, HK2.out⟩
    case round =>
      clear HH2 HO2 HONW HK2 HV hc0
      obtain ⟨vq, Lq, A5, c5, hk, rfl, rfl, hHq, hokq, hpmq, hfrq, hO5, hdj, hO9, honq, hzq, hKq⟩ := hrel
      have HHQ := Lib.hid hHq
      have HOKQ := Lib.hid hokq
      have HPMQ := Lib.hid hpmq
      have HFRQ := Lib.hid hfrq
      have HO5 := Lib.hid hO5
      have HDJ := Lib.hid hdj
      have HO9 := Lib.hid hO9
      have HONQ := Lib.hid honq
      have HKQ := Lib.hid hKq
      clear hHq hokq hpmq hfrq hO5 hdj hO9 honq hKq
      cases gk with
      | zero =>
        have htk : S.take (N - 0) = S := by rw [Nat.sub_zero, ← HSN.out]; exact List.take_length
        rw [htk] at HPMQ HO5
        simp only [Nat.sub_zero] at HO5 HDJ ⊢
        have hlt0 : ¬ ((N : Int) < (N : Int)) := by omega
        clear htk
        go_wp2_with fail
        have hbsq := HONQ.out.obj HS0.out.1 hns
        have hbxq := HONQ.out.cell HS0.out.2.1 hnx
        have hNq : ∀ k, k < w.heap.size → Ns v b k → Ns vq b k := fun k hk h h2 => h2.elim (fun e => h (.inl e)) fun h2 => (HFRQ.out k h2).elim (fun e => h (.inr e)) fun e => by omega
        have hsel : SelE wr ⟨bs, bx, b, vq⟩ most nx Lq := ⟨hbsq, hbxq, HHQ.out, HOKQ.out, hNq bx hlbx hnx, hNq bs hlbs hns, hne⟩
        have hlq := hsel.lt
        have hnd : ∀ k, SlB ⟨bs, bx, b, vq⟩ k → ¬ k = w2.heap.size := fun k hk e => by
          rcases hk with hk | hk | hk
          · have : k = bs := hk
            omega
          · have : k = b := hk
            omega
          · rcases HFRQ.out k hk with h | h
            · have := hlv k h; omega
            · omega
        exact ⟨by simp, .inl ⟨_, _, rfl, run_takeDeferred HKQ.out, _, results_tmp rfl _ _ _, ⟨bs, bx, b, vq⟩, Lq, S, _, rfl, hsel.only (only_putObj _ _ _) hnd (fun e => by have : bx = w2.heap.size := e; omega), HPMQ.out.trans HPS.out, ⟨rfl, rfl, rfl, fun k hk => (HFRQ.out k hk).imp (fun h => h) fun h => by omega⟩,
          (HONQ.out.mono fun k _ h => h.elim (fun h => .inr (.inl h)) fun h => .inr (.inr h)).trans2E (only_putObj _ _ _) (fun k hk h => by have : k = w2.heap.size := h; omega), HPS.out, HSR.out, (HO5.out.low (by omega)).only (only_putObj _ _ _) (fun k hk h => by have := (HO5.out.lt k hk).1; have : k = w2.heap.size := h; omega), fun k hk h => by
            have h1 := (HO5.out.lt k hk).1
            rcases h with h | h | h
            · have : k = bs := h
              omega
            · have : k = b := h
              omega
            · exact HDJ.out k hk h⟩⟩
      | succ k1 =>
        obtain ⟨i, hi⟩ : ∃ i, N - (k1 + 1) = i := ⟨_, rfl⟩
        have hi2 : N - k1 = i + 1 := by omega
        have HI := Lib.hid hi2
        have hiN : i < N := by omega
        rw [hi] at HPMQ HO5 HDJ ⊢
        obtain ⟨g9, ⟨x0, x1, x2⟩, hg9, hg9b, hg9z, hxS, hcS, _, _⟩ := HO9.out.at_ tri_q i hiN (by omega)
        subst hg9
        have hd0 : wr.cell? ⟨g9, i * 3, none⟩ = some (.int .i64 x0) := hcS 0 (by omega)
        have hd1 : wr.cell? ⟨g9, i * 3 + 1, none⟩ = some (.int .i64 x1) := hcS 1 (by omega)
        have hd2 : wr.cell? ⟨g9, i * 3 + 2, none⟩ = some (.int .i64 x2) := hcS 2 (by omega)
        have bi : (i : Int) < (N : Int) := by omega
        have htk : S.take (i + 1) = S.take i ++ [(x0, x1, x2)] := by rw [List.take_add_one, hxS]; rfl
        have HTK := Lib.hid htk
        have hLq : Lq.length ≤ 1000000 := by rw [HPMQ.out.length_eq]; simp; omega
        clear hi hi2 hxS hcS htk
        obtain ⟨W3, hW3⟩ : ∃ W, wr.alloc (.cells #[.int .i64 x0, .int .i64 x1, .int .i64 x2] 277) = W := ⟨_, rfl⟩
        have hB3 : Below wr.heap.size wr W3 := by rw [← hW3]; exact below_alloc1 (Below.refl _ _) _
        have hbe3 : W3.heap[wr.heap.size]? = some (.cells #[.int .i64 x0, .int .i64 x1, .int .i64 x2] 277 (0, 0)) := by rw [← hW3]; exact heap_alloc_new _ _
        have hz3 := obj_lt hbe3
        have HBE := Lib.hid hbe3
        have hbsq := obj_below hB3 (HONQ.out.obj HS0.out.1 hns) (obj_lt (HONQ.out.obj HS0.out.1 hns))
        have hbxq := HONQ.out.cell HS0.out.2.1 hnx
        have hbxq3 := cell_below hB3 hbxq (World.block_lt_of_cell? _ _ hbxq)
        have hck : W3.cell? ⟨bs, 2, none⟩ = some (.pointer (some ⟨b, 0, none⟩)) := by simp [World.cell?, hbsq]
        have he0 : W3.cell? ⟨wr.heap.size, 0, none⟩ = some (.int .i64 x0) := by simp [World.cell?, hbe3]
        have he1 : W3.cell? ⟨wr.heap.size, 1, none⟩ = some (.int .i64 x1) := by simp [World.cell?, hbe3]
        have he2 : W3.cell? ⟨wr.heap.size, 2, none⟩ = some (.int .i64 x2) := by simp [World.cell?, hbe3]
        have HSLX := Lib.hid (show SlxE W3 bx bs from ⟨hbxq3, by simp [World.cell?, hbsq]⟩)
        have HH3 := Lib.hid (HHQ.out.keep hB3)
        have HO53 := Lib.hid (HO5.out.keep hB3)
        have HO93 := Lib.hid (HO9.out.keep hB3)
        have HK3 := Lib.hid (obj_below hB3 HKQ.out (obj_lt HKQ.out))
        have HON3 := Lib.hid (HONQ.out.trans (Only.of_below hB3))
        have hbr : Below W3.heap.size W3 W3 := Below.refl _ _
        have hNq : ∀ k, k < w.heap.size → Ns v b k → Ns vq b k := fun k hk h h2 => h2.elim (fun e => h (.inl e)) fun h2 => (HFRQ.out k h2).elim (fun e => h (.inr e)) fun e => by omega
        have hnx' := hNq bx hlbx hnx
        have hns' := hNq bs hlbs hns
        have hqlt : ∀ k, vq.ownBlock = some k → k < wr.heap.size := fun k hk => (HHQ.out.2.1.lt k hk).2
        have h5lt : ∀ k, OwnB (.slice A5 i c5) k → k < wr.heap.size := fun k hk => (HO5.out.lt k hk).2
        have hnbs : ¬ HpBE vq b bs := hns'
        have hnbe : ¬ HpBE vq b wr.heap.size := fun h => h.elim (fun h => by omega) fun h => by have := hqlt _ h; omega
        clear hB3 hbe3 hbsq hbxq hbxq3
        go_wp2_with fail
        (try rw [hW3])
        clear hW3 hd0 hd1 hd2
        go_region_held3 (fun w' => w'.cell? ⟨bs, 2, none⟩ = some (.pointer (some ⟨b, 0, none⟩)) ∧ w'.cell? ⟨wr.heap.size, 0, none⟩ = some (.int .i64 x0) ∧ w'.cell? ⟨wr.heap.size, 1, none⟩ = some (.int .i64 x1) ∧ w'.cell? ⟨wr.heap.size, 2, none⟩ = some (.int .i64 x2) ∧ Only (HpBE vq b) W3 w')
          (first | exact ⟨cell_below (B := W3.heap.size) (w := W3) (below_drew1 hbr) hck (World.block_lt_of_cell? _ _ hck), cell_below (B := W3.heap.size) (w := W3) (below_drew1 hbr) he0 (World.block_lt_of_cell? _ _ he0), cell_below (B := W3.heap.size) (w := W3) (below_drew1 hbr) he1 (World.block_lt_of_cell? _ _ he1), cell_below (B := W3.heap.size) (w := W3) (below_drew1 hbr) he2 (World.block_lt_of_cell? _ _ he2), Only.of_below (below_drew1 hbr)⟩ | exact ⟨hQ.cell hck hnbs, hQ.cell he0 hnbe, hQ.cell he1 hnbe, hQ.cell he2 hnbe, hQ⟩ | go_keep)
          (first
            | (go_at_call 181; go_split_ands; (with_reducible refine Calls.mono (PushE_calls bx bs b b vq Lq x0 x1 x2 _ ?_ HOKQ.out hLq ?_ hnx' hns') ?_); (exact HH3.out.keep (below_drew1 hbr)); (exact HSLX.out.keep (below_drew1 hbr)); rintro e W4 ⟨he, v9, l9, ⟨hH, hok, hon, hfr⟩, hpm⟩; subst he; have hQ : Only (HpBE vq b) W3 W4 := (Only.of_below (below_drew1 hbr)).trans hon; have HH9 := Lib.hid hH; have HOK9 := Lib.hid hok; have HFR9 := Lib.hid (show ∀ k, v9.ownBlock = some k → vq.ownBlock = some k ∨ W3.heap.size ≤ k from hfr); have HPM9 := Lib.hid hpm; clear hH hok hon hfr hpm))
        have hz4 := hQ.size
        have HQ := Lib.hid hQ
        have hn5 : ∀ k, (Value.slice A5 i c5).ownBlock = some k → ¬ HpBE vq b k := fun k hk h => h.elim (fun h => by have := (HO5.out.lt k hk).1; omega) fun h => HDJ.out k hk h
        have HO54 := Lib.hid (HO53.out.only hQ hn5)
        have HO94 := Lib.hid (HO93.out.only hQ fun k hk h => by
          have h1 := (hob9 k hk)
          rcases h with h | h
          · omega
          · rcases HFRQ.out k h with h | h
            · have := hlv k h; omega
            · omega)
        have hf0 : W4.cell? ⟨wr.heap.size, 0, none⟩ = some (.int .i64 x0) := hQ.cell he0 hnbe
        have hf1 : W4.cell? ⟨wr.heap.size, 1, none⟩ = some (.int .i64 x1) := hQ.cell he1 hnbe
        have HK4 := Lib.hid (hQ.obj HK3.out fun h => by
          rcases h with h | h
          · omega
          · rcases HFRQ.out _ h with h | h
            · have := hlv _ h; omega
            · omega)
        have HON4 := Lib.hid (HON3.out.trans2E hQ fun k hk h => h.elim (fun h => .inl h) fun h => .inr ((HFRQ.out k h).resolve_right (by omega)))
        have hbase : W2.heap.size ≤ W4.heap.size := by omega
        have hl5 : ((S.take i).map fun p => (p.1, p.2.1)).length = i := by rw [List.length_map, List.length_take, HSN.out]; omega
        have HL5 := Lib.hid hl5
        have hby : (((S.take i).map fun p => (p.1, p.2.1)).length + [(x0, x1)].length) * 16 ≤ 140737488355328 := by rw [hl5]; simp; omega
        obtain ⟨P5, hP5⟩ : ∃ P, ((S.take i).map fun p => (p.1, p.2.1)) = P := ⟨_, rfl⟩
        rw [hP5] at HO54 hby
        have hpl5 : P5.length = i := by rw [← hP5]; exact hl5
        have HP5 := Lib.hid hP5
        clear hQ hbr hck he0 he1 he2 hl5 HO53 HO93 HK3 HON3 HO5 HO9 HKQ HONQ hP5
        go_wp2_with (first
          | (at_builtin; refine wpList_appF (q := 2) (f := twoR) _ rfl (.tmp 32) (.tmp 35) 36 90 rfl (.agg #[.int .i64 0, .int .i64 0]) 16 Tryz.underlying36 infoR rfl (by omega) (by omega) twoR_q twoR_one W2.heap.size (.slice A5 i c5) P5 rfl (some ⟨W4.heap.size, 0, none⟩) 1 [(x0, x1)] rfl (HO54.out.alloc1 _) W4 ((Below.refl _ _).alloc (by omega) _) (by rw [World.size_alloc]; omega) (RdC.block (cs := #[.int .i64 x0, .int .i64 x1]) (heap_alloc_new _ _)) hby ?_; intro v6 W5 hown hgrow hbel hat hnil; obtain ⟨A6, c6, hv6, _⟩ := hown.shape; rw [List.length_append, List.length_singleton, hpl5] at hv6; subst hv6; have HO6 := Lib.hid hown; have HG := Lib.hid hgrow; have HAT := Lib.hid hat; clear hown hgrow hbel hat hnil))
        go_roundg k1
        case measure => omega
        case rel =>
          have hall : Only (OwnB (.slice A5 i c5)) W4 W5 := (Only.of_below (below_alloc1 (Below.refl _ _) _)).trans HG.out
          have hz5 := hall.size
          have h5b : ∀ k, OwnB (.slice A5 i c5) k → W2.heap.size ≤ k ∧ k < wr.heap.size := fun k hk => by have h := HO54.out.lt k hk; have h2 := h5lt k hk; exact ⟨h.1, h2⟩
          have h9lt : ∀ k, v9.ownBlock = some k → k < W4.heap.size := fun k hk => (HH9.out.2.1.lt k hk).2
          refine ⟨v9, l9, A6, c6, by omega, by rw [HI.out], by rw [HI.out]; rfl, HH9.out.only hall (fun h => by have := (h5b _ h).1; omega) (fun k hk h => ?_), HOK9.out, ?_, fun k hk => ?_, ?_, fun k hk h => ?_, HO94.out.only hall (fun k hk h => ?_), HON4.out.trans2E hall (fun k hk h => ?_), by omega, hall.obj HK4.out (fun h => ?_)⟩
          · rcases HFR9.out k hk with e | e
            · exact HDJ.out k h e
            · have := (h5b _ h).2; omega
          · rw [HI.out, HTK.out]
            exact HPM9.out.trans ((HPMQ.out.cons _).trans (List.perm_append_comm (l₁ := [(x0, x1, x2)]) (l₂ := S.take i)))
          · rcases HFR9.out k hk with e | e
            · exact HFRQ.out k e
            · exact .inr (by omega)
          · rw [HI.out, HTK.out, List.map_append]
            have h := HO6.out
            rw [← HP5.out] at h
            exact h
          · rw [HI.out] at hk
            rcases HAT.out with e | e
            · rw [e] at hk
              rcases HFR9.out k h with e2 | e2
              · exact HDJ.out k hk e2
              · have := (h5b _ hk).2; omega
            · rw [e] at hk
              injection hk with hk
              have := h9lt k h
              have hsz := World.size_alloc W4 (.cells #[.int .i64 x0, .int .i64 x1] 90)
              omega
          · have := (h5b _ h).1
            have := hob9 k hk
            omega
          · have := (h5b _ h).1; omega
          · have := (h5b _ h).1; omega
  case stop =>
    rintro _ cc pre W rfl _ h hK
    exact h.elim
end Go.Proofs.YticdmglondpgaaaGreat
