
/-
  The heap of entries of a selector (shelterbelt/api.Result): Drain, as an iterator. Condition: the heap's blocks are as the word HpE bx says; no more than a million things.
-/
import Derived.Test.YtacgkoclammggaaHeap5E
import Derived.Test.YtacgkoclammggaaRange
import Derived.Test.YtacgkoclammggaaDrn
import Derived.Shelf.Abstract
namespace Go.Proofs.Ytacgkoclammggaa
open Go.RowKit
set_option linter.unusedVariables false
set_option maxRecDepth 100000
set_option linter.unusedSimpArgs false
attribute [local go_sem] Oper.semAt_some

/-- The caller keeps the heap's blocks, the box, and the selector's. -/
def KpSE (v : Value) (b bX bx bs : Nat) (A B : World) : Prop := Only (fun k => ¬ (k = b ∨ OwnB v k ∨ k = bX ∨ k = bx ∨ k = bs)) A B
theorem KpSE.trans {v : Value} {b bX bx bs : Nat} {A B C : World} (h : KpSE v b bX bx bs A B) (k : KpSE v b bX bx bs B C) : KpSE v b bX bx bs A C := Only.trans h k
theorem KpSE.putObj {v : Value} {b bX bx bs n : Nat} (hE : b < n ∧ bX < n ∧ bx < n ∧ bs < n ∧ ∀ k, OwnB v k → k < n) (W : World) (l : Nat) (o' : Obj) (hl : n ≤ l) : KpSE v b bX bx bs W (W.putObj l o') :=
  ⟨rfl, rfl, rfl, by simp, fun k _ hk => World.putObj_heap_other fun e => hk fun h => by
    rcases h with h | h | h | h | h
    · omega
    · have := hE.2.2.2.2 k h; omega
    · omega
    · omega
    · omega⟩
theorem DrainE_calls (b : Nat) (w : World) :
    Calls Try.prog 88 #[.pointer (some ⟨b, 0, none⟩)] w fun e w' => e = .returned (.func (.func 113) #[] #[.pointer (some ⟨w.heap.size, 0, none⟩)]) ∧ w' = w.alloc (.cells #[.pointer (some ⟨b, 0, none⟩)] 119) := by
  go_enter Try.func88, Try.ntmps88
  go_wp2_with fail
  go_ret
  exact ⟨rfl, rfl⟩
theorem HpE.n {w : World} {bx b lo : Nat} {v : Value} {l : List (Int × Int × Int)} (h : HpE bx w b lo v l) : hpN b w = l.length := by
  obtain ⟨A, c, rfl, hlc⟩ := h.2.1.shape
  have h1 := h.1
  simp [hpN, World.cell?, h1]
theorem HpE.kp {A B : World} {bx bs b lo bX : Nat} {v v' : Value} {l : List (Int × Int × Int)} (h : HpE bx A b lo v' l) (hv : v'.ownBlock = v.ownBlock) (hk : KpSE v b bX bx bs A B) : HpE bx B b lo v' l :=
  h.only hk (fun h => h (.inl rfl)) fun k hk h => h (.inr (.inl (by unfold OwnB; rw [← hv]; exact hk)))
set_option maxHeartbeats 1600000 in
theorem drainE_iter (m bX bx bs b lo : Nat) (v : Value) (l : List (Int × Int × Int)) (w : World) (hp : HpE bx w b lo v l) (hok : HeapOk ltE l) (hl : l.length ≤ 1000000) (hbX : w.heap[bX]? = some (.cells #[.pointer (some ⟨b, 0, none⟩)] 119 (0, 0))) (hne : bX ≠ b) (hno : ∀ k, v.ownBlock = some k → k ≠ bX) (hsl : SlxE w bx bs) (hnx : Ns v b bx) (hns : Ns v b bs) :
    IterD Fence.wide m Try.prog 113 #[.pointer (some ⟨bX, 0, none⟩)] (fun x : Int × Int × Int => #[.agg #[.int .i64 x.1, .int .i64 x.2.1, .int .i64 x.2.2]]) (HpBE v b) (KpSE v b bX bx bs) (fun pre x _ _ => ∃ L, Drn ltE l (pre ++ [x]) L)
      (fun xs W => ∃ v', HpE bx W b lo v' [] ∧ Drn ltE l xs [] ∧ v'.ownBlock = v.ownBlock) (fun xs W => ∃ v' L, HpE bx W b lo v' L ∧ HeapOk ltE L ∧ Drn ltE l xs L ∧ v'.ownBlock = v.ownBlock) l.length w := by
  intro lp J Jx W hW hJ hJx hY h0
  refine callsIn_of_wp Try.func113 rfl trivial ?_ rfl
  simp only [Try.ntmps113, List.size_toArray, List.length_cons, List.length_nil, Nat.reduceAdd, Nat.reduceSub, Array.replicate_succ, Array.replicate_zero, List.push_toArray, List.append_toArray, List.nil_append, List.cons_append]
  have hX0 := obj_below hW hbX (obj_lt hbX)
  have hP0 := hp.keep hW
  have HJ := Lib.hid hJ
  have HJX := Lib.hid hJx
  have HY := Lib.hid hY
  have H0 := Lib.hid h0
  have HX0 := Lib.hid hX0
  have HP0 := Lib.hid hP0
  have HOK := Lib.hid hok
  have HNO := Lib.hid hno
  have HSL0 := Lib.hid (hsl.keep hW)
  clear hJ hJx hY h0 hX0 hP0 hok hbX hp hno hsl
  gi_wp2
  gi_loopw [] (fun wr => ∃ v' L pre, HpE bx wr b lo v' L ∧ HeapOk ltE L ∧ Drn ltE l pre L ∧ v'.ownBlock = v.ownBlock ∧ J pre wr ∧ SlxE wr bx bs ∧ wr.heap[bX]? = some (.cells #[.pointer (some ⟨b, 0, none⟩)] 119 (0, 0))) (fun wr => hpN b wr)
  case atStart => exact ⟨v, l, [], HP0.out, HOK.out, Drn.nil (List.Perm.refl _), rfl, H0.out, HSL0.out, HX0.out⟩
  case round =>
    clear HX0 H0 HP0 HOK
    obtain ⟨v', L, pre, hH, hok, hdr, hv, hJs, hsl, hX⟩ := hrel
    have hx0 : wr.cell? ⟨bX, 0, none⟩ = some (.pointer (some ⟨b, 0, none⟩)) := by simp [World.cell?, hX]
    have HH := Lib.hid hH
    have HOK := Lib.hid hok
    have HDR := Lib.hid hdr
    have HV := Lib.hid hv
    have HJS := Lib.hid hJs
    have HSL := Lib.hid hsl
    have hnx' : Ns v' b bx := by unfold Ns OwnB; rw [hv]; exact hnx
    have hns' : Ns v' b bs := by unfold Ns OwnB; rw [hv]; exact hns
    have HNX := Lib.hid hnx'
    have HNS := Lib.hid hns'
    clear hsl hnx' hns'
    have HX := Lib.hid hX
    have HN := Lib.hid hH.n
    clear hH hok hdr hv hJs hX
    cases L with
    | nil =>
      gi_wp2
      refine ⟨trivial, (fun h => by cases h), (callsIn_wide.2 (HLenE_calls bx b lo v' [] wr HH.out)).mono ?_⟩
      rintro e _ ⟨he, q, rfl⟩
      subst he
      gi_wp2
      go_end0
      exact ⟨⟨_, rfl⟩, .inl ⟨pre, ⟨v', HH.out.keep (below_drewN_self _ q), HDR.out, HV.out⟩, HJ.out _ _ _ HJS.out (Only.of_below (below_drewN_self _ q))⟩⟩
    | cons x L0 =>
      obtain ⟨x0, x1, x2⟩ := x
      have hln := HDR.out.len
      have hL0 : L0.length ≤ 1000000 := by simp at hln; omega
      have hpl : pre.length < l.length := by simp at hln; omega
      have hb0 : decide ((0 : Int) < (((x0, x1, x2) :: L0 : List (Int × Int × Int)).length : Int)) = true := by simp
      obtain ⟨n, hn⟩ : ∃ n, (((x0, x1, x2) :: L0 : List (Int × Int × Int)).length : Int) = n := ⟨_, rfl⟩
      rw [hn] at hb0
      have HNN := Lib.hid hn
      clear hln hn
      gi_wp2
      refine ⟨trivial, (fun h => by cases h), (callsIn_wide.2 (HLenE_calls bx b lo v' ((x0, x1, x2) :: L0) wr HH.out)).mono ?_⟩
      rintro e _ ⟨he, q, rfl⟩
      rw [HNN.out] at he
      subst he
      gi_wp2
      refine ⟨trivial, (fun h => by cases h), (callsIn_wide.2 (PopE_some bx bs b lo v' x0 x1 x2 L0 _ (HH.out.keep (below_drewN_self _ q)) HOK.out hL0 (HSL.out.keep (below_drewN_self _ q)) HNX.out HNS.out)).mono ?_⟩
      rintro e w2 ⟨he, v2, L2, ⟨hH2, hok2, hon2, _⟩, hpm2, hv2⟩
      subst he
      have hvv : v2.ownBlock = v.ownBlock := hv2.trans HV.out
      have ho1 : Only (HpBE v b) wr w2 := (Only.of_below (below_drewN_self wr q)).trans (hon2.mono fun k _ h => h.imp (fun h => h) fun h => by unfold OwnB at h ⊢; rw [← HV.out]; exact h)
      have hdr2 := HDR.out.step ltE_wo HOK.out hpm2
      have ho2 : Only (HpBE v b) wr (w2.alloc (.cells #[.int .i64 x0, .int .i64 x1, .int .i64 x2] 124)) := ho1.trans (Only.of_below (below_alloc1 (Below.refl _ _) _))
      obtain ⟨fn, tmps, assign, body, hy, hR⟩ := HY.out pre (x0, x1, x2) wr _ HJS.out ho2 hpl ⟨L2, hdr2⟩
      have HRR := Lib.hid hR
      have hbXn : ¬ HpBE v b bX := fun h => h.elim (fun h => hne h) fun h => HNO.out bX h rfl
      have HX2 := Lib.hid (ho2.obj HX.out hbXn)
      have HSL2 := Lib.hid (HSL.out.only ho2 hnx hns)
      have HH2 := Lib.hid (hH2.keep (below_alloc1 (Below.refl _ _) (.cells #[.int .i64 x0, .int .i64 x1, .int .i64 x2] 124)))
      have HOK2 := Lib.hid hok2
      have HDR2 := Lib.hid hdr2
      have HV2 := Lib.hid hvv
      have HL2 := Lib.hid hpm2.length_eq
      clear ho1 ho2 hR hH2 hok2 hon2 hpm2 hv2 hvv hdr2 HX
      gi_wp2
      refine ⟨(fun h => by cases h), HRR.out.mono ?_⟩
      rintro e W3 (⟨rfl, hJ3, hk3⟩ | ⟨rfl, hJx3, hk3⟩)
      · have HJ3 := Lib.hid hJ3
        have HH3 := Lib.hid (HH2.out.only hk3 (fun h => h (.inl rfl)) fun k hk h => h (.inr (.inl (by unfold OwnB; rw [← HV2.out]; exact hk))))
        have HX3 := Lib.hid (Only.obj hk3 HX2.out fun h => h (.inr (.inr (.inl rfl))))
        have HSL3 := Lib.hid (HSL2.out.only hk3 (fun h => h (.inr (.inr (.inr (.inl rfl))))) (fun h => h (.inr (.inr (.inr (.inr rfl))))))
        clear hJ3 hk3
        gi_wp2
        go_roundw
        case rel => exact ⟨v2, L2, _, HH3.out, HOK2.out, HDR2.out, HV2.out, HJ3.out, HSL3.out, HX3.out⟩
        case measure => rw [HN.out, HH3.out.n, HL2.out]; simp
      · have HJ3 := Lib.hid hJx3
        have HH3 := Lib.hid (HH2.out.only hk3 (fun h => h (.inl rfl)) fun k hk h => h (.inr (.inl (by unfold OwnB; rw [← HV2.out]; exact hk))))
        clear hJx3 hk3
        gi_wp2
        refine bodyPost_ret (results_none rfl _ _ _) rfl ?_
        exact ⟨⟨_, rfl⟩, .inr ⟨_, ⟨v2, L2, HH3.out, HOK2.out, HDR2.out, HV2.out⟩, HJ3.out⟩⟩
end Go.Proofs.Ytacgkoclammggaa
