/-
  What the statements of layer 7 (heap) share: the least of a list, and the document's example. No condition.
-/
import Derived.Test.YtacgkoclammggaaHeap3
namespace Go.Proofs.Ytacgkoclammggaa
open Go.RowKit
set_option linter.unusedVariables false
set_option linter.unusedSimpArgs false

def IsMin (y : Int) (M : List Int) : Prop := y ∈ M ∧ ∀ a ∈ M, y ≤ a
theorem IsMin.uniq {x y : Int} {M : List Int} (h : IsMin x M) (k : IsMin y M) : x = y := by
  have := h.2 y k.1
  have := k.2 x h.1
  omega
theorem HeapOk.min {y : Int} {L M : List Int} (h : HeapOk ltI (y :: L)) (hp : (y :: L).Perm M) : IsMin y M :=
  ⟨hp.subset (List.mem_cons_self), fun a ha => by
    have h1 := h.first ltI_wo (x := y) (by simp) (hp.symm.subset ha)
    have := of_decide_eq_false h1
    omega⟩
theorem perm_erase {y : Int} {L M : List Int} (hp : (y :: L).Perm M) : L.Perm (M.erase y) := by
  have h := hp.erase y
  rwa [List.erase_cons_head] at h
theorem _root_.Go.RowKit.Below.after {a b c : World} (h : Below a.heap.size a b) (k : Below b.heap.size b c) : Below a.heap.size a c := h.trans (k.mono h.size)
theorem awake7_calls (w : World) : Calls Try.prog 17 #[] w fun e w' => e = .returned (.bool true) ∧ Below w.heap.size w w' := by
  go_enter Try.func17, Try.ntmps17
  go_wp2_with fail
  refine (New_calls _ _ [3, 1, 2] _ (Rd.new w .i64 [3, 1, 2] 3 (by simp)) (by simp)).mono ?_
  rintro e w1 ⟨b, v, L, he, hlo, hH, hok, hpm, hb⟩
  subst he
  have hb1 : Below w.heap.size w w1 := (below_alloc1 (Below.refl _ _) _).trans (hb.mono (by simp))
  cases L with
  | nil => exact absurd hpm.length_eq (by simp)
  | cons y L =>
    obtain rfl : y = 1 := (HeapOk.min hok hpm).uniq ⟨by simp, by simp⟩
    have hp2 : L.Perm [3, 2] := perm_erase hpm
    have hLl : L.length ≤ 1000000 := by rw [hp2.length_eq]; simp
    have HOK := Lib.hid hok
    have HP2 := Lib.hid hp2
    have HH := Lib.hid hH
    have hwl : w.heap.size ≤ b := Nat.le_trans (by simp) hlo
    have hz1 := hb1.size
    clear hH hok hpm hp2 hb
    go_wp2_with fail
    refine (Pop_some b b v 1 L _ HH.out HOK.out hLl).mono ?_
    rintro e w2 ⟨he, v2, L2, ⟨hH2, hok2, hon2, _⟩, hpm2⟩
    subst he
    have hb2 : Below w.heap.size w w2 := hb1.trans (hon2.below hz1 fun k hk h => h.elim (fun h => by omega) fun h => by have := (HH.out.2.1.lt k h).1; omega)
    have hp3 := hpm2.trans HP2.out
    cases L2 with
    | nil => exact absurd hp3.length_eq (by simp)
    | cons y L2 =>
      obtain rfl : y = 2 := (HeapOk.min hok2 hp3).uniq ⟨by simp, by simp⟩
      have hl2 : ((2 :: L2 : List Int).length : Int) = 2 := by rw [hp3.length_eq]; rfl
      have H2 := Lib.hid hH2
      have HL2 := Lib.hid hl2
      clear hH2 hok2 hon2 hpm2 hp3 hl2 HH
      go_wp2_with fail
      refine (Peek_some b b v2 2 L2 _ H2.out).mono ?_
      rintro e _ ⟨he, q, rfl⟩
      subst he
      go_wp2_with fail
      refine (HLen_calls b b v2 (2 :: L2) _ (H2.out.drewN q)).mono ?_
      rintro e _ ⟨he, q2, rfl⟩
      rw [HL2.out] at he
      subst he
      go_wp2_with fail
      go_ret
      exact ⟨rfl, below_drewN hb2 (q + q2)⟩
end Go.Proofs.Ytacgkoclammggaa
