/-
  The heap of things of two whole numbers: New.
-/
import Derived.Test.YtacgkoclammggaaHeap4R
import Derived.Test.YtacgkoclammggaaPairs
namespace Go.Proofs.Ytacgkoclammggaa
open Go.RowKit
set_option linter.unusedVariables false
set_option linter.unusedSimpArgs false

theorem add_one2R (ad : Addr) (i : Nat) (w : World) : w.cell? ⟨(ad.add (i * 2)).block, (ad.add (i * 2)).off + 1, none⟩ = w.cell? (ad.add (i * 2 + 1)) := by rw [← Addr.add_add]; rfl
/-! ### New -/
set_option maxHeartbeats 3200000 in
theorem NewR_calls (A : Option Addr) (c : Nat) (l : List (Int × Int)) (w : World) (ha : RdP w .i64 .i64 A l) (hl : l.length ≤ 1000000) :
    Calls Try.prog 32 #[.func (.func 29) #[] #[], .slice A l.length c] w fun e w' => ∃ b v L, e = .returned (.pointer (some ⟨b, 0, none⟩)) ∧ w.heap.size ≤ b ∧ HpR w' b b v L ∧ HeapOk ltR L ∧ L.Perm l ∧ Below w.heap.size w w' := by
  have KA := Lib.hid ha
  clear ha
  go_enter Try.func32, Try.ntmps32
  go_wp2_with fail
  obtain ⟨w1, hw⟩ : ∃ W, w.alloc (.cells #[.func (.func 29) #[] #[], .slice none 0 0] 111) = W := ⟨_, rfl⟩
  rw [hw]
  have hH : HpR w1 w.heap.size w.heap.size (.slice none 0 0) [] := by
    refine ⟨by rw [← hw]; exact heap_alloc_new w _, OwnF.nil _ _ _, Nat.le_refl _, fun k hk => by simp [Value.ownBlock] at hk⟩
  have hb1 : Below w.heap.size w w1 := by rw [← hw]; exact below_alloc1 (Below.refl _ _) _
  have HH := Lib.hid hH
  clear hw hH
  go_loopg [13] l.length (fun kq v13 w' => ∃ v L, kq ≤ l.length ∧ v13 = .int .i64 ((l.length - kq : Nat) : Int) ∧ HpR w' w.heap.size w.heap.size v L ∧ HeapOk ltR L ∧ L.Perm (l.take (l.length - kq)) ∧ Below w.heap.size w w')
  case atStart => exact ⟨_, [], Nat.le_refl _, by simp, HH.out, fun i a b h0 ha => by simp at ha, by simp, hb1⟩
  case round =>
    clear HH hb1
    obtain ⟨v, L, hk, rfl, hH, hok, hpm, hb⟩ := hrel
    have HH := Lib.hid hH
    have HOK := Lib.hid hok
    have HPM := Lib.hid hpm
    have HB := Lib.hid hb
    clear hH hok hpm hb
    cases gk with
    | zero =>
      simp only [Nat.sub_zero] at HPM ⊢
      go_wp2_with fail
      go_ret
      exact ⟨_, v, L, rfl, Nat.le_refl _, HH.out, HOK.out, by simpa using HPM.out, HB.out⟩
    | succ k1 =>
      obtain ⟨i, hi⟩ : ∃ i, l.length - (k1 + 1) = i := ⟨_, rfl⟩
      have hi2 : l.length - k1 = i + 1 := by omega
      have HI := Lib.hid hi2
      have hlt : i < l.length := by omega
      rw [hi] at HPM ⊢
      obtain ⟨ad, rfl, hca0, hca1⟩ := KA.out.2 i hlt
      have hbk := World.block_lt_of_cell? _ _ hca0
      obtain ⟨⟨x0, x1⟩, hx⟩ : ∃ x, l.getD i (0, 0) = x := ⟨_, rfl⟩
      rw [hx] at hca0 hca1
      have hca1' : w.cell? ⟨(ad.add (i * 2)).block, (ad.add (i * 2)).off + 1, none⟩ = some (.int .i64 x1) := by rw [← hca1]; exact (add_one2R ad i w)
      have hd0 : wr.cell? (ad.add (i * 2)) = some (.int .i64 x0) := cell_below HB.out hca0 hbk
      have hd1 : wr.cell? ⟨(ad.add (i * 2)).block, (ad.add (i * 2)).off + 1, none⟩ = some (.int .i64 x1) := cell_below HB.out hca1' hbk
      clear hca0 hca1 hca1'
      have hLl : L.length ≤ 1000000 := by rw [HPM.out.length_eq]; simp; omega
      have htk : l.take (i + 1) = l.take i ++ [(x0, x1)] := by rw [← hx, List.take_add_one, getF (d := (0, 0)) hlt]; rfl
      have HTK := Lib.hid htk
      have hzb : w.heap.size ≤ wr.heap.size := HB.out.size
      clear hi hi2 hx htk hbk
      go_wp2_with fail
      refine (PushR_calls w.heap.size w.heap.size v L x0 x1 _ (HH.out.keep (below_alloc1 (Below.refl _ _) _)) HOK.out hLl).mono ?_
      rintro e w2 ⟨he, v', L', ⟨hH2, hok2, hon2, hfr2⟩, hpm2⟩
      subst he
      have H2 := Lib.hid hH2
      have O2 := Lib.hid hok2
      have P2 := Lib.hid hpm2
      have B2 := Lib.hid ((below_alloc1 HB.out _).trans (hon2.below (by rw [World.size_alloc]; omega) fun k hk h => h.elim (fun h => by omega) fun h => by have := (HH.out.2.1.lt k h).1; omega))
      clear hH2 hok2 hon2 hfr2 hpm2
      go_wp2_with fail
      go_roundg k1
      case measure => omega
      case rel =>
        refine ⟨v', L', by omega, by rw [HI.out]; rfl, H2.out, O2.out, ?_, B2.out⟩
        rw [HI.out, HTK.out]
        exact P2.out.trans ((HPM.out.cons (x0, x1)).trans (List.perm_append_comm (l₁ := [(x0, x1)]) (l₂ := l.take i)))
end Go.Proofs.Ytacgkoclammggaa
