
/-
  What the statements of layer 8 (topk) share: the document's example; rows of results. No condition.
-/
import Derived.Test.YtacgkoclammggaaOfE
import Derived.Test.YtacgkoclammggaaOpen
namespace Go.Proofs.Ytacgkoclammggaa
open Go.RowKit
set_option linter.unusedVariables false
set_option maxRecDepth 100000
set_option linter.unusedSimpArgs false

theorem RdP.c {w : World} {A : Option Addr} {xs : List (Int × Int)} (h : RdP w .i64 .i64 A xs) : RdC w A (xs.flatMap twoR) := fun j u hu => by
  have hl : (xs.flatMap twoR).length = xs.length * 2 := cellsF_length twoR_q xs
  have hj : j < xs.length * 2 := by rw [← hl]; exact (List.getElem?_eq_some_iff.1 hu).1
  obtain ⟨ad, e, h0, h1⟩ := h.2 (j / 2) (by omega)
  have hx : xs[j / 2]? = some (xs.getD (j / 2) (0, 0)) := by
    have : j / 2 < xs.length := by omega
    simp [List.getD, this]
  have hg := cellsF_get twoR_q xs (j / 2) (j % 2) _ hx (by omega)
  rw [show j / 2 * 2 + j % 2 = j by omega, hu] at hg
  refine ⟨ad, e, ?_⟩
  rcases (show j % 2 = 0 ∨ j % 2 = 1 by omega) with hm | hm
  · rw [hm] at hg
    have e2 : u = .int .i64 (xs.getD (j / 2) (0, 0)).1 := by simpa [twoR] using hg
    rw [e2, ← h0, show j = j / 2 * 2 by omega]
    simp
  · rw [hm] at hg
    have e2 : u = .int .i64 (xs.getD (j / 2) (0, 0)).2 := by simpa [twoR] using hg
    rw [e2, ← h1]
    congr 2
    omega
theorem RdP.three {w : World} {b : Nat} {t : TypeId} {fr : Nat × Nat} {a0 a1 b0 b1 c0 c1 : Int} (h : w.heap[b]? = some (.cells #[.int .i64 a0, .int .i64 a1, .int .i64 b0, .int .i64 b1, .int .i64 c0, .int .i64 c1] t fr)) : RdP w .i64 .i64 (some ⟨b, 0, none⟩) [(a0, a1), (b0, b1), (c0, c1)] := by
  refine ⟨by simp, fun j hj => ⟨_, rfl, ?_⟩⟩
  simp at hj
  rcases (show j = 0 ∨ j = 1 ∨ j = 2 by omega) with rfl | rfl | rfl <;> simp [World.cell?, h, Addr.add]
set_option maxHeartbeats 1600000 in
theorem awake8_calls (w : World) : Calls Try.prog 41 #[] w fun e w' => e = .returned (.bool true) ∧ Below w.heap.size w w' := by
  go_enter Try.func41, Try.ntmps41
  go_wp2_with fail
  obtain ⟨w1, hw1⟩ : ∃ W, w.alloc (.cells #[.int .i64 3, .int .i64 0, .int .i64 1, .int .i64 0, .int .i64 2, .int .i64 0] 41) = W := ⟨_, rfl⟩
  have hb1 : Below w.heap.size w w1 := by rw [← hw1]; exact below_alloc1 (Below.refl _ _) _
  have hbl : w1.heap[w.heap.size]? = some (.cells #[.int .i64 3, .int .i64 0, .int .i64 1, .int .i64 0, .int .i64 2, .int .i64 0] 41 (0, 0)) := by rw [← hw1]; exact heap_alloc_new _ _
  have hz1 := obj_lt hbl
  rw [hw1]
  refine (Values_calls (some ⟨w.heap.size, 0, none⟩) 3 3 w1).mono ?_
  rintro e w2 ⟨he, hw2⟩
  subst he
  have hb2 : Below w1.heap.size w1 w2 := by rw [hw2]; exact below_alloc1 (Below.refl _ _) _
  have hv2 : w2.heap[w1.heap.size]? = some (.cells #[.slice (some ⟨w.heap.size, 0, none⟩) 3 3] 49 (0, 0)) := by rw [hw2]; exact heap_alloc_new _ _
  have hr2 := RdP.three (obj_below hb2 hbl (obj_lt hbl))
  have HB2 := Lib.hid (hb1.trans (hb2.mono hb1.size))
  clear hw1 hw2 hb1 hb2 hbl
  go_wp2_with fail
  refine (Of_calls 2 w1.heap.size (some ⟨w.heap.size, 0, none⟩) 3 [(3, 0), (1, 0), (2, 0)] w2 hv2 hr2 (by simp)).mono ?_
  rintro e w3 ⟨vO, he, hO, hb3⟩
  subst he
  rw [show (sortI ltR (0, 0) [(3, 0), (1, 0), (2, 0)]).take (2 : Int).toNat = [(1, 0), (2, 0)] by decide] at hO
  obtain ⟨A, c, rfl, hc⟩ := hO.shape
  obtain ⟨g, x, rfl, _, _, hx, hc0, _, _⟩ := hO.at_ twoR_q 0 (by simp) (by omega)
  obtain ⟨g', y, hg', _, _, hy, hc1, _, _⟩ := hO.at_ twoR_q 1 (by simp) (by omega)
  injection hg' with hg'
  injection hg' with hg'
  subst hg'
  simp at hx hy
  subst hx hy
  have h0 : w3.cell? ⟨g, 0, none⟩ = some (.int .i64 1) := by simpa [twoR] using hc0 0 (by omega)
  have h1 : w3.cell? ⟨g, 2, none⟩ = some (.int .i64 2) := by simpa [twoR] using hc1 0 (by omega)
  have HB3 := Lib.hid (HB2.out.trans (hb3.mono HB2.out.size))
  clear hO hc0 hc1 hb3 hv2 hr2
  go_wp2_with fail
  go_ret
  exact ⟨rfl, HB3.out⟩
theorem u8_wf {n : Int} (h : (Lit.int .u8 n).wf = true) : 0 ≤ n ∧ n ≤ 255 := by
  simp [Lit.wf, IntKind.min, IntKind.max, IntKind.signed, IntKind.bits] at h
  omega
theorem wrap_u8 {k : Int} (h : (Lit.int .u8 k).wf = true) : IntKind.i64.wrap k = k ∧ 0 ≤ k ∧ k ≤ 255 := by
  have h := u8_wf h
  exact ⟨by rw [i64_w]; exact wrap64_id _ (by omega), by omega, by omega⟩
end Go.Proofs.Ytacgkoclammggaa
