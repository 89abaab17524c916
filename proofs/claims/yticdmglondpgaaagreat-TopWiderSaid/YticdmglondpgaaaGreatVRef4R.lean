/-
  The document's answer of layer 4 (api.Result): its order, sort and sameness. Condition: no more than a million things.
-/
import Derived.BigRegion
import Derived.Deep.RegionHeld3
import Derived.Test.YticdmglondpgaaaGreatQ03
import Derived.Test.YticdmglondpgaaaGreatQ13

namespace Go.Proofs.YticdmglondpgaaaGreat
open Go.RowKit
set_option linter.unusedVariables false
set_option maxRecDepth 100000
set_option linter.unusedSimpArgs false

theorem two_addR (ad : Addr) (i : Nat) (w : World) : w.cell? ⟨(ad.add (i * 2)).block, (ad.add (i * 2)).off + 1, none⟩ = w.cell? (ad.add (i * 2 + 1)) := by rw [← Addr.add_add]; rfl
/-! ### the same ones -/
set_option maxHeartbeats 1600000 in
theorem SameR_calls (A B : Option Addr) (c d : Nat) (xs ys : List (Int × Int)) (w : World) (ha : RdP w .i64 .i64 A xs) (hb : RdP w .i64 .i64 B ys) :
    Calls Tryz.prog 16 #[.slice A xs.length c, .slice B ys.length d] w fun e w' => e = .returned (.bool (decide (xs = ys))) ∧ ∃ n, w' = w.drewN n := by
  have KA := Lib.hid ha
  have KB := Lib.hid hb
  have lA := ha.1
  clear ha hb
  by_cases hl : xs.length = ys.length
  · obtain ⟨n, hn⟩ : ∃ n, ys.length = n := ⟨_, rfl⟩
    rw [hn] at hl
    have HX := Lib.hid hl
    have HY := Lib.hid hn
    rw [hl] at lA
    rw [hl, hn]
    have hnn : ((n : Int) != (n : Int)) = false := by simp
    clear hl hn
    go_enter Tryz.func16, Tryz.ntmps16
    go_wp2_with fail
    go_loopg [5] n (fun kq v5 w' => kq ≤ n ∧ v5 = .int .i64 ((n - kq : Nat) : Int) ∧ (∀ j, j < n - kq → xs.getD j (0, 0) = ys.getD j (0, 0)) ∧ ∃ q, w' = w.drewN q)
    case atStart => exact ⟨Nat.le_refl _, by simp, fun j hj => by omega, 0, rfl⟩
    case round =>
      obtain ⟨hk, rfl, hpre, q, hwq⟩ := hrel
      have HP := Lib.hid hpre
      have hbel : Below w.heap.size w wr := by rw [hwq]; exact below_drewN_self w q
      have HW := Lib.hid hwq
      clear hpre hwq
      cases gk with
      | zero =>
        simp only [Nat.sub_zero] at HP ⊢
        have hlt0 : ¬ ((n : Int) < (n : Int)) := by omega
        go_wp2_with fail
        go_ret
        refine ⟨ret_bool ?_, q, HW.out⟩
        symm
        rw [decide_eq_true_iff]
        refine List.ext_getElem (by rw [HX.out, HY.out]) fun j h1 h2 => ?_
        have := HP.out j (by have := HX.out; omega)
        simpa [List.getD, h1, h2] using this
      | succ k1 =>
        obtain ⟨i, hi⟩ : ∃ i, n - (k1 + 1) = i := ⟨_, rfl⟩
        have hi2 : n - k1 = i + 1 := by omega
        have HI := Lib.hid hi2
        have hlt : i < n := by omega
        rw [hi] at HP ⊢
        obtain ⟨ad, rfl, hca0, hca1⟩ := (KA.out.below hbel).2 i (by rw [HX.out]; exact hlt)
        obtain ⟨bd, rfl, hcb0, hcb1⟩ := (KB.out.below hbel).2 i (by rw [HY.out]; exact hlt)
        obtain ⟨⟨x0, x1⟩, hx⟩ : ∃ x, xs.getD i (0, 0) = x := ⟨_, rfl⟩
        obtain ⟨⟨y0, y1⟩, hy⟩ : ∃ y, ys.getD i (0, 0) = y := ⟨_, rfl⟩
        rw [hx] at hca0 hca1
        rw [hy] at hcb0 hcb1
        rw [← two_addR] at hca1 hcb1
        have HXE := Lib.hid hx
        have HYE := Lib.hid hy
        clear hi hi2 hx hy
        rcases (by by_cases h0 : x0 = y0 <;> by_cases h1 : x1 = y1 <;> simp [h0, h1] : (x0 = y0 ∧ x1 = y1) ∨ ¬ x0 = y0 ∨ (x0 = y0 ∧ ¬ x1 = y1)) with hc | hc | hc
        · obtain ⟨rfl, rfl⟩ := hc
          go_wp2_with fail
          go_quiet (fail)
          go_wp2_with fail
          go_roundg k1
          case measure => omega
          case rel =>
            refine ⟨by omega, by rw [HI.out]; rfl, fun j hj => ?_, q + nq, by rw [HW.out, World.drewN_drewN]⟩
            rw [HI.out] at hj
            rcases Nat.lt_or_ge j i with h | h
            · exact HP.out j h
            · obtain rfl : j = i := by omega
              rw [HXE.out, HYE.out]
        · have nc0 : ¬ y0 = x0 := fun h => hc h.symm
          go_wp2_with fail
          go_quiet (fail)
          go_wp2_with fail
          go_ret
          refine ⟨ret_bool ?_, q + nq, by rw [HW.out, World.drewN_drewN]⟩
          symm
          rw [decide_eq_false_iff_not]
          intro e
          have h1 := HXE.out
          rw [e, HYE.out] at h1
          injection h1 with h1 h2
          exact nc0 h1
        · obtain ⟨rfl, hc⟩ := hc
          have nc1 : ¬ y1 = x1 := fun h => hc h.symm
          go_wp2_with fail
          go_quiet (fail)
          go_wp2_with fail
          go_ret
          refine ⟨ret_bool ?_, q + nq, by rw [HW.out, World.drewN_drewN]⟩
          symm
          rw [decide_eq_false_iff_not]
          intro e
          have h1 := HXE.out
          rw [e, HYE.out] at h1
          injection h1 with h1 h2
          exact nc1 h2
  · have hne : ((xs.length : Int) != (ys.length : Int)) = true := by
      rw [bne_iff_ne]
      omega
    obtain ⟨n, hn⟩ : ∃ n, xs.length = n := ⟨_, rfl⟩
    obtain ⟨m, hm⟩ : ∃ m, ys.length = m := ⟨_, rfl⟩
    have hf : decide (xs = ys) = false := decide_eq_false fun e => hl (by rw [e])
    rw [hn, hm] at hne
    rw [hn, hm, hf]
    clear hl hn hm hf lA
    go_enter Tryz.func16, Tryz.ntmps16
    go_wp2_with fail
    go_ret
    exact ⟨rfl, 0, rfl⟩
/-! ### sort -/
theorem OwnF.empty_at {α : Type} {f : α → List Value} {q : Nat} (W : World) (e : TypeId) (n base : Nat) (hn : W.heap.size = n) (hb : base ≤ n) : OwnF (W.alloc (.cells #[] e)) base e q f (.slice (some ⟨n, 0, none⟩) 0 0) [] := by
  subst hn
  refine ⟨by simp, .inr ⟨_, 0, #[], rfl, hb, heap_alloc_new W _, Nat.le_refl _, by unfold maxLen; omega, by simp, by simp⟩⟩
theorem RdC.two_at (W : World) (u v : Value) (e : TypeId) (n : Nat) (hn : W.heap.size = n) : RdC (W.alloc (.cells #[u, v] e)) (some ⟨n, 0, none⟩) [u, v] := by
  subst hn
  exact RdC.block (cs := #[u, v]) (heap_alloc_new W _)
/-- What lies at the head, and behind place k. -/
theorem OwnF.head {α : Type} {f : α → List Value} {q : Nat} {w : World} {base : Nat} {e : TypeId} {g n c k : Nat} {xs : List α} (hq : ∀ x, (f x).length = q) (h : OwnF w base e q f (.slice (some ⟨g, 0, none⟩) n c) xs) (hk : k ≤ n) : RdC w (some ⟨g, 0, none⟩) ((xs.take k).flatMap f) := by
  obtain ⟨A1, c1, he, _⟩ := h.shape
  injection he with e1 e2 e3
  subst e2 e3
  rcases h.2 with ⟨h1, _⟩ | ⟨g', cap, cur, h1, hb, hg, hc, _, hs, ht⟩
  · injection h1 with h1; cases h1
  · injection h1 with h1 h2 h3
    injection h1 with h1
    injection h1 with h1
    subst h1
    refine fun j u hu => ⟨_, rfl, ?_⟩
    have hcat : (xs.take k).flatMap f ++ (xs.drop k).flatMap f = xs.flatMap f := by rw [← List.flatMap_append, List.take_append_drop]
    have hj := (List.getElem?_eq_some_iff.1 hu).1
    have h5 : (xs.flatMap f)[j]? = some u := by rw [← hcat, List.getElem?_append_left hj]; exact hu
    have hjl := (List.getElem?_eq_some_iff.1 h5).1
    rw [cellsF_length hq] at hjl
    rw [add_plain]
    rw [← ht] at h5
    rw [List.getElem?_take_of_lt hjl] at h5
    simp only [World.cell?, hg]
    simpa using h5
theorem OwnF.tail {α : Type} {f : α → List Value} {q : Nat} {w : World} {base : Nat} {e : TypeId} {g n c k : Nat} {xs : List α} (hq : ∀ x, (f x).length = q) (h : OwnF w base e q f (.slice (some ⟨g, 0, none⟩) n c) xs) (hk : k ≤ n) : RdC w (some ⟨g, k * q, none⟩) ((xs.drop k).flatMap f) := by
  obtain ⟨A1, c1, he, _⟩ := h.shape
  injection he with e1 e2 e3
  subst e2 e3
  rcases h.2 with ⟨h1, _⟩ | ⟨g', cap, cur, h1, hb, hg, hc, _, hs, ht⟩
  · injection h1 with h1; cases h1
  · injection h1 with h1 h2 h3
    injection h1 with h1
    injection h1 with h1
    subst h1
    refine fun j u hu => ⟨_, rfl, ?_⟩
    have hcat : (xs.take k).flatMap f ++ (xs.drop k).flatMap f = xs.flatMap f := by rw [← List.flatMap_append, List.take_append_drop]
    have hlt : ((xs.take k).flatMap f).length = k * q := by rw [cellsF_length hq, List.length_take, Nat.min_eq_left hk]
    have h5 : (xs.flatMap f)[k * q + j]? = some u := by rw [← hcat, List.getElem?_append_right (by omega), hlt, Nat.add_sub_cancel_left]; exact hu
    have hjl := (List.getElem?_eq_some_iff.1 h5).1
    rw [cellsF_length hq] at hjl
    rw [← ht] at h5
    rw [List.getElem?_take_of_lt hjl] at h5
    have : (⟨g, k * q, none⟩ : Addr).add j = ⟨g, k * q + j, none⟩ := by unfold Addr.add; split <;> simp_all
    rw [this]
    simp only [World.cell?, hg]
    simpa using h5
theorem OwnF.cut {α : Type} {f : α → List Value} {q : Nat} {w : World} {base : Nat} {e : TypeId} {A : Option Addr} {n c k : Nat} {xs : List α} (hq : ∀ x, (f x).length = q) (h : OwnF w base e q f (.slice A n c) xs) (hk : k ≤ n) (hc : n ≤ c) : RdC w A ((xs.take k).flatMap f) ∧ RdC w (if c = k then A else Option.map (fun x => x.add (k * q)) A) ((xs.drop k).flatMap f) := by
  rcases h.2 with ⟨h1, h2⟩ | ⟨g, cap, cur, h1, _⟩
  · have hx : xs = [] := by
      injection h1 with h1 h3 h4
      obtain ⟨A1, c1, he, _⟩ := h.shape
      injection he with e1 e2 e3
      exact List.eq_nil_of_length_eq_zero (by omega)
    subst hx
    exact ⟨fun j u hu => by simp at hu, fun j u hu => by simp at hu⟩
  · injection h1 with h1 h3 h4
    subst h1
    refine ⟨h.head hq hk, ?_⟩
    by_cases hck : c = k
    · have : xs.drop k = [] := by
        obtain ⟨A1, c1, he, _⟩ := h.shape
        injection he with e1 e2 e3
        rw [List.drop_eq_nil_iff]
        omega
      rw [this]
      exact fun j u hu => by simp at hu
    · rw [if_neg hck]
      have := h.tail hq hk
      simpa [add_plain] using this
theorem OwnF.insI {α : Type} {f : α → List Value} {q : Nat} {W : World} {base base' : Nat} {e : TypeId} {v : Value} {lt : α → α → Bool} {d x : α} {out : List α} {p i : Nat} (h : W.ownsRow base e q v (p + 1 + (i - p)) (((out.take p).flatMap f ++ f x) ++ (out.drop p).flatMap f)) (hp : posI lt d x out i = p) (hi : out.length = i) (hb : base' ≤ base) : OwnF W base' e q f v (insI lt d x out) := by
  have hpi : p ≤ i := by rw [← hp]; exact posI_le _ _ _
  have hl : (Go.Proofs.YticdmglondpgaaaGreat.insI lt d x out).length = p + 1 + (i - p) := by rw [insI_length]; omega
  refine OwnF.low (base := base) ?_ hb
  unfold OwnF
  rw [hl]
  unfold Go.Proofs.YticdmglondpgaaaGreat.insI
  rw [hi, hp]
  simpa using h
end Go.Proofs.YticdmglondpgaaaGreat
