/-
  The reference's row of numbers (layer 7): the contract of each method. Condition: the row reads as the word RowV says; no more than a million numbers.
-/
import Derived.Test.YtacgkoclammggaaLaw07
import Derived.Deep.RegionLaw
namespace Go.Proofs.Ytacgkoclammggaa
open Go.RowKit
set_option linter.unusedVariables false
set_option linter.unusedSimpArgs false

/-- The row at block b reads as M. -/
def RowV (w : World) (b : Nat) (A : Option Addr) (c : Nat) (M : List Int) : Prop := w.heap[b]? = some (.cells #[.slice A M.length c] 30 (0, 0)) ∧ Rd w .i64 A M ∧ M.length ≤ c
/-- What a call that turns the row leaves: its numbers lie in new memory. -/
def RowTo (w w' : World) (b : Nat) (M : List Int) : Prop := ∃ A c, RowV w' b A c M ∧ (∀ k, (Value.slice A M.length c).ownBlock = some k → w.heap.size ≤ k) ∧ Only (fun k => k = b) w w'
set_option maxHeartbeats 1600000 in
theorem rPush_calls (b : Nat) (A : Option Addr) (c : Nat) (M : List Int) (x : Int) (w : World) (h : RowV w b A c M) (hl : M.length ≤ 1000000) :
    Calls Try.prog 21 #[.pointer (some ⟨b, 0, none⟩), .int .i64 x] w fun e w' => e = .returned (.tuple #[]) ∧ RowTo w w' b (M ++ [x]) := by
  obtain ⟨h1, h2, h3⟩ := h
  have hb := obj_lt h1
  have hc0 : w.cell? ⟨b, 0, none⟩ = some (.slice A M.length c) := by simp [World.cell?, h1]
  have hc1 : (w.alloc (.cells #[] 3)).cell? ⟨b, 0, none⟩ = some (.slice A M.length c) := cell_below ((Below.refl w.heap.size w).alloc (Nat.le_refl _) _) hc0 hb
  have H1 := Lib.hid h1
  have H2 := Lib.hid h2
  clear h1 h2
  go_enter Try.func21, Try.ntmps21
  go_wp2_with (first
    | (at_builtin; refine wpList_appI _ rfl (.tmp 5) (.tmp 9) 22 3 rfl .i64 8 Try.underlying22 info_i64 (by omega) w.heap.size _ [] rfl A c M rfl (Own.empty w _ _) w ((Below.refl _ _).alloc (Nat.le_refl _) _) (by simp) (H2.out.alloc _) (by simp; omega) ?_; intro v1 w2 ho hgrow hbn hat hnil; clear hat hnil hgrow; rw [List.nil_append] at ho; obtain ⟨A1, c1, hv, hcv, _⟩ := ho.shape; subst hv; have O1 := Lib.hid ho; have HB1 := Lib.hid hbn; clear ho hcv hbn)
    | (at_builtin; refine wpList_appI _ rfl (.tmp 10) (.tmp 12) 22 3 rfl .i64 8 Try.underlying22 info_i64 (by omega) w.heap.size (.slice A1 M.length c1) M rfl (some ⟨w2.heap.size, 0, none⟩) 1 [x] rfl (O1.out.alloc1 _) w (below_alloc1 HB1.out _) (by have := HB1.out.size; rw [World.size_alloc]; omega) (Rd.new w2 .i64 [x] 3 (by simp)) (by simp; omega) ?_; intro v2 w3 ho hgrow hbn hat hnil; clear hat hnil hgrow; obtain ⟨A2, c2, hv, hcv, _⟩ := ho.shape; rw [show (M ++ [x]).length = M.length + 1 by simp] at hv hcv; subst hv; have O2 := Lib.hid ho; have HB2 := Lib.hid hbn; have hob := obj_below hbn H1.out hb; have hcb : w3.cell? ⟨b, 0, none⟩ = some (.slice A M.length c) := (by simp [World.cell?, hob]); have hfb : w3.frozen? ⟨b, 0, none⟩ = false := (by simp [World.frozen?, hob]); have HOB := Lib.hid hob; clear ho hbn hob))
  go_end0
  have hl1 : (M ++ [x]).length = M.length + 1 := by simp
  have hne : ∀ k, (Value.slice A2 (M.length + 1) c2).ownBlock = some k → w.heap.size ≤ k := fun k hk => by
    have h := O2.out
    unfold Own at h
    rw [hl1] at h
    exact own_base h k hk
  refine ⟨rfl, A2, c2, ⟨by rw [hl1]; exact set_blk (cs := [_]) HOB.out 0 _, ?_, by rw [hl1]; exact hcv⟩, by rw [hl1]; exact hne, (Only.of_below HB2.out).trans (only_set _ _ _ _)⟩
  exact (O2.out.only (only_set _ _ _ _) fun k hk e => by have := hne k hk; omega).rd.2
/-- the least of M stands at k. -/
def LeastAt (M : List Int) (k : Nat) : Prop := k < M.length ∧ ∀ j, j < M.length → M.getD k 0 ≤ M.getD j 0
theorem LeastAt.min {M : List Int} {k : Nat} (h : LeastAt M k) : IsMin (M.getD k 0) M :=
  ⟨by simp [List.getD, h.1], fun a ha => by
    obtain ⟨j, hj, rfl⟩ := List.getElem_of_mem ha
    have := h.2 j hj
    simpa [List.getD, hj] using this⟩
set_option maxHeartbeats 1600000 in
set_option maxRecDepth 1000000 in
theorem least_calls (b : Nat) (A : Option Addr) (c : Nat) (M : List Int) (w : World) (h : RowV w b A c M) (hl : M.length ≤ 1000000) :
    Calls Try.prog 69 #[.pointer (some ⟨b, 0, none⟩)] w fun e w' => ((M = [] ∧ e = .returned (.int .i64 (-1))) ∨ ∃ k, LeastAt M k ∧ e = .returned (.int .i64 (k : Nat))) ∧ ∃ n, w' = w.drewN n := by
  obtain ⟨h1, h2, h3⟩ := h
  have hc0 : w.cell? ⟨b, 0, none⟩ = some (.slice A M.length c) := by simp [World.cell?, h1]
  have H2 := Lib.hid h2
  clear h1 h2
  go_enter Try.func69, Try.ntmps69
  go_wp2_with fail
  go_loopg [3, 4] M.length (fun kq v3 v4 w' => kq ≤ M.length ∧ v4 = .int .i64 ((M.length - kq : Nat) : Int) ∧ ((kq = M.length ∧ v3 = .int .i64 (-1)) ∨ (kq < M.length ∧ ∃ k, k < M.length - kq ∧ v3 = .int .i64 ((k : Nat) : Int) ∧ ∀ j, j < M.length - kq → M.getD k 0 ≤ M.getD j 0)) ∧ ∃ q, w' = w.drewN q)
  case atStart => exact ⟨Nat.le_refl _, by simp, .inl ⟨rfl, rfl⟩, 0, rfl⟩
  case round =>
    obtain ⟨hk, rfl, hbest, q, hwq⟩ := hrel
    obtain ⟨wz, hwz⟩ : ∃ W, wr = W := ⟨_, rfl⟩
    have hcz : wr.cell? ⟨b, 0, none⟩ = some (.slice A M.length c) := by rw [hwq]; exact hc0
    have HWQ := Lib.hid hwq
    clear hwz hwq
    cases gk with
    | zero =>
      simp only [Nat.sub_zero] at hbest ⊢
      rcases hbest with ⟨hM, rfl⟩ | ⟨hM, k, hkM, rfl, hmin⟩
      · obtain rfl : M = [] := List.eq_nil_of_length_eq_zero hM.symm
        clear hM hk
        go_wp2_with fail
        go_ret
        exact ⟨.inl rfl, q, HWQ.out⟩
      · have HMIN := Lib.hid hmin
        clear hmin
        go_wp2_with fail
        go_ret
        exact ⟨.inr ⟨k, ⟨hkM, HMIN.out⟩, rfl⟩, q, HWQ.out⟩
    | succ k1 =>
      obtain ⟨i, hi⟩ : ∃ i, M.length - (k1 + 1) = i := ⟨_, rfl⟩
      have hi2 : M.length - k1 = i + 1 := by omega
      have hlt : i < M.length := by omega
      rw [hi] at hbest ⊢
      have HI := Lib.hid hi2
      obtain ⟨ad, rfl, hca⟩ := H2.out.2 i hlt
      obtain ⟨x, hx⟩ : ∃ x, M.getD i 0 = x := ⟨_, rfl⟩
      rw [hx] at hca
      have hcai : wr.cell? (ad.add i) = some (.int .i64 x) := by rw [HWQ.out]; exact hca
      have bi : (i : Int) < (M.length : Int) := by omega
      have HX := Lib.hid hx
      clear hi2 hx hca
      rcases hbest with ⟨hM, rfl⟩ | ⟨hM, k, hkM, rfl, hmin⟩
      · obtain rfl : i = 0 := by omega
        clear hi
        go_wp2_with fail
        go_quiet (fail)
        go_wp2_with fail
        go_roundg k1
        case measure => omega
        case rel =>
          refine ⟨by omega, by rw [HI.out]; rfl, .inr ⟨by omega, 0, by rw [HI.out]; omega, rfl, fun j hj => ?_⟩, q + nq, by rw [HWQ.out, World.drewN_drewN]⟩
          rw [HI.out] at hj
          obtain rfl : j = 0 := by omega
          exact Int.le_refl _
      · obtain ⟨ad', he', hck⟩ := H2.out.2 k (by omega)
        injection he' with he'
        subst he'
        obtain ⟨y, hy⟩ : ∃ y, M.getD k 0 = y := ⟨_, rfl⟩
        rw [hy] at hck
        have hcki : wr.cell? (ad.add k) = some (.int .i64 y) := by rw [HWQ.out]; exact hck
        have bk : (k : Int) < (M.length : Int) := by omega
        have hneg : decide ((k : Int) < 0) = false := decide_eq_false (by omega)
        have HMIN := Lib.hid hmin
        have HY := Lib.hid hy
        clear hi hmin hy hck
        by_cases hxy : x < y
        · have hxy' : decide (x < y) = true := decide_eq_true hxy
          go_wp2_with fail
          go_quiet (fail)
          go_wp2_with fail
          go_roundg k1
          case measure => omega
          case rel =>
            refine ⟨by omega, by rw [HI.out]; rfl, .inr ⟨by omega, i, by rw [HI.out]; omega, rfl, fun j hj => ?_⟩, q + nq, by rw [HWQ.out, World.drewN_drewN]⟩
            rw [HI.out] at hj
            rw [HX.out]
            by_cases hji : j = i
            · rw [hji, HX.out]; exact Int.le_refl _
            · have := HMIN.out j (by omega)
              rw [HY.out] at this
              omega
        · have hxy' : decide (x < y) = false := decide_eq_false hxy
          go_wp2_with fail
          go_quiet (fail)
          go_wp2_with fail
          go_roundg k1
          case measure => omega
          case rel =>
            refine ⟨by omega, by rw [HI.out]; rfl, .inr ⟨by omega, k, by rw [HI.out]; omega, rfl, fun j hj => ?_⟩, q + nq, by rw [HWQ.out, World.drewN_drewN]⟩
            rw [HI.out] at hj
            by_cases hji : j = i
            · rw [hji, HX.out, HY.out]; omega
            · exact HMIN.out j (by omega)
theorem rPeek_none (b : Nat) (A : Option Addr) (c : Nat) (w : World) (h : RowV w b A c []) :
    Calls Try.prog 25 #[.pointer (some ⟨b, 0, none⟩)] w fun e w' => e = .returned (.tuple #[.int .i64 0, .bool false]) ∧ ∃ n, w' = w.drewN n := by
  have HH := Lib.hid h
  clear h
  go_enter Try.func25, Try.ntmps25
  go_wp2_with fail
  refine (least_calls b A c [] _ HH.out (by simp)).mono ?_
  rintro e _ ⟨he, n, rfl⟩
  rcases he with ⟨_, he⟩ | ⟨k, hk, _⟩
  · subst he
    go_wp2_with fail
    go_ret2
    exact ⟨rfl, n, rfl⟩
  · exact absurd hk.1 (by simp)
theorem rPeek_some (b : Nat) (A : Option Addr) (c : Nat) (M : List Int) (y : Int) (w : World) (h : RowV w b A c M) (hl : M.length ≤ 1000000) (hy : IsMin y M) :
    Calls Try.prog 25 #[.pointer (some ⟨b, 0, none⟩)] w fun e w' => e = .returned (.tuple #[.int .i64 y, .bool true]) ∧ ∃ n, w' = w.drewN n := by
  have HH := Lib.hid h
  clear h
  go_enter Try.func25, Try.ntmps25
  go_wp2_with fail
  refine (least_calls b A c M _ HH.out hl).mono ?_
  rintro e _ ⟨he, n, rfl⟩
  rcases he with ⟨hM, he⟩ | ⟨k, hk, he⟩
  · subst hM
    exact absurd hy.1 (by simp)
  · subst he
    obtain ⟨h1, h2, h3⟩ := HH.out
    have hc0 : (w.drewN n).cell? ⟨b, 0, none⟩ = some (.slice A M.length c) := by simp [World.cell?, h1]
    obtain ⟨ad, rfl, hca⟩ := h2.2 k hk.1
    have hky : M.getD k 0 = y := hk.min.uniq hy
    rw [hky] at hca
    have hcn : (w.drewN n).cell? (ad.add k) = some (.int .i64 y) := hca
    have bk : (k : Int) < (M.length : Int) := by have := hk.1; omega
    have bk0 : decide ((k : Int) < 0) = false := decide_eq_false (by omega)
    clear h1 h2 h3 hca hky hk hy
    go_wp2_with fail
    go_ret2
    exact ⟨rfl, n, rfl⟩
theorem rPop_none (b : Nat) (A : Option Addr) (c : Nat) (w : World) (h : RowV w b A c []) :
    Calls Try.prog 23 #[.pointer (some ⟨b, 0, none⟩)] w fun e w' => e = .returned (.tuple #[.int .i64 0, .bool false]) ∧ ∃ n, w' = w.drewN n := by
  have HH := Lib.hid h
  clear h
  go_enter Try.func23, Try.ntmps23
  go_wp2_with fail
  refine (least_calls b A c [] _ HH.out (by simp)).mono ?_
  rintro e _ ⟨he, n, rfl⟩
  rcases he with ⟨_, he⟩ | ⟨k, hk, _⟩
  · subst he
    go_wp2_with fail
    go_ret2
    exact ⟨rfl, n, rfl⟩
  · exact absurd hk.1 (by simp)
theorem Rd.cut {w : World} {k : IntKind} {A : Option Addr} {l : List Int} {c m : Nat} (h : Rd w k A l) (hc : l.length ≤ c) (hm : m ≤ l.length) : Rd w k (if c = m then A else Option.map (fun x => x.add m) A) (l.drop m) := by
  by_cases he : c = m
  · have : l.drop m = [] := List.drop_eq_nil_of_le (by omega)
    rw [this]
    exact Rd.nil _ _ _
  · rw [if_neg he]
    refine ⟨by have := h.1; simp; omega, fun j hj => ?_⟩
    rw [List.length_drop] at hj
    obtain ⟨ad, rfl, hcell⟩ := h.2 (m + j) (by omega)
    refine ⟨ad.add m, rfl, ?_⟩
    rw [Addr.add_add, hcell]
    simp [List.getD]
theorem Rd.front {w : World} {k : IntKind} {A : Option Addr} {l : List Int} (m : Nat) (h : Rd w k A l) : Rd w k A (l.take m) :=
  ⟨by have := h.1; simp; omega, fun j hj => by
    rw [List.length_take] at hj
    obtain ⟨ad, rfl, hcell⟩ := h.2 j (by omega)
    refine ⟨ad, rfl, ?_⟩
    rw [hcell]
    simp [List.getD, List.getElem?_take_of_lt (show j < m by omega)]⟩
theorem cut_perm {M : List Int} {k : Nat} (hk : k < M.length) : (M.take k ++ M.drop (k + 1)).Perm (M.erase (M.getD k 0)) := by
  have e : M = M.take k ++ M.getD k 0 :: M.drop (k + 1) := by
    have h := (List.take_append_drop k M).symm
    rw [List.drop_eq_getElem_cons hk] at h
    rw [show M.getD k 0 = M[k] by simp [List.getD, hk]]
    exact h
  exact perm_erase ((List.perm_middle.symm).trans (e ▸ List.Perm.refl M))
set_option maxHeartbeats 3200000 in
set_option maxRecDepth 1000000 in
theorem rPop_some (b : Nat) (A : Option Addr) (c : Nat) (M : List Int) (y : Int) (w : World) (h : RowV w b A c M) (hl : M.length ≤ 1000000) (hy : IsMin y M) :
    Calls Try.prog 23 #[.pointer (some ⟨b, 0, none⟩)] w fun e w' => e = .returned (.tuple #[.int .i64 y, .bool true]) ∧ ∃ M', RowTo w w' b M' ∧ M'.Perm (M.erase y) := by
  have HH := Lib.hid h
  clear h
  go_enter Try.func23, Try.ntmps23
  go_wp2_with fail
  refine (least_calls b A c M _ HH.out hl).mono ?_
  rintro e _ ⟨he, n, rfl⟩
  rcases he with ⟨hM, he⟩ | ⟨k, hk, he⟩
  · subst hM
    exact absurd hy.1 (by simp)
  · subst he
    obtain ⟨h1, h2, h3⟩ := HH.out
    obtain ⟨w1, hw1⟩ : ∃ W, w.drewN n = W := ⟨_, rfl⟩
    have h11 : w1.heap[b]? = some (.cells #[.slice A M.length c] 30 (0, 0)) := by rw [← hw1]; exact h1
    have h21 : Rd w1 .i64 A M := by rw [← hw1]; exact h2.drewN n
    rw [hw1]
    obtain ⟨ad, rfl, hca⟩ := h21.2 k hk.1
    have hky : M.getD k 0 = y := hk.min.uniq hy
    have hpm := cut_perm hk.1
    rw [hky] at hca hpm
    have hc0 : w1.cell? ⟨b, 0, none⟩ = some (.slice (some ad) M.length c) := by simp [World.cell?, h11]
    have hf0 : w1.frozen? ⟨b, 0, none⟩ = false := by simp [World.frozen?, h11]
    have hbw : b < w1.heap.size := obj_lt h11
    have hkM := hk.1
    have bk : (k : Int) < (M.length : Int) := by omega
    have bk1 : (k : Int) ≤ (M.length : Int) := by omega
    have bk2 : (k : Int) ≤ (c : Int) := by omega
    have bk3 : (k : Int) + 1 ≤ (M.length : Int) := by omega
    have bk4 : (0 : Int) ≤ (k : Int) + 1 := by omega
    have bk5 : ((k : Int) + 1).toNat = k + 1 := by omega
    have bk0 : decide ((k : Int) < 0) = false := decide_eq_false (by omega)
    have hwr : IntKind.i64.wrap ((k : Int) + 1) = (k : Int) + 1 := by rw [i64_w]; exact wrap64_id _ (by omega)
    have hX : (if c = k + 1 then some ad else Option.map (fun x => x.add (k + 1)) (some ad)) = (if c = k + 1 then some ad else some ⟨ad.block, ad.off + (k + 1), none⟩) := by simp [Addr.add]
    have hrd := Rd.cut (m := k + 1) h21 h3 (by omega)
    rw [hX] at hrd
    clear hX
    have RT := Lib.hid (h21.front k)
    have RD := Lib.hid hrd
    have H1 := Lib.hid h11
    have HW1 := Lib.hid hw1
    have HPM := Lib.hid hpm
    have hcap : M.length ≤ c := h3
    have hlt : (M.take k).length = k := by simp; omega
    have hld : (M.drop (k + 1)).length = M.length - (k + 1) := by simp
    have HLT := Lib.hid hlt
    have HLD := Lib.hid hld
    have hcA : (w1.alloc (.cells #[] 3)).cell? ⟨b, 0, none⟩ = some (.slice (some ad) M.length c) := cell_below ((Below.refl w1.heap.size w1).alloc (Nat.le_refl _) _) hc0 hbw
    have hbs : Below w1.heap.size w1 w1 := Below.refl _ _
    clear h1 h2 h3 h11 h21 hrd hw1 hpm hky hk hy hlt hld HH
    go_wp2_with fail
    go_region_law
      (first
        | (refine step_app _ (by rfl) (.tmp 18) (.tmp 24) 22 3 (by rfl) (.int .i64 0) 1 8 Try.underlying22 info_i64 rfl (by omega) (by omega) w1.heap.size (.slice (some ⟨w1.heap.size, 0, none⟩) 0 0) 0 (nums .i64 []) (by rfl) (some ad) k c (by rfl) (by repeat (first | exact Own.empty w1 _ _ | apply own_drew1 | apply own_alloc1)) w1 (by repeat (first | assumption | exact Below.refl _ _ | apply below_drew1 | apply below_alloc1)) (by simp) (nums .i64 (M.take k)) (by rw [nums_length, HLT.out]; omega) ((RT.out.below (by repeat (first | assumption | exact Below.refl _ _ | apply below_drew1 | apply below_alloc1))).c) (nums_one _ _) (by omega) ?_; intro v1 w3 hown hgrow hbel hat hnil; obtain ⟨A1, c1, rfl, hc1⟩ := own_shape hown; simp only [Nat.zero_add] at hown hc1; have hzb := hbel.size; have hc03 := cell_below hbel hc0 hbw)
        | (refine step_app _ (by rfl) (.tmp 25) (.tmp 32) 22 3 (by rfl) (.int .i64 0) 1 8 Try.underlying22 info_i64 rfl (by omega) (by omega) w1.heap.size (.slice A1 k c1) k (nums .i64 [] ++ nums .i64 (M.take k)) (by rfl) (if c = k + 1 then some ad else some ⟨ad.block, ad.off + (k + 1), none⟩) (M.length - (k + 1)) (c - (k + 1)) (by rfl) (by repeat (first | exact hown | apply own_drew1 | apply own_alloc1)) w1 (by repeat (first | assumption | exact Below.refl _ _ | apply below_drew1 | apply below_alloc1)) (by first | exact hzb | (simp; exact hzb) | (simp; omega)) (nums .i64 (M.drop (k + 1))) (by rw [nums_length, HLD.out]; omega) ((RD.out.below (by repeat (first | assumption | exact Below.refl _ _ | apply below_drew1 | apply below_alloc1))).c) (nums_one _ _) (by omega) ?_; intro v2 w4 hown2 hgrow2 hbel2 hat2 hnil2; obtain ⟨A2, c2, rfl, hc2⟩ := own_shape hown2; have hc04 := cell_below hbel2 hc0 hbw; have hf04 := (Below.frozen (p := ⟨b, 0, none⟩) hbel2 hbw).trans hf0))
    all_goals
      have hll : (M.take k ++ M.drop (k + 1)).length = k + (M.length - (k + 1)) := by rw [List.length_append, HLT.out, HLD.out]
      have ho : Own w4 w1.heap.size 3 .i64 (.slice A2 (k + (M.length - (k + 1))) c2) (M.take k ++ M.drop (k + 1)) := by
        unfold Own
        rw [hll, nums_append]
        simpa [nums] using hown2
      have HO := Lib.hid ho
      have HL := Lib.hid hll
      have HOB := Lib.hid (obj_below hbel2 H1.out hbw)
      have HB2 := Lib.hid hbel2
      have hc2' : k + (M.length - (k + 1)) ≤ c2 := by simpa using hc2
      clear hown hgrow hbel hat hnil hown2 hgrow2 hbel2 hat2 hnil2 ho hll hc04 hf04 hc03 hc2 hc1
      go_wp2_with fail
      all_goals
        go_ret2
        have hz1 : w.heap.size = w1.heap.size := by rw [← HW1.out]; rfl
        have hne : ∀ q, (Value.slice A2 (k + (M.length - (k + 1))) c2).ownBlock = some q → w1.heap.size ≤ q := fun q hq => (HO.out.lt q hq).1
        refine ⟨rfl, M.take k ++ M.drop (k + 1), ⟨A2, c2, ⟨?_, ?_, ?_⟩, ?_, ?_⟩, HPM.out⟩
        · rw [HL.out]
          exact set_blk (cs := [_]) HOB.out 0 _
        · exact (HO.out.only (only_set _ _ _ _) fun q hq e => by have := hne q hq; omega).rd.2
        · rw [HL.out]
          exact hc2'
        · rw [HL.out, hz1]
          exact hne
        · refine Only.trans ?_ (only_set _ _ _ _)
          refine Only.trans ?_ (Only.of_below HB2.out)
          rw [← HW1.out]
          exact Only.of_below (below_drewN_self _ _)
end Go.Proofs.Ytacgkoclammggaa
