/-
  standing: an index of items, built. Condition: right says yes; the forest is built as the contract of build says.
-/
import Derived.Test.YticdmglondpgaaaGreatQ21

namespace Go.Proofs.YticdmglondpgaaaGreat
open Go.RowKit
set_option linter.unusedVariables false
set_option maxRecDepth 100000
set_option linter.unusedSimpArgs false

attribute [local go_sem] Oper.semAt_some

theorem chkL_all {dim : Int} : ∀ {ls : List (List Int)}, chkL dim ls = 0 → ∀ x ∈ ls, checkV x dim = 0
  | [], _, x, hx => by cases hx
  | y :: ys, h, x, hx => by
    unfold chkL at h
    by_cases hy : checkV y dim = 0
    · rw [if_neg (by simp [hy])] at h
      rcases List.mem_cons.1 hx with rfl | hx
      · exact hy
      · exact chkL_all h x hx
    · rw [if_pos hy] at h
      exact absurd h hy
theorem chkV_zero {dim : Int} {ls : List (List Int)} (h : chkV dim ls = 0) : 1 ≤ dim ∧ dim ≤ 1024 ∧ ∀ x ∈ ls, checkV x dim = 0 := by
  unfold chkV at h
  by_cases hd : dim < 1 ∨ 1024 < dim
  · rw [if_pos hd] at h; cases h
  · rw [if_neg hd] at h
    exact ⟨by omega, by omega, chkL_all h⟩
theorem chkV_good {dim : Int} {ls : List (List Int)} (h1 : 1 ≤ dim) (h2 : dim ≤ 1024) (h : ∀ x ∈ ls, checkV x dim = 0) : chkV dim ls = 0 := by
  unfold chkV
  rw [if_neg (by omega)]
  exact chkL_good fun j hj => h _ (by simp [List.getD, hj])
def StandPost (w : World) (D : Nat) (rows : List (List Int)) (t l d : Int) (sc : Bool) (sd : Int) (ds : List Int) (e : Ending) (w' : World) : Prop :=
  ∃ b bI, e = .returned (.pointer (some ⟨b, 0, none⟩)) ∧ w.heap.size ≤ b ∧ IxU w' b D bI rows l d (forestT rows D l.toNat d.toNat sc sd ds t.toNat) ∧ Below w.heap.size w w'
set_option maxHeartbeats 3200000 in
set_option maxRecDepth 100000 in
theorem standing_calls (D : Nat) (LA : Option Addr) (lc : Nat) (rows : List (List Int)) (t l d : Int) (sc : Bool) (sd : Int) (DA : Option Addr) (dc : Nat) (ds : List Int) (wk : Int) (PI : Value) (w : World) (hls : Rows w .i32 LA rows) (hc : chkV D rows = 0) (ht : treeErr rows.length t l d = 0) (hn : rows.length ≤ 1000)
    (hbu : ∀ W b bI A c, Below w.heap.size w W → Ix0 W b D bI rows A c → Calls Tryz.prog 84 #[.pointer (some ⟨b, 0, none⟩), .agg #[.int .i64 t, .int .i64 l, .int .i64 d, .bool sc, .int .u64 sd, .slice DA ds.length dc], .int .i64 wk, PI] W (BuildPost W bI D rows t l d sc sd ds)) :
    Calls Tryz.prog 12 #[.int .i64 D, .slice LA rows.length lc, .agg #[.int .i64 t, .int .i64 l, .int .i64 d, .bool sc, .int .u64 sd, .slice DA ds.length dc], .int .i64 wk, PI] w (StandPost w D rows t l d sc sd ds) := by
  obtain ⟨hd1, hd2, hall⟩ := chkV_zero hc
  obtain ⟨n, hnn⟩ : ∃ n, rows.length = n := ⟨_, rfl⟩
  obtain ⟨m, hm⟩ : ∃ m, ds.length = m := ⟨_, rfl⟩
  have HLS := Lib.hid hls
  have HALL := Lib.hid hall
  have HN := Lib.hid hnn
  have HT := Lib.hid ht
  have HM := Lib.hid hm
  have HBU := Lib.hid hbu
  rw [hnn] at hn ⊢
  rw [hm]
  clear hls hc hall hnn ht hm hbu
  go_enter Tryz.func12, Tryz.ntmps12
  go_wp2_with fail
  obtain ⟨w1, AW⟩ : ∃ W, w.alloc (.cells #[.int .i64 t, .int .i64 l, .int .i64 d, .bool sc, .int .u64 sd, .slice DA m dc] 28) = W := ⟨_, rfl⟩
  have Ab : Below w.heap.size w w1 := by rw [← AW]; exact below_alloc1 (Below.refl _ _) _
  have Ax : w1.heap[w.heap.size]? = some (.cells #[.int .i64 t, .int .i64 l, .int .i64 d, .bool sc, .int .u64 sd, .slice DA m dc] 28 (0, 0)) := by rw [← AW]; exact heap_alloc_new _ _
  rw [AW]
  clear AW
  have hz1 := obj_lt Ax
  refine (INew_calls D w1 (by omega) (by omega)).mono ?_
  rintro e w2 ⟨b, bI, A0, c0, he, hix, hfr, hb2⟩
  subst he
  have hx2 := obj_below hb2 Ax hz1
  have HAX := Lib.hid Ax
  have AX := Lib.hid hx2
  have AB := Lib.hid Ab
  have HI0 := Lib.hid (show ∃ A c, Ix0 w2 b D bI (rows.take 0) A c ∧ (∀ k, Ix0B b bI (rows.take 0) A c k → w1.heap.size ≤ k) ∧ Below w1.heap.size w1 w2 from ⟨A0, c0, hix, hfr, hb2⟩)
  clear hix hfr hb2 hx2 Ax Ab
  go_wp2_with fail
  go_loopg [13] n (fun kq v13 w' => kq ≤ n ∧ v13 = .int .i64 ((n - kq : Nat)) ∧ ∃ A c, Ix0 w' b D bI (rows.take (n - kq)) A c ∧ (∀ k, Ix0B b bI (rows.take (n - kq)) A c k → w1.heap.size ≤ k) ∧ Below w1.heap.size w1 w')
  case atStart => exact ⟨Nat.le_refl _, by simp, by rw [Nat.sub_self]; exact HI0.out⟩
  case round =>
    obtain ⟨hk, rfl, A, c, hix, hfr, hbw⟩ := hrel
    clear HI0 AX
    have hx := obj_below hbw (show w1.heap[w.heap.size]? = some (.cells #[.int .i64 t, .int .i64 l, .int .i64 d, .bool sc, .int .u64 sd, .slice DA m dc] 28 (0, 0)) from HAX.out) hz1
    cases gk with
    | zero =>
      simp only [Nat.sub_zero] at hix hfr ⊢
      rw [show rows.take n = rows from by rw [← HN.out]; exact List.take_length] at hix hfr
      have B2 := Lib.hid (AB.out.trans (hbw.mono AB.out.size))
      have p0 : wr.cell? ⟨w.heap.size, 0, none⟩ = some (.int .i64 t) := by simp [World.cell?, hx]
      have p1 : wr.cell? ⟨w.heap.size, 1, none⟩ = some (.int .i64 l) := by simp [World.cell?, hx]
      have p2 : wr.cell? ⟨w.heap.size, 2, none⟩ = some (.int .i64 d) := by simp [World.cell?, hx]
      have p3 : wr.cell? ⟨w.heap.size, 3, none⟩ = some (.bool sc) := by simp [World.cell?, hx]
      have p4 : wr.cell? ⟨w.heap.size, 4, none⟩ = some (.int .u64 sd) := by simp [World.cell?, hx]
      have p5 : wr.cell? ⟨w.heap.size, 5, none⟩ = some (.slice DA m dc) := by simp [World.cell?, hx]
      have hib := IBuild_calls b D bI rows A c t l d sc sd DA dc ds wk PI wr hix (fun W hW => HBU.out W b bI A c (B2.out.trans (hW.mono B2.out.size)) (hix.only (S := fun _ => False) (Only.of_below hW) fun _ _ h => h))
      have hbb := hfr b (.inl rfl)
      rw [HT.out, HM.out] at hib
      have HIB := Lib.hid hib
      have hsz := AB.out.size
      clear hix hfr hbw hx hib
      go_wp2_with fail
      refine HIB.out.mono ?_
      rintro e w3 ⟨he, hon, hux⟩
      subst he
      have HUX := Lib.hid (hux (by first | rfl | trivial))
      have B3 := Lib.hid (B2.out.trans (hon.below B2.out.size fun k hk h => by omega))
      clear hon hux
      go_wp2_with fail
      go_ret
      exact ⟨b, bI, rfl, by omega, HUX.out, B3.out⟩
    | succ k1 =>
      obtain ⟨i, hi⟩ : ∃ i, n - (k1 + 1) = i := ⟨_, rfl⟩
      have hi2 : n - k1 = i + 1 := by omega
      have hlt : i < rows.length := by have := HN.out; omega
      have HI2 := Lib.hid hi2
      rw [hi] at hix hfr ⊢
      have B2 := Lib.hid (AB.out.trans (hbw.mono AB.out.size))
      obtain ⟨ad, B, cB, rfl, hcell, hcB, hrd⟩ := (HLS.out.below B2.out).2 i hlt
      have hts := take_snoc rows i hlt
      have hcv := HALL.out (rows.getD i []) (by simp [List.getD, hlt])
      obtain ⟨xs, hxs⟩ : ∃ xs, rows.getD i [] = xs := ⟨_, rfl⟩
      rw [hxs] at hcell hcB hrd hts hcv
      have HA := Lib.hid (IAdd_calls b D bI (rows.take i) A c B cB xs _ hix hrd hcv (by rw [List.length_take]; omega))
      have HFR := Lib.hid hfr
      have HBW := Lib.hid hbw
      have HTS := Lib.hid hts
      have hln : i < n := by have := HN.out; omega
      clear hi hi2 hxs hrd hix hfr hbw hts hcv hx
      go_wp2_with fail
      refine HA.out.mono ?_
      rintro e w3 ⟨⟨v, he⟩, A', c', hix, hon, hnew⟩
      subst he
      have hsz := HBW.out.size
      have HNEW := Lib.hid (show ∃ A c, Ix0 w3 b D bI (rows.take (i + 1)) A c ∧ (∀ k, Ix0B b bI (rows.take (i + 1)) A c k → w1.heap.size ≤ k) ∧ Below w1.heap.size w1 w3 from ⟨A', c', by rw [HTS.out]; exact hix, fun k hk => by rw [HTS.out] at hk; exact (hnew k hk).elim (fun h => HFR.out k h) (fun h => by omega), HBW.out.trans (hon.below hsz fun k hk h => by have := HFR.out k h; omega)⟩)
      clear hix hon hnew HA
      go_wp2_with fail
      go_roundg k1
      case measure => omega
      case rel =>
        rw [HI2.out]
        exact ⟨by omega, rfl, HNEW.out⟩
end Go.Proofs.YticdmglondpgaaaGreat
