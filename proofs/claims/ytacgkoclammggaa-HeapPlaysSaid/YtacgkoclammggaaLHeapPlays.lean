/-
  The statement HeapPlays: the walk. Conditions: the numbers lie in their kinds' ranges.
-/
import Derived.Test.YtacgkoclammggaaRow7
import Derived.Test.YtacgkoclammggaaPairs
namespace Go.Proofs.Ytacgkoclammggaa
open Go.RowKit
set_option linter.unusedVariables false
set_option linter.unusedSimpArgs false

/-- Both hold the same numbers, in blocks of their own. -/
structure PL (w : World) (bH bR : Nat) (v : Value) (L : List Int) (AR : Option Addr) (cR : Nat) (M : List Int) (W : World) : Prop where
  bel : Below w.heap.size w W
  hp : Hp W bH bH v L
  ok : HeapOk ltI L
  perm : L.Perm M
  row : RowV W bR AR cR M
  sep : ¬ HpB v bH bR
  sepA : ∀ ad, AR = some ad → 0 < M.length → ¬ HpB v bH ad.block ∧ ad.block ≠ bR
  gH : w.heap.size ≤ bH
  gR : w.heap.size ≤ bR
theorem RowV.only {W W' : World} {S : Nat → Prop} {b c : Nat} {A : Option Addr} {M : List Int} (h : RowV W b A c M) (ho : Only S W W') (hb : ¬ S b) (ha : ∀ ad, A = some ad → 0 < M.length → ¬ S ad.block) : RowV W' b A c M :=
  ⟨ho.obj h.1 hb, ⟨h.2.1.1, fun j hj => by
    obtain ⟨ad, e, hc⟩ := h.2.1.2 j hj
    exact ⟨ad, e, ho.cell hc (by rw [show (ad.add j).block = ad.block by unfold Addr.add; split <;> rfl]; exact ha ad e (by omega))⟩⟩, h.2.2⟩
theorem RowV.blk {W : World} {b c : Nat} {A : Option Addr} {M : List Int} (h : RowV W b A c M) (ad : Addr) (ha : A = some ad) (hp : 0 < M.length) : ad.block < W.heap.size := by
  obtain ⟨ad', e, hc⟩ := h.2.1.2 0 hp
  rw [ha] at e
  injection e with e
  subst e
  have := World.block_lt_of_cell? _ _ hc
  rwa [show (ad.add 0).block = ad.block by unfold Addr.add; split <;> rfl] at this
theorem PL.drewN {w W : World} {bH bR cR : Nat} {v : Value} {L M : List Int} {AR : Option Addr} (h : PL w bH bR v L AR cR M W) (n : Nat) : PL w bH bR v L AR cR M (W.drewN n) :=
  ⟨below_drewN h.bel n, h.hp.drewN n, h.ok, h.perm, h.row.only (S := fun _ => False) (Only.of_below (below_drewN_self W n)) (fun h => h) fun _ _ _ h => h, h.sep, h.sepA, h.gH, h.gR⟩
/-- the heap has turned. -/
theorem PL.heap {w W W' : World} {bH bR cR : Nat} {v v' : Value} {L L' M : List Int} {AR : Option Addr} (h : PL w bH bR v L AR cR M W) (t : HpTo W W' bH bH v v' L') :
    Below w.heap.size w W' ∧ Hp W' bH bH v' L' ∧ HeapOk ltI L' ∧ RowV W' bR AR cR M ∧ ¬ HpB v' bH bR ∧ ∀ ad, AR = some ad → 0 < M.length → ¬ HpB v' bH ad.block ∧ ad.block ≠ bR := by
  have hrl := obj_lt h.row.1
  have hnew : ∀ k, HpB v' bH k → HpB v bH k ∨ W.heap.size ≤ k := fun k hk => by
    rcases hk with hk | hk
    · exact .inl (.inl hk)
    · exact (t.2.2.2 k hk).imp .inr id
  refine ⟨h.bel.trans (t.2.2.1.below h.bel.size fun k hk hB => ?_), t.1, t.2.1, h.row.only t.2.2.1 h.sep fun ad e hp => (h.sepA ad e hp).1, fun hk => ?_, fun ad e hp => ⟨fun hk => ?_, (h.sepA ad e hp).2⟩⟩
  · have := h.gH
    rcases hB with hB | hB
    · omega
    · have := (h.hp.2.1.lt k hB).1; omega
  · rcases hnew _ hk with h1 | h1
    · exact h.sep h1
    · omega
  · rcases hnew _ hk with h1 | h1
    · exact (h.sepA ad e hp).1 h1
    · have := h.row.blk ad e hp
      omega
/-- the row has turned, too. -/
theorem PL.both {w W W' : World} {bH bR cR : Nat} {v : Value} {L M M' : List Int} {AR : Option Addr} (hb : Below w.heap.size w W) (hp : Hp W bH bH v L) (ok : HeapOk ltI L) (hs : ¬ HpB v bH bR) (gH : w.heap.size ≤ bH) (gR : w.heap.size ≤ bR) (hr : RowV W bR AR cR M) (t : RowTo W W' bR M') (hpm : L.Perm M') :
    ∃ A' c', PL w bH bR v L A' c' M' W' := by
  obtain ⟨A', c', h1, h2, h3⟩ := t
  refine ⟨A', c', hb.trans (h3.below hb.size fun k hk h => by omega), hp.only h3 (fun h => hs (.inl h.symm)) (fun k hk h => hs (.inr (h ▸ hk))), ok, hpm, h1, hs, fun ad e hl => ?_, gH, gR⟩
  have hz := obj_lt hr.1
  subst e
  have hob : W.heap.size ≤ ad.block := h2 ad.block rfl
  refine ⟨fun hk => ?_, by omega⟩
  rcases hk with hk | hk
  · have := hp.lt; omega
  · have := (hp.2.1.lt _ hk).2; omega
set_option maxHeartbeats 6400000 in
set_option maxRecDepth 100000 in
theorem HeapPlays_law (A : Option Addr) (c : Nat) (l : List Int) (B : Option Addr) (d : Nat) (qs : List (Int × Int)) (w : World) (hcl : l.length ≤ c) (ha : Rd w .i64 A l) (hu : ∀ n ∈ l, (Lit.int .i64 n).wf = true) (na : A = none → l = [] ∧ c = 0) (la : l.length * 8 ≤ 140737488351232) (hdl : qs.length ≤ d) (hb : RdP w .i64 .i64 B qs) (ub : ∀ x ∈ qs, (Lit.int .i64 x.1).wf = true ∧ (Lit.int .i64 x.2).wf = true) :
    Calls Try.prog 3 #[.slice A l.length c, .slice B qs.length d] w fun e w' => e = .returned (.bool true) ∧ Below w.heap.size w w' := by
  have KA := Lib.hid ha
  have KB := Lib.hid hb
  clear ha hu na hb ub hdl
  by_cases h0 : 100 < l.length
  · have h0' : decide (100 < (l.length : Int)) = true := by simp; omega
    go_enter Try.func3, Try.ntmps3
    go_wp2_with fail
    refine (awake7_calls _).mono ?_
    rintro e w1 ⟨he, hb⟩
    subst he
    go_wp2_with fail
    go_ret
    exact ⟨rfl, hb⟩
  have h0' : decide (100 < (l.length : Int)) = false := by simp; omega
  replace h0 : l.length ≤ 100 := by omega
  by_cases h1 : 200 < qs.length
  · have h1' : decide (200 < (qs.length : Int)) = true := by simp; omega
    go_enter Try.func3, Try.ntmps3
    go_wp2_with fail
    refine (awake7_calls _).mono ?_
    rintro e w1 ⟨he, hb⟩
    subst he
    go_wp2_with fail
    go_ret
    exact ⟨rfl, hb⟩
  have h1' : decide (200 < (qs.length : Int)) = false := by simp; omega
  replace h1 : qs.length ≤ 200 := by omega
  go_enter Try.func3, Try.ntmps3
  go_wp2_with fail
  refine (awake7_calls _).mono ?_
  rintro e w1 ⟨he, hb1⟩
  subst he
  go_wp2_with fail
  refine (New_calls A c l _ (KA.out.below hb1) (by omega)).mono ?_
  rintro e w2 ⟨bH, v, L, he, hlo, hH, hok, hpm, hbn⟩
  subst he
  have hb2 : Below w.heap.size w w2 := hb1.trans (hbn.mono hb1.size)
  have hz1 := hb1.size
  have hz2 := hb2.size
  have HH := Lib.hid hH
  have HOK := Lib.hid hok
  have HPM := Lib.hid hpm
  clear hH hok hpm hbn
  go_wp2_with fail
  obtain ⟨w3, hw3⟩ : ∃ W, w2.alloc (.cells #[.slice A l.length c] 30) = W := ⟨_, rfl⟩
  rw [hw3]
  have hbn3 : Below w2.heap.size w2 w3 := by rw [← hw3]; exact below_alloc1 (Below.refl _ _) _
  have hR3 : w3.heap[w2.heap.size]? = some (.cells #[.slice A l.length c] 30 (0, 0)) := by rw [← hw3]; exact heap_alloc_new _ _
  have hb3 := hb2.trans (hbn3.mono hz2)
  have hPL : PL w bH w2.heap.size v L A c l w3 := by
    refine ⟨hb3, HH.out.only (S := fun _ => False) (Only.of_below hbn3) (fun h => h) (fun _ _ h => h), HOK.out, HPM.out, ⟨hR3, KA.out.below hb3, hcl⟩, fun h => ?_, fun ad e hp => ⟨fun h => ?_, ?_⟩, by omega, hz2⟩
    · rcases h with h | h
      · have := HH.out.lt; omega
      · have := (HH.out.2.1.lt _ h).2; omega
    · obtain ⟨ad', e', hc⟩ := KA.out.2 0 hp
      rw [e] at e'
      injection e' with e'
      subst e'
      have h5 := World.block_lt_of_cell? _ _ hc
      rw [show (ad.add 0).block = ad.block by unfold Addr.add; split <;> rfl] at h5
      rcases h with h | h
      · omega
      · have := (HH.out.2.1.lt _ h).1; omega
    · obtain ⟨ad', e', hc⟩ := KA.out.2 0 hp
      rw [e] at e'
      injection e' with e'
      subst e'
      have h5 := World.block_lt_of_cell? _ _ hc
      rw [show (ad.add 0).block = ad.block by unfold Addr.add; split <;> rfl] at h5
      omega
  have HPL := Lib.hid hPL
  obtain ⟨bR, hbR⟩ : ∃ b, w2.heap.size = b := ⟨_, rfl⟩
  rw [hbR] at HPL ⊢
  clear hw3 hbn3 hR3 hb3 hPL HH HOK HPM hbR hb2 hz2 hlo
  go_loopg [7] qs.length (fun kq v7 w' => kq ≤ qs.length ∧ v7 = .int .i64 ((qs.length - kq : Nat) : Int) ∧ ∃ v L AR cR M, PL w bH bR v L AR cR M w' ∧ M.length ≤ 100 + (qs.length - kq))
  case atStart => exact ⟨Nat.le_refl _, by simp, v, L, A, c, l, HPL.out, by omega⟩
  case round =>
    clear HPL hb1 hz1
    obtain ⟨hk, rfl, v, L, AR, cR, M, hP, hMl⟩ := hrel
    have HP := Lib.hid hP
    clear hP
    cases gk with
    | zero =>
      simp only [Nat.sub_zero]
      go_wp2_with fail
      go_ret
      exact ⟨rfl, HP.out.bel⟩
    | succ k1 =>
      obtain ⟨i, hi⟩ : ∃ i, qs.length - (k1 + 1) = i := ⟨_, rfl⟩
      have hi2 : qs.length - k1 = i + 1 := by omega
      have hlt : i < qs.length := by omega
      rw [hi] at hMl ⊢
      have HI := Lib.hid hi2
      clear hi hi2
      obtain ⟨ad, rfl, hcK, hcX⟩ := KB.out.2 i hlt
      obtain ⟨⟨K, X⟩, hKX⟩ : ∃ x, qs.getD i (0, 0) = x := ⟨_, rfl⟩
      rw [hKX] at hcK hcX
      change w.cell? (ad.add (i * 2)) = some (.int .i64 K) at hcK
      rw [← Addr.add_add] at hcX
      change w.cell? ⟨(ad.add (i * 2)).block, (ad.add (i * 2)).off + 1, none⟩ = some (.int .i64 X) at hcX
      have hbK := World.block_lt_of_cell? _ _ hcK
      have hbX := World.block_lt_of_cell? _ _ hcX
      have hcK' : wr.cell? (ad.add (i * 2)) = some (.int .i64 K) := cell_below HP.out.bel hcK hbK
      have hcX' : wr.cell? ⟨(ad.add (i * 2)).block, (ad.add (i * 2)).off + 1, none⟩ = some (.int .i64 X) := cell_below HP.out.bel hcX hbX
      have HCK := Lib.hid hcK
      have HCX := Lib.hid hcX
      have bi : (i : Int) < (qs.length : Int) := by omega
      have hLl : L.length ≤ 1000000 := by rw [HP.out.perm.length_eq]; omega
      have hMl6 : M.length ≤ 1000000 := by omega
      clear hKX hcK hcX
      by_cases hK : K = 0 ∨ K = 1
      · rcases hK with rfl | rfl
        · go_wp2_with fail
          refine (Push_calls bH bH v L X _ HP.out.hp HP.out.ok hLl).mono ?_
          rintro e w4 ⟨he, v4, L4, ht, hpm4⟩
          subst he
          obtain ⟨hb4, hp4, ok4, hr4, hs4, hsA4⟩ := HP.out.heap ht
          have gH := HP.out.gH
          have gR := HP.out.gR
          have hcX4 : w4.cell? ⟨(ad.add (i * 2)).block, (ad.add (i * 2)).off + 1, none⟩ = some (.int .i64 X) := cell_below hb4 HCX.out hbX
          have PK := Lib.hid (rPush_calls bR AR cR M X w4 hr4 hMl6)
          have hpm : L4.Perm (M ++ [X]) := hpm4.trans ((HP.out.perm.cons X).trans (List.perm_append_comm (l₁ := [X]) (l₂ := M)))
          have HPM4 := Lib.hid hpm
          have HB4 := Lib.hid hb4
          have HP4 := Lib.hid hp4
          have OK4 := Lib.hid ok4
          have HR4 := Lib.hid hr4
          have HS4 := Lib.hid hs4
          clear ht hpm4 hb4 hp4 ok4 hr4 hs4 hsA4 hpm hcK' hcX'
          go_wp2_with fail
          refine PK.out.mono ?_
          rintro e w5 ⟨he, ht5⟩
          subst he
          obtain ⟨A5, c5, hPL5⟩ := PL.both HB4.out HP4.out OK4.out HS4.out gH gR HR4.out ht5 HPM4.out
          have H5 := Lib.hid hPL5
          clear hPL5 ht5
          obtain ⟨m, hm⟩ : ∃ m, ((M ++ [X]) : List Int).length = m := ⟨_, rfl⟩
          have hLm : (L4 : List Int).length = m := by rw [H5.out.perm.length_eq, hm]
          have hcr : w5.cell? ⟨bR, 0, none⟩ = some (.slice A5 m c5) := by have h := H5.out.row.1; rw [hm] at h; simp [World.cell?, h]
          have hlc := fun W hW => HLen_calls bH bH v4 L4 W hW
          rw [hLm] at hlc
          have HLC := Lib.hid hlc
          have tmm : ((m : Int) != (m : Int)) = false := by simp
          clear hm hLm hlc
          go_wp2_with fail
          go_quiet ((go_at_call 26; exact Calls.quiet_of (HLC.out _ (H5.out.hp.drewN _))))
          go_wp2_with fail
          go_roundg k1
          case measure => omega
          case rel => exact ⟨by omega, by rw [HI.out]; rfl, v4, L4, A5, c5, (M ++ [X]), H5.out.drewN _, by simp; rw [HI.out]; omega⟩
        · go_wp2_with fail
          refine (Push_calls bH bH v L X _ HP.out.hp HP.out.ok hLl).mono ?_
          rintro e w4 ⟨he, v4, L4, ht, hpm4⟩
          subst he
          obtain ⟨hb4, hp4, ok4, hr4, hs4, hsA4⟩ := HP.out.heap ht
          have gH := HP.out.gH
          have gR := HP.out.gR
          have hcX4 : w4.cell? ⟨(ad.add (i * 2)).block, (ad.add (i * 2)).off + 1, none⟩ = some (.int .i64 X) := cell_below hb4 HCX.out hbX
          have PK := Lib.hid (rPush_calls bR AR cR M X w4 hr4 hMl6)
          have hpm : L4.Perm (M ++ [X]) := hpm4.trans ((HP.out.perm.cons X).trans (List.perm_append_comm (l₁ := [X]) (l₂ := M)))
          have HPM4 := Lib.hid hpm
          have HB4 := Lib.hid hb4
          have HP4 := Lib.hid hp4
          have OK4 := Lib.hid ok4
          have HR4 := Lib.hid hr4
          have HS4 := Lib.hid hs4
          clear ht hpm4 hb4 hp4 ok4 hr4 hs4 hsA4 hpm hcK' hcX'
          go_wp2_with fail
          refine PK.out.mono ?_
          rintro e w5 ⟨he, ht5⟩
          subst he
          obtain ⟨A5, c5, hPL5⟩ := PL.both HB4.out HP4.out OK4.out HS4.out gH gR HR4.out ht5 HPM4.out
          have H5 := Lib.hid hPL5
          clear hPL5 ht5
          obtain ⟨m, hm⟩ : ∃ m, ((M ++ [X]) : List Int).length = m := ⟨_, rfl⟩
          have hLm : (L4 : List Int).length = m := by rw [H5.out.perm.length_eq, hm]
          have hcr : w5.cell? ⟨bR, 0, none⟩ = some (.slice A5 m c5) := by have h := H5.out.row.1; rw [hm] at h; simp [World.cell?, h]
          have hlc := fun W hW => HLen_calls bH bH v4 L4 W hW
          rw [hLm] at hlc
          have HLC := Lib.hid hlc
          have tmm : ((m : Int) != (m : Int)) = false := by simp
          clear hm hLm hlc
          go_wp2_with fail
          go_quiet ((go_at_call 26; exact Calls.quiet_of (HLC.out _ (H5.out.hp.drewN _))))
          go_wp2_with fail
          go_roundg k1
          case measure => omega
          case rel => exact ⟨by omega, by rw [HI.out]; rfl, v4, L4, A5, c5, (M ++ [X]), H5.out.drewN _, by simp; rw [HI.out]; omega⟩
      · have k0 : (K == 0) = false := by simp; omega
        have k1' : (K == 1) = false := by simp; omega
        by_cases hK2 : K = 2
        · subst hK2
          cases L with
          | nil =>
            obtain rfl : M = [] := HP.out.perm.symm.eq_nil
            go_wp2_with fail
            refine (Pop_none bH bH v _ HP.out.hp).mono ?_
            rintro e _ ⟨he, q1, rfl⟩
            subst he
            have HQ := Lib.hid (HP.out.drewN q1)
            go_wp2_with fail
            refine (rPop_none bR AR cR _ HQ.out.row).mono ?_
            rintro e _ ⟨he, q2, rfl⟩
            subst he
            obtain ⟨w5, hw5⟩ : ∃ W, wr.drewN (q1 + q2) = W := ⟨_, rfl⟩
            have H5 := Lib.hid (show PL w bH bR v [] AR cR [] w5 by rw [← hw5]; exact HP.out.drewN _)
            try rw [World.drewN_drewN]
            rw [hw5]
            clear hw5 hcK' hcX'
            obtain ⟨m, hm⟩ : ∃ m, ([] : List Int).length = m := ⟨_, rfl⟩
            have hLm : ([] : List Int).length = m := by rw [H5.out.perm.length_eq, hm]
            have hcr : w5.cell? ⟨bR, 0, none⟩ = some (.slice AR m cR) := by have h := H5.out.row.1; rw [hm] at h; simp [World.cell?, h]
            have hlc := fun W hW => HLen_calls bH bH v [] W hW
            rw [hLm] at hlc
            have HLC := Lib.hid hlc
            have tmm : ((m : Int) != (m : Int)) = false := by simp
            clear hm hLm hlc
            go_wp2_with fail
            go_quiet ((go_at_call 26; exact Calls.quiet_of (HLC.out _ (H5.out.hp.drewN _))))
            go_wp2_with fail
            go_roundg k1
            case measure => omega
            case rel => exact ⟨by omega, by rw [HI.out]; rfl, v, [], AR, cR, [], H5.out.drewN _, by simp⟩
          | cons y L =>
            have hmin := HeapOk.min HP.out.ok HP.out.perm
            have HMIN := Lib.hid hmin
            have hLl2 : L.length ≤ 1000000 := by simp at hLl; omega
            clear hmin
            go_wp2_with fail
            refine (Pop_some bH bH v y L _ HP.out.hp HP.out.ok hLl2).mono ?_
            rintro e w4 ⟨he, v4, L4, ht, hpm4⟩
            subst he
            obtain ⟨hb4, hp4, ok4, hr4, hs4, hsA4⟩ := HP.out.heap ht
            have gH := HP.out.gH
            have gR := HP.out.gR
            have PK := Lib.hid (rPop_some bR AR cR M y w4 hr4 hMl6 HMIN.out)
            have hpm : L4.Perm (M.erase y) := hpm4.trans (perm_erase HP.out.perm)
            have HPM4 := Lib.hid hpm
            have HB4 := Lib.hid hb4
            have HP4 := Lib.hid hp4
            have OK4 := Lib.hid ok4
            have HR4 := Lib.hid hr4
            have HS4 := Lib.hid hs4
            have tyy : (y != y) = false := by simp
            clear ht hpm4 hb4 hp4 ok4 hr4 hs4 hsA4 hpm hcK' hcX'
            go_wp2_with fail
            refine PK.out.mono ?_
            rintro e w5 ⟨he, M5, ht5, hpm5⟩
            subst he
            obtain ⟨A5, c5, hPL5⟩ := PL.both HB4.out HP4.out OK4.out HS4.out gH gR HR4.out ht5 (HPM4.out.trans hpm5.symm)
            have hM5 : M5.length ≤ M.length := by rw [hpm5.length_eq]; exact List.length_erase_le
            have H5 := Lib.hid hPL5
            clear hPL5 ht5 hpm5
            obtain ⟨m, hm⟩ : ∃ m, (M5 : List Int).length = m := ⟨_, rfl⟩
            have hLm : (L4 : List Int).length = m := by rw [H5.out.perm.length_eq, hm]
            have hcr : w5.cell? ⟨bR, 0, none⟩ = some (.slice A5 m c5) := by have h := H5.out.row.1; rw [hm] at h; simp [World.cell?, h]
            have hlc := fun W hW => HLen_calls bH bH v4 L4 W hW
            rw [hLm] at hlc
            have HLC := Lib.hid hlc
            have tmm : ((m : Int) != (m : Int)) = false := by simp
            clear hm hLm hlc
            go_wp2_with fail
            go_quiet ((go_at_call 26; exact Calls.quiet_of (HLC.out _ (H5.out.hp.drewN _))))
            go_wp2_with fail
            go_roundg k1
            case measure => omega
            case rel => exact ⟨by omega, by rw [HI.out]; rfl, v4, L4, A5, c5, M5, H5.out.drewN _, by rw [HI.out]; omega⟩
        · have k2 : (K == 2) = false := by simp; omega
          cases L with
          | nil =>
            obtain rfl : M = [] := HP.out.perm.symm.eq_nil
            go_wp2_with fail
            refine (Peek_none bH bH v _ HP.out.hp).mono ?_
            rintro e _ ⟨he, q1, rfl⟩
            subst he
            have HQ := Lib.hid (HP.out.drewN q1)
            go_wp2_with fail
            refine (rPeek_none bR AR cR _ HQ.out.row).mono ?_
            rintro e _ ⟨he, q2, rfl⟩
            subst he
            obtain ⟨w5, hw5⟩ : ∃ W, wr.drewN (q1 + q2) = W := ⟨_, rfl⟩
            have H5 := Lib.hid (show PL w bH bR v [] AR cR [] w5 by rw [← hw5]; exact HP.out.drewN _)
            try rw [World.drewN_drewN]
            rw [hw5]
            clear hw5 hcK' hcX'
            obtain ⟨m, hm⟩ : ∃ m, ([] : List Int).length = m := ⟨_, rfl⟩
            have hLm : ([] : List Int).length = m := by rw [H5.out.perm.length_eq, hm]
            have hcr : w5.cell? ⟨bR, 0, none⟩ = some (.slice AR m cR) := by have h := H5.out.row.1; rw [hm] at h; simp [World.cell?, h]
            have hlc := fun W hW => HLen_calls bH bH v [] W hW
            rw [hLm] at hlc
            have HLC := Lib.hid hlc
            have tmm : ((m : Int) != (m : Int)) = false := by simp
            clear hm hLm hlc
            go_wp2_with fail
            go_quiet ((go_at_call 26; exact Calls.quiet_of (HLC.out _ (H5.out.hp.drewN _))))
            go_wp2_with fail
            go_roundg k1
            case measure => omega
            case rel => exact ⟨by omega, by rw [HI.out]; rfl, v, [], AR, cR, [], H5.out.drewN _, by simp⟩
          | cons y L =>
            have hmin := HeapOk.min HP.out.ok HP.out.perm
            have HMIN := Lib.hid hmin
            have tyy : (y != y) = false := by simp
            clear hmin
            go_wp2_with fail
            refine (Peek_some bH bH v y L _ HP.out.hp).mono ?_
            rintro e _ ⟨he, q1, rfl⟩
            subst he
            have HQ := Lib.hid (HP.out.drewN q1)
            go_wp2_with fail
            refine (rPeek_some bR AR cR M y _ HQ.out.row hMl6 HMIN.out).mono ?_
            rintro e _ ⟨he, q2, rfl⟩
            subst he
            obtain ⟨w5, hw5⟩ : ∃ W, wr.drewN (q1 + q2) = W := ⟨_, rfl⟩
            have H5 := Lib.hid (show PL w bH bR v (y :: L) AR cR M w5 by rw [← hw5]; exact HP.out.drewN _)
            try rw [World.drewN_drewN]
            rw [hw5]
            clear hw5 hcK' hcX'
            obtain ⟨m, hm⟩ : ∃ m, (M : List Int).length = m := ⟨_, rfl⟩
            have hLm : ((y :: L) : List Int).length = m := by rw [H5.out.perm.length_eq, hm]
            have hcr : w5.cell? ⟨bR, 0, none⟩ = some (.slice AR m cR) := by have h := H5.out.row.1; rw [hm] at h; simp [World.cell?, h]
            have hlc := fun W hW => HLen_calls bH bH v (y :: L) W hW
            rw [hLm] at hlc
            have HLC := Lib.hid hlc
            have tmm : ((m : Int) != (m : Int)) = false := by simp
            clear hm hLm hlc
            go_wp2_with fail
            go_quiet ((go_at_call 26; exact Calls.quiet_of (HLC.out _ (H5.out.hp.drewN _))))
            go_wp2_with fail
            go_roundg k1
            case measure => omega
            case rel => exact ⟨by omega, by rw [HI.out]; rfl, v, (y :: L), AR, cR, M, H5.out.drewN _, by rw [HI.out]; omega⟩
end Go.Proofs.Ytacgkoclammggaa
