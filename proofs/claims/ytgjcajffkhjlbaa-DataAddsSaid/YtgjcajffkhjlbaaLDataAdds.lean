/-
  The statement DataAdds: the walk. Conditions: the numbers lie in their kinds' ranges.
-/
import Derived.Test.YtgjcajffkhjlbaaData3
import Derived.Shelf.Abstract
namespace Go.Proofs.Ytgjcajffkhjlbaa
open Go.RowKit
set_option linter.unusedVariables false
set_option linter.unusedSimpArgs false
attribute [local go_sem] Oper.semAt_some

theorem info_sl32 : (Try.prog.info? 22).map (fun i => (i.zero, i.size, i.bytes)) = some (some (.slice none 0 0), 1, 24) := by kernel_rfl
theorem one_slice (B : Option Addr) (n d : Nat) : ∀ u ∈ [Value.slice B n d], u.oneCell' = true := by
  intro u hu
  rw [List.mem_singleton.1 hu]
  rfl
/-- A row of lists that reads as R: the call's own row, its lists told by K. -/
structure KR (W : World) (b0 : Nat) (n : Nat) (v : Value) (xs : List Value) (K : World → List Int → Value → Prop) (R : List (List Int)) : Prop where
  row : W.ownsRow b0 22 1 v n xs
  len : xs.length = n
  el : ∀ j, j < n → ∃ u, xs[j]? = some u ∧ K W (R.getD j []) u
/-- a list that lies below: read by any later world. -/
def KOld (w : World) (W : World) (r : List Int) (u : Value) : Prop := ∃ B d, u = .slice B r.length d ∧ r.length ≤ d ∧ Rd w .i32 B r
/-- a list of the call's own, whose block isn't ob's. -/
def KNew (b0 : Nat) (ov : Value) (W : World) (r : List Int) (u : Value) : Prop := ∃ B d, u = .slice B r.length d ∧ r.length ≤ d ∧ Own W b0 21 .i32 u r ∧ ∀ k, u.ownBlock = some k → ov.ownBlock ≠ some k
theorem KR.shape {W : World} {b0 n : Nat} {v : Value} {xs : List Value} {K : World → List Int → Value → Prop} {R : List (List Int)} (h : KR W b0 n v xs K R) : ∃ A c, v = .slice A n c := by
  obtain ⟨A, c, rfl, _⟩ := own_shape h.row
  exact ⟨A, c, rfl⟩
theorem KR.rowsOld {w W : World} {b0 n c : Nat} {A : Option Addr} {xs : List Value} {R : List (List Int)} (h : KR W b0 n (.slice A n c) xs (KOld w) R) (hb : Below w.heap.size w W) (hn : R.length = n) (hl : n ≤ 1000) : Rows W .i32 A R := by
  refine ⟨by omega, fun j hj => ?_⟩
  obtain ⟨u, e1, B, d, rfl, hd, hr⟩ := h.el j (by omega)
  obtain ⟨g, rfl, _, hc, _⟩ := own_cell h.row j (by omega)
  exact ⟨⟨g, 0, none⟩, B, d, rfl, by rw [add_plain, hc]; exact e1, hd, hr.below hb⟩
theorem KR.rowsNew {W : World} {b0 n c : Nat} {A : Option Addr} {xs : List Value} {R : List (List Int)} (h : KR W b0 n (.slice A n c) xs (KNew b0 (.slice A n c)) R) (hn : R.length = n) (hl : n ≤ 1000) : Rows W .i32 A R := by
  refine ⟨by omega, fun j hj => ?_⟩
  obtain ⟨u, e1, B, d, rfl, hd, hr, _⟩ := h.el j (by omega)
  obtain ⟨g, rfl, _, hc, _⟩ := own_cell h.row j (by omega)
  exact ⟨⟨g, 0, none⟩, B, d, rfl, by rw [add_plain, hc]; exact e1, hd, hr.rd.2⟩
theorem KR.onlyOld {w W W' : World} {S : Nat → Prop} {b0 n : Nat} {v : Value} {xs : List Value} {R : List (List Int)} (h : KR W b0 n v xs (KOld w) R) (ho : Only S W W') (hs : ∀ k, v.ownBlock = some k → ¬ S k) : KR W' b0 n v xs (KOld w) R :=
  ⟨row_only h.row ho hs, h.len, h.el⟩
theorem KR.onlyNew {W W' : World} {S : Nat → Prop} {b0 n : Nat} {v : Value} {xs : List Value} {R : List (List Int)} (h : KR W b0 n v xs (KNew b0 v) R) (ho : Only S W W') (hs : ∀ k, b0 ≤ k → k < W.heap.size → ¬ S k) : KR W' b0 n v xs (KNew b0 v) R :=
  ⟨row_only h.row ho fun k hk => hs k (own_base h.row k hk) (row_lt h.row k hk), h.len, fun j hj => by
    obtain ⟨u, e1, B, d, e2, e3, e4, e5⟩ := h.el j hj
    exact ⟨u, e1, B, d, e2, e3, e4.only ho fun k hk => by have := e4.lt k hk; exact hs k this.1 this.2, e5⟩⟩
theorem KR.addOld {w W1 W2 : World} {b0 n : Nat} {v v' : Value} {xs : List Value} {R : List (List Int)} {u : Value} {r : List Int} (h : KR W1 b0 n v xs (KOld w) R) (hR : R.length = n) (hrow : W2.ownsRow b0 22 1 v' (n + 1) (xs ++ [u])) (hu : KOld w W1 r u) : KR W2 b0 (n + 1) v' (xs ++ [u]) (KOld w) (R ++ [r]) where
  row := hrow
  len := by simp [h.len]
  el := fun j hj => by
    by_cases hj2 : j < n
    · obtain ⟨u', e1, e2⟩ := h.el j hj2
      refine ⟨u', by rw [List.getElem?_append_left (by rw [h.len]; exact hj2)]; exact e1, ?_⟩
      rw [show (R ++ [r]).getD j [] = R.getD j [] by simp only [List.getD]; rw [List.getElem?_append_left (by omega)]]
      exact e2
    · obtain rfl : j = n := by omega
      refine ⟨u, by rw [List.getElem?_append_right (by rw [h.len]; exact Nat.le_refl _), h.len]; simp, ?_⟩
      rw [show (R ++ [r]).getD j [] = r by simp only [List.getD]; rw [List.getElem?_append_right (by omega), hR]; simp]
      exact hu
/-- one more list of the call's own: made behind A0. -/
theorem KR.addNew {A0 W W1 W2 : World} {b0 n : Nat} {v v' : Value} {xs : List Value} {R : List (List Int)} {u : Value} {B : Option Addr} {d : Nat} (h : KR W b0 n v xs (KNew b0 v) R) (h0 : KR A0 b0 n v xs (KNew b0 v) R) (hb : b0 ≤ A0.heap.size)
    (hu1 : u = .slice B (R.getD n []).length d) (hu2 : (R.getD n []).length ≤ d) (hu3 : Own W A0.heap.size 21 .i32 u (R.getD n [])) (h1 : Only (fun _ => False) W W1) (hz : A0.heap.size ≤ W.heap.size) (hrow : W2.ownsRow b0 22 1 v' (n + 1) (xs ++ [u])) (ho : Only (OwnB v) W1 W2)
    (hv : v'.ownBlock = v.ownBlock ∨ v'.ownBlock = some W1.heap.size) : KR W2 b0 (n + 1) v' (xs ++ [u]) (KNew b0 v') R where
  row := hrow
  len := by simp [h.len]
  el := fun j hj => by
    by_cases hj2 : j < n
    · obtain ⟨u', e1, B', d', e2, e3, e4, e5⟩ := h.el j hj2
      refine ⟨u', by rw [List.getElem?_append_left (by rw [h.len]; exact hj2)]; exact e1, B', d', e2, e3, (e4.only h1 fun _ _ h => h).only ho fun k hk hob => e5 k hk hob, fun k hk hv' => ?_⟩
      rcases hv with hv | hv
      · exact e5 k hk (hv ▸ hv')
      · rw [hv] at hv'
        injection hv' with hv'
        have := (e4.lt k hk).2
        have := h1.size
        omega
    · obtain rfl : j = n := by omega
      refine ⟨u, by rw [List.getElem?_append_right (by rw [h.len]; exact Nat.le_refl _), h.len]; simp, B, d, hu1, hu2, ((hu3.only h1 fun _ _ h => h).only ho fun k hk hob => ?_).low hb, fun k hk hv' => ?_⟩
      · have := (hu3.lt k hk).1
        have := row_lt h0.row k hob
        omega
      · rcases hv with hv | hv
        · have := (hu3.lt k hk).1
          have := row_lt h0.row k (hv ▸ hv')
          omega
        · rw [hv] at hv'
          injection hv' with hv'
          have := (hu3.lt k hk).2
          have := h1.size
          omega
theorem below_putObj3 {B b : Nat} {w W : World} (h : Below B w W) (hb : B ≤ b) (o : Obj) : Below B w (W.putObj b o) := h.trans ⟨rfl, rfl, rfl, by simp, fun k hk => World.putObj_heap_other (by omega)⟩
set_option maxHeartbeats 6400000 in
set_option maxRecDepth 100000 in
theorem DataAdds_law (dim : Int) (A : Option Addr) (c : Nat) (ls : List (List Int)) (w : World) (hd : (Lit.int .i64 dim).wf = true) (hlc : ls.length ≤ c) (ha : Rows w .i32 A ls) (hu : ∀ xs ∈ ls, ∀ n ∈ xs, (Lit.int .i32 n).wf = true) :
    Calls Try.prog 14 #[.int .i64 dim, .slice A ls.length c] w fun e w' => e = .returned (.bool true) ∧ Below w.heap.size w w' := by
  have KA := Lib.hid ha
  replace hd := i64_of_wf hd
  obtain ⟨hd1, hd2⟩ := hd
  clear ha hu
  by_cases hrange : dim < 1 ∨ 1024 < dim
  · have hr2 : (dim < 1) ∨ (¬ dim < 1 ∧ 1024 < dim) := by omega
    have k_w : Below w.heap.size w w := Below.refl _ _
    go_enter Try.func14, Try.ntmps14
    go_wp2_with fail
    obtain ⟨w1, hw⟩ : ∃ W, w.alloc (.cells #[.bool false] 4) = W := ⟨_, rfl⟩
    rw [hw]
    have hbn : Below w.heap.size w w1 := by rw [← hw]; exact below_alloc1 (Below.refl _ _) _
    have b3 : w1.heap[w.heap.size]? = some (.cells #[.bool false] 4 (0, 0)) := by rw [← hw]; exact heap_alloc_new _ _
    clear hw
    have k_w_w1 : Below w.heap.size w w1 := k_w.trans (hbn.mono k_w.size)
    clear k_w
    clear hbn
    have b2 := b3
    clear b3
    have h_r0 : w1.cell? ⟨w.heap.size, 0, none⟩ = some (.bool false) := by simp [World.cell?, b2]
    have f_r0 : w1.frozen? ⟨w.heap.size, 0, none⟩ = false := by simp [World.frozen?, b2]
    have b_r := Lib.hid b2
    clear b2
    go_wp2_with fail
    refine (awake10_calls _  ).mono ?_
    rintro e w2 ⟨he, hbn⟩
    subst he
    have k_w_w2 : Below w.heap.size w w2 := k_w_w1.trans (hbn.mono k_w_w1.size)
    clear k_w_w1
    have b2 := obj_below hbn b_r.out (obj_lt b_r.out)
    clear b_r h_r0 f_r0
    have h_r0 : w2.cell? ⟨w.heap.size, 0, none⟩ = some (.bool false) := by simp [World.cell?, b2]
    have f_r0 : w2.frozen? ⟨w.heap.size, 0, none⟩ = false := by simp [World.frozen?, b2]
    have b_r := Lib.hid b2
    clear b2
    clear hbn
    go_wp2_with fail
    refine (Few_calls A c ls _ (KA.out.below k_w_w2)).mono ?_
    rintro e _ ⟨bb, he, hfew, rfl⟩
    subst he
    cases bb with
    | false =>
      go_wp2_with fail
      exact ⟨rfl, _, results_boxed rfl rfl _ _ true rfl (by simp [World.cell?, set_blk (cs := [_]) b_r.out 0 (.bool true)]), rfl, below_set k_w_w2 (Nat.le_refl _) _ _⟩
    | true =>
      have hnn := New_none dim w2 hrange
      have HNN := Lib.hid hnn
      clear hnn
      rcases hr2 with hr | ⟨hr0, hr⟩
      · have hdr1 : decide (dim < 1) = true := decide_eq_true hr
        go_wp2_with fail
        refine HNN.out.mono ?_
        rintro e _ ⟨he, rfl⟩
        subst he
        go_wp2_with fail
        exact ⟨rfl, _, results_boxed rfl rfl _ _ true rfl (by simp [World.cell?, set_blk (cs := [_]) b_r.out 0 (.bool true)]), rfl, below_set k_w_w2 (Nat.le_refl _) _ _⟩
      · have hdr1 : decide (dim < 1) = false := decide_eq_false (by omega)
        have hdr2 : decide (1024 < dim) = true := decide_eq_true hr
        go_wp2_with fail
        refine HNN.out.mono ?_
        rintro e _ ⟨he, rfl⟩
        subst he
        go_wp2_with fail
        exact ⟨rfl, _, results_boxed rfl rfl _ _ true rfl (by simp [World.cell?, set_blk (cs := [_]) b_r.out 0 (.bool true)]), rfl, below_set k_w_w2 (Nat.le_refl _) _ _⟩
  obtain ⟨D, rfl⟩ : ∃ D : Nat, dim = D := ⟨dim.toNat, by omega⟩
  have hD1 : 1 ≤ D := by omega
  have hD2 : D ≤ 1024 := by omega
  have hdr1 : decide ((D : Int) < 1) = false := decide_eq_false (by omega)
  have hdr2 : decide (1024 < (D : Int)) = false := decide_eq_false (by omega)
  have k_w : Below w.heap.size w w := Below.refl _ _
  refine (callsIn_wide (n := 5)).1 ?_
  refine callsIn_of_wp_marks Try.func14 rfl trivial ?_ rfl
  refine wpIn_wide.2 ?_
  simp only [Try.ntmps14, List.size_toArray, List.length_cons, List.length_nil, Nat.reduceAdd, Nat.reduceSub, Array.replicate_succ, Array.replicate_zero, List.push_toArray, List.append_toArray, List.nil_append, List.cons_append]
  go_wp2_with fail
  obtain ⟨w1, hw⟩ : ∃ W, w.alloc (.cells #[.bool false] 4) = W := ⟨_, rfl⟩
  rw [hw]
  have hbn : Below w.heap.size w w1 := by rw [← hw]; exact below_alloc1 (Below.refl _ _) _
  have b3 : w1.heap[w.heap.size]? = some (.cells #[.bool false] 4 (0, 0)) := by rw [← hw]; exact heap_alloc_new _ _
  clear hw
  have k_w_w1 : Below w.heap.size w w1 := k_w.trans (hbn.mono k_w.size)
  clear k_w
  clear hbn
  have b2 := b3
  clear b3
  have h_r0 : w1.cell? ⟨w.heap.size, 0, none⟩ = some (.bool false) := by simp [World.cell?, b2]
  have f_r0 : w1.frozen? ⟨w.heap.size, 0, none⟩ = false := by simp [World.frozen?, b2]
  have b_r := Lib.hid b2
  clear b2
  go_wp2_with fail
  refine (awake10_calls _  ).mono ?_
  rintro e w2 ⟨he, hbn⟩
  subst he
  have k_w_w2 : Below w.heap.size w w2 := k_w_w1.trans (hbn.mono k_w_w1.size)
  clear k_w_w1
  have b2 := obj_below hbn b_r.out (obj_lt b_r.out)
  clear b_r h_r0 f_r0
  have h_r0 : w2.cell? ⟨w.heap.size, 0, none⟩ = some (.bool false) := by simp [World.cell?, b2]
  have f_r0 : w2.frozen? ⟨w.heap.size, 0, none⟩ = false := by simp [World.frozen?, b2]
  have b_r := Lib.hid b2
  clear b2
  clear hbn
  go_wp2_with fail
  refine (Few_calls A c ls _ (KA.out.below k_w_w2)).mono ?_
  rintro e _ ⟨bb, he, hfew, rfl⟩
  subst he
  cases bb with
  | false =>
    go_wp2_with fail
    exact ⟨_, results_boxed rfl rfl _ _ true rfl (by simp [World.cell?, set_blk (cs := [_]) b_r.out 0 (.bool true)]), rfl, below_set k_w_w2 (Nat.le_refl _) _ _⟩
  | true =>
    have hl3 := hfew rfl
    have hz2 := k_w_w2.size
    have hrl2 := obj_lt b_r.out
    go_wp2_with fail
    refine (New_calls D _ hD1 hD2).mono ?_
    rintro e w3 ⟨he, hit, hbn⟩
    subst he
    have hb3 : Below w.heap.size w w3 := k_w_w2.trans (hbn.mono hz2)
    have R3 := Lib.hid (obj_below hbn b_r.out (obj_lt b_r.out))
    obtain ⟨bI, hbI⟩ : ∃ bI, w2.heap.size = bI := ⟨_, rfl⟩
    rw [hbI] at hit ⊢
    have hwI : w.heap.size < bI := by omega
    obtain ⟨AI, cI, hitv⟩ := hit.v
    have HI0 := Lib.hid hitv
    have hzI := (hitv.blk bI (.inl rfl)).2
    clear hbn hit hitv hbI hz2 hrl2
    go_wp2_with fail
    go_loopg [8, 7] ls.length (fun kq v8 v7 w' => kq ≤ ls.length ∧ v8 = .int .i64 ((ls.length - kq : Nat) : Int) ∧ ∃ R AI cI xs, ItV w' bI D R AI cI ∧ R.length ≤ ls.length - kq ∧ KR w' bI R.length v7 xs (KOld w) R ∧ (∀ k, v7.ownBlock = some k → ¬ ItB bI AI R.flatten.length cI k) ∧ Below w.heap.size w w' ∧ w'.heap[w.heap.size]? = some (.cells #[.bool false] 4 (0, 0)))
    case atStart => exact ⟨Nat.le_refl _, by simp, [], AI, cI, [], HI0.out, by simp, ⟨World.ownsRow_nil _ _ _ _, rfl, fun j h => by simp at h⟩, fun k hk => by simp [Value.ownBlock] at hk, hb3, R3.out⟩
    case round =>
      clear HI0 R3 hb3 hzI h_r0 f_r0 b_r
      obtain ⟨hk, rfl, R, AI, cI, xs, hit, hRl, hkr, hsep, hB, hR⟩ := hrel
      have HIT := Lib.hid hit
      have HKR := Lib.hid hkr
      have HSEP := Lib.hid hsep
      have HB := Lib.hid hB
      have HR := Lib.hid hR
      obtain ⟨A7, c7, rfl⟩ := hkr.shape
      clear hit hkr hsep hB hR
      cases gk with
      | zero =>
        simp only [Nat.sub_zero]
        have hlt0 : ¬ ((ls.length : Int) < (ls.length : Int)) := by omega
        go_wp2_with fail
        obtain ⟨w4, hw4⟩ : ∃ W, wr.alloc (.cells #[.slice none 0 0] 44) = W := ⟨_, rfl⟩
        rw [hw4]
        have hbn4 : Below wr.heap.size wr w4 := by rw [← hw4]; exact below_alloc1 (Below.refl _ _) _
        have bA4 : w4.heap[wr.heap.size]? = some (.cells #[.slice none 0 0] 44 (0, 0)) := by rw [← hw4]; exact heap_alloc_new _ _
        have hz4 : w4.heap.size ≤ wr.heap.size + 1 ∧ wr.heap.size + 1 ≤ w4.heap.size := by rw [← hw4]; simp
        clear hw4
        refine (DAll_calls bI w4).mono ?_
        rintro e w5 ⟨he, hw5⟩
        subst he
        have hbn5 : Below w4.heap.size w4 w5 := by rw [hw5]; exact below_alloc1 (Below.refl _ _) _
        have bX5 : w5.heap[w4.heap.size]? = some (.cells #[.pointer (some ⟨bI, 0, none⟩)] 46 (0, 0)) := by rw [hw5]; exact heap_alloc_new _ _
        have hz5 : w5.heap.size ≤ w4.heap.size + 1 ∧ w4.heap.size + 1 ≤ w5.heap.size := by rw [hw5]; simp
        have bA5 := obj_below hbn5 bA4 (obj_lt bA4)
        have hbr5 : Below wr.heap.size wr w5 := hbn4.trans (hbn5.mono (by omega))
        have hwz := HB.out.size
        have hbw5 : Below w.heap.size w w5 := HB.out.trans (hbr5.mono hwz)
        have hrz := obj_lt HR.out
        have BX := Lib.hid bX5
        have BA := Lib.hid bA5
        have BR := Lib.hid hbr5
        clear hbn4 hbn5 bA4 hw5 bX5 bA5 hbr5
        go_wp2_with fail
        have hI0 : ∃ v xs, Below wr.heap.size wr w5 ∧ w5.heap[wr.heap.size]? = some (.cells #[v] 44 (0, 0)) ∧ KR w5 (w5.heap.size + 2) ([] : List DX).length v xs (KNew (w5.heap.size + 2) v) R := ⟨_, [], BR.out, BA.out, ⟨World.ownsRow_nil _ _ _ _, rfl, fun j h => by simp at h⟩⟩
        have HI0 := Lib.hid hI0
        clear hI0
        refine (wpIn_wide (n := 5)).1 ?_
        refine wpIn_rangeD rfl (by omega) (gf := 59) (lb := #[.pointer (some ⟨w4.heap.size, 0, none⟩)]) rfl trivial (enters_of Try.func59 (by kernel_rfl) rfl)
          (ditems_iter _ w4.heap.size bI D R wr w5 BR.out HIT.out.it BX.out)
          (fun k h => h.elim) (fun h k => Only.trans h k) (fun W l o o' hl _ _ => KpD.putObj (by omega) (by omega)) XD.putObj
          (fun xs A B h _ => h) (fun xs A B h _ => h) (fun _ => rfl)
          (fun pre W => ∃ v xs, Below wr.heap.size wr W ∧ W.heap[wr.heap.size]? = some (.cells #[v] 44 (0, 0)) ∧ KR W (w5.heap.size + 2) pre.length v xs (KNew (w5.heap.size + 2) v) R)
          (fun c pre W => False)
          (fun pre A B h hs => by
            obtain ⟨v, xs, h1, h2, h3⟩ := h
            have hs' : Only (fun k => k = w5.heap.size + 1) A B := Only.mono hs fun k _ h => h.elim (fun h => h.elim) fun h => h
            exact ⟨v, xs, h1.trans (hs'.below h1.size fun k hk h => by omega), hs'.obj h2 (by omega), h3.onlyNew hs' fun k hk _ h => by omega⟩) (fun c pre A B h hs => h) HI0.out ?a1 ?assign ?body ?done ?stop
        case assign =>
          intro l x W K hK
          gi_wp2
          exact hK
        case body =>
          clear HI0 BX BA
          rintro l2 pre ⟨x1, B1, n1, c1⟩ A0 W _ hlen hsz ⟨v, xs9, q1, q2, q3⟩ hst ⟨hx1, hx2, hx3, hx4⟩
          have hs' : Only (fun k => k = w5.heap.size + 1) A0 W := Only.mono hst fun k _ h => h.elim (fun h => h.elim) fun h => h
          have r1 := q1.trans (hs'.below q1.size fun k hk h => by omega)
          have r2 := hs'.obj q2 (by omega)
          have r3 := q3.onlyNew hs' fun k hk _ h => by omega
          simp only at hx1 hx2 hx3 hx4
          subst hx1 hx2
          obtain ⟨A1, c9, rfl⟩ := r3.shape
          have hca : W.cell? ⟨wr.heap.size, 0, none⟩ = some (.slice A1 pre.length c9) := by simp [World.cell?, r2]
          have hpl : pre.length < 1000 := by omega
          have hne : ¬ OwnB (.slice A1 pre.length c9) wr.heap.size := fun h => by have := own_base r3.row _ h; omega
          obtain ⟨n1, hn1⟩ : ∃ n1, (R.getD pre.length []).length = n1 := ⟨_, rfl⟩
          have HN1 := Lib.hid hn1
          rw [hn1] at hx3 hx4 ⊢
          have HW1 := Lib.hid (obj_below ((Below.refl W.heap.size W).alloc (Nat.le_refl _) (.cells #[.slice B1 n1 c1] 22)) r2 (obj_lt r2))
          have hbz : w5.heap.size + 2 ≤ (W.alloc (.cells #[.slice B1 n1 c1] 22)).heap.size := by rw [World.size_alloc]; omega
          have R1 := Lib.hid r1
          have R2 := Lib.hid r2
          have R3 := Lib.hid r3
          have Q3 := Lib.hid q3
          have HX4 := Lib.hid hx4
          have hob5 : ∀ b, OwnB (.slice A1 pre.length c9) b → w5.heap.size + 2 ≤ b := fun b h => own_base r3.row b h
          clear r1 r2 r3 q1 q2 q3 hx4 hst hs' hn1
          gi_wp2_with (gi_at_builtin; refine wpListIn_app _ rfl (.tmp 113) (.tmp 115) 44 22 rfl (.slice none 0 0) 1 24 Try.underlying44 info_sl32 rfl (by omega) (by omega) (w5.heap.size + 2) (.slice A1 pre.length c9) pre.length xs9 rfl (some ⟨W.heap.size, 0, none⟩) 1 1 rfl (own_alloc1 R3.out.row _) hbz [.slice B1 n1 c1] rfl (RdC.one _ _ _) (one_slice _ _ _) (by omega) ?_; intro v1 W2 hrow hob hv hnil; obtain ⟨A2, c2, hv2, _⟩ := own_shape hrow; subst hv2; have HROW := Lib.hid hrow; have HOB := Lib.hid hob; have HV := Lib.hid hv; have hfz : W2.frozen? ⟨wr.heap.size, 0, none⟩ = false := free_blk (hob.obj HW1.out hne) 0; have hcw : W2.cell? ⟨wr.heap.size, 0, none⟩ = some (.slice A1 pre.length c9) := cell_blk (cs := [_]) (hob.obj HW1.out hne) 0; clear hrow hob hv hnil)
          obtain ⟨WE, hWE⟩ : ∃ WE, W2.setCell ⟨wr.heap.size, 0, none⟩ (.slice A2 (pre.length + 1) c2) = WE := ⟨_, rfl⟩
          rw [hWE]
          have hW : Only (fun _ => False) W (W.alloc (.cells #[.slice B1 n1 c1] 22)) := Only.of_below (below_alloc1 (Below.refl _ _) _)
          have hKR2 := KR.addNew (B := B1) (d := c1) R3.out Q3.out hsz.1 (by rw [HN1.out]) (by rw [HN1.out]; exact hx3) HX4.out hW hsz.2 HROW.out HOB.out HV.out
          have hset : Only (fun b => b = wr.heap.size) W2 WE := by rw [← hWE]; exact only_set _ _ _ _
          have hKR3 := hKR2.onlyNew hset fun b hb1 _ h => by omega
          have hall : Only (fun b => OwnB (.slice A1 pre.length c9) b ∨ b = wr.heap.size) W WE := ((hW.mono fun _ _ h => h.elim).trans (HOB.out.mono fun _ _ h => .inl h)).trans (hset.mono fun _ _ h => .inr h)
          have hkf : KeepsFrom w5.heap.size W WE := ⟨hall.size, fun k o hk hh hc => hall.obj hh fun h => by
            rcases h with h | h
            · obtain ⟨cs, t, f, hcs⟩ := own_cells R3.out.row k h
              rw [hh] at hcs
              injection hcs with hcs
              rw [hcs] at hc
              cases hc
            · omega⟩
          refine ⟨hkf, hall.mono fun k _ h he => ?_, ?_⟩
          · rcases h with h | h
            · have := hob5 k h
              rcases he with he | he <;> omega
            · rcases he with he | he <;> omega
          · have hlen : (pre ++ [((((pre.length : Nat) : Int), B1, n1, c1) : DX)]).length = pre.length + 1 := by simp
            show ∃ v xs, Below wr.heap.size wr WE ∧ WE.heap[wr.heap.size]? = some (.cells #[v] 44 (0, 0)) ∧ KR WE (w5.heap.size + 2) (pre ++ [((((pre.length : Nat) : Int), B1, n1, c1) : DX)]).length v xs (KNew (w5.heap.size + 2) v) R
            rw [hlen]
            refine ⟨_, _, R1.out.trans (hall.below R1.out.size fun k hk h => ?_), ?_, hKR3⟩
            · rcases h with h | h
              · have := hob5 k h; omega
              · omega
            · rw [← hWE]
              exact set_blk (cs := [_]) (HOB.out.obj HW1.out hne) 0 _
        case done =>
          rintro _ ps W rfl hxs ⟨v, xs9, r1, r2, r3⟩ hK
          clear HI0 BX BA
          rw [hxs] at r3
          obtain ⟨A1, c9, rfl⟩ := r3.shape
          have hr1 := r3.rowsNew rfl (by omega)
          have hbW := HB.out.trans (r1.mono hwz)
          have hr2 := (HKR.out.rowsOld HB.out rfl (by omega)).below r1
          have hca : W.cell? ⟨wr.heap.size, 0, none⟩ = some (.slice A1 R.length c9) := by simp [World.cell?, r2]
          have hrW := obj_below r1 HR.out (obj_lt HR.out)
          have RW1 := Lib.hid hr1
          have RW2 := Lib.hid hr2
          have HRW := Lib.hid hrW
          have HBW := Lib.hid hbW
          have HK := Lib.hid hK
          clear r1 r2 r3 hr1 hr2 hrW hbW hK hxs
          go_wp2_with fail
          refine (Same10_calls A1 c9 A7 c7 R _ RW1.out RW2.out).mono ?_
          rintro e _ ⟨he, q, rfl⟩
          subst he
          have hrq : (W.drewN q).heap[w.heap.size]? = some (.cells #[.bool false] 4 (0, 0)) := HRW.out
          have hcr : (W.drewN q).cell? ⟨w.heap.size, 0, none⟩ = some (.bool false) := by simp [World.cell?, HRW.out]
          have hfr : (W.drewN q).frozen? ⟨w.heap.size, 0, none⟩ = false := by simp [World.frozen?, HRW.out]
          have hKq : (W.drewN q).heap[w5.heap.size]? = some (.deferred (some [])) := HK.out
          have hF := set_other hKq 0 (.bool true) (by omega : w5.heap.size ≠ w.heap.size)
          have hR := set_blk (cs := [_]) hrq 0 (.bool true)
          have hRB : Below w.heap.size w ((W.drewN q).setCell ⟨w.heap.size, 0, none⟩ (.bool true)) := below_set (below_drewN HBW.out q) (Nat.le_refl _) _ _
          have hF1 := Lib.hid hF
          have hR1 := Lib.hid hR
          clear hF hR hrq hKq
          go_wp2_with fail
          exact ⟨by simp, .inl ⟨_, _, rfl, run_takeDeferred hF1.out, _, results_boxed rfl rfl _ _ true rfl (by
            have h := (World.putObj_heap_other (o := .deferred none) (by omega : w.heap.size ≠ w5.heap.size)).trans hR1.out
            simp only [World.cell?, h]
            rfl), rfl, below_putObj3 hRB (by omega) _⟩⟩
        case stop =>
          rintro b cc pre W _ _ h
          exact h.elim
      | succ k1 =>
        obtain ⟨i, hi⟩ : ∃ i, ls.length - (k1 + 1) = i := ⟨_, rfl⟩
        have hi2 : ls.length - k1 = i + 1 := by omega
        have hlt : i < ls.length := by omega
        rw [hi] at hRl ⊢
        have HI := Lib.hid hi2
        clear hi hi2
        obtain ⟨adL, B, d, rfl, hcl, hld, hrd⟩ := KA.out.2 i hlt
        have hclB := World.block_lt_of_cell? _ _ hcl
        have hclr : wr.cell? (adL.add i) = _ := cell_below HB.out hcl hclB
        obtain ⟨ys, hys⟩ : ∃ ys, ls.getD i [] = ys := ⟨_, rfl⟩
        rw [hys] at hcl hclr hld hrd
        have HCL := Lib.hid hcl
        have HLD := Lib.hid hld
        have HRD := Lib.hid hrd
        have bi : (i : Int) < (ls.length : Int) := by omega
        have hRn : R.length < 1048576 := by omega
        have tDD : ((D : Int) != (D : Int)) = false := by simp
        obtain ⟨f, hf⟩ : ∃ f, checkV ys D = f := ⟨_, rfl⟩
        have HF := Lib.hid hf
        clear hcl hld hrd hys hf
        by_cases hf0 : f = 0
        · subst hf0
          have HADD := Lib.hid (AddV_calls bI D R AI cI B d ys wr HIT.out (HRD.out.below HB.out) HF.out hRn)
          go_wp2_with fail
          refine HADD.out.mono ?_
          rintro e w4 ⟨he, A2, c2, hit2, hon2, hfr2⟩
          subst he
          have hbI4 : Below w.heap.size w w4 := HB.out.trans (hon2.below HB.out.size fun k hk h => by have := (HIT.out.blk k h).1; omega)
          have hcl4 : w4.cell? (adL.add i) = _ := cell_below hbI4 HCL.out hclB
          have hR4 := hon2.obj HR.out (fun h => by have := (HIT.out.blk _ h).1; omega)
          have hkr4 := HKR.out.onlyOld hon2 (fun k hk h => HSEP.out k hk h)
          have hsep4 : ∀ k, (Value.slice A7 R.length c7).ownBlock = some k → ¬ ItB bI A2 (R ++ [ys]).flatten.length c2 k := fun k hk h => by
            rcases hfr2 k h with h | h
            · exact HSEP.out k hk h
            · have := row_lt HKR.out.row k hk
              omega
          have HB4 := Lib.hid hbI4
          have HR4 := Lib.hid hR4
          have HK4 := Lib.hid hkr4
          have HS4 := Lib.hid hsep4
          have HI4 := Lib.hid hit2
          have hbz : bI ≤ w4.heap.size := Nat.le_of_lt (hit2.blk bI (.inl rfl)).2
          clear hclr hbI4 hR4 hkr4 hsep4 hit2 hon2 hfr2 HADD
          go_wp2_with fail
          refine (refCheck_calls _ _ ys D _ (HRD.out.below HB4.out)).mono ?_
          rintro e _ ⟨he, rfl⟩
          rw [HF.out] at he
          subst he
          have hbz2 : bI ≤ (w4.alloc (.cells #[.slice B ys.length d] 22)).heap.size := by rw [World.size_alloc]; omega
          go_wp2_with (at_builtin; refine wpList_app _ rfl (.tmp 87) (.tmp 92) 44 22 rfl (.slice none 0 0) 1 24 Try.underlying44 info_sl32 rfl (by omega) (by omega) bI (.slice A7 R.length c7) R.length xs rfl (some ⟨w4.heap.size, 0, none⟩) 1 1 rfl (own_alloc1 HK4.out.row _) (w4.alloc (.cells #[.slice B ys.length d] 22)) (Below.refl _ _) hbz2 [.slice B ys.length d] rfl (RdC.one _ _ _) (one_slice _ _ _) (by omega) ?_; intro v1 w5 hrow hob hbel hv hnil; obtain ⟨A5, c5, hv5, _⟩ := own_shape hrow; subst hv5; have HROW := Lib.hid hrow; have HOB := Lib.hid hob; have HV := Lib.hid hv; clear hrow hob hbel hv hnil)
          have hal : Only (fun _ => False) w4 (w4.alloc (.cells #[.slice B ys.length d] 22)) := Only.of_below (below_alloc1 (Below.refl _ _) _)
          have hon5 : Only (OwnB (.slice A7 R.length c7)) w4 w5 := (hal.mono fun _ _ h => h.elim).trans HOB.out
          have hit5 := HI4.out.only hon5 (fun k hk h => HS4.out k h hk)
          have hown7 : ∀ k, OwnB (.slice A7 R.length c7) k → bI ≤ k := fun k h => own_base HK4.out.row k h
          have hB5 : Below w.heap.size w w5 := HB4.out.trans (hon5.below HB4.out.size fun k hk h => by have := hown7 k h; omega)
          have hR5 := hon5.obj HR4.out (fun h => by have := hown7 _ h; omega)
          have hkr5 := HK4.out.addOld rfl HROW.out (show KOld w w4 ys (.slice B ys.length d) from ⟨B, d, rfl, HLD.out, HRD.out⟩)
          have hl5 : (R ++ [ys]).length = R.length + 1 := by simp
          have hsep5 : ∀ k, (Value.slice A5 (R.length + 1) c5).ownBlock = some k → ¬ ItB bI A2 (R ++ [ys]).flatten.length c2 k := fun k hk h => by
            rcases HV.out with hv | hv
            · exact HS4.out k (hv ▸ hk) h
            · rw [hv] at hk
              injection hk with hk
              have := (HI4.out.blk k h).2
              rw [World.size_alloc] at hk
              omega
          have HI5 := Lib.hid hit5
          have HB5 := Lib.hid hB5
          have HR5 := Lib.hid hR5
          have HK5 := Lib.hid hkr5
          have HS5 := Lib.hid hsep5
          have HL5 := Lib.hid hl5
          have HLC := Lib.hid (Len_calls bI D (R ++ [ys]) w5 hit5.it)
          clear hal hon5 hit5 hB5 hR5 hkr5 hsep5 hl5 hcl4
          refine HLC.out.mono ?_
          rintro e _ ⟨he, q1, rfl⟩
          rw [HL5.out] at he
          subst he
          have HDC := Lib.hid (Dim_calls bI D (R ++ [ys]) (w5.drewN q1) (HI5.out.it.drewN q1))
          go_wp2_with fail
          refine HDC.out.mono ?_
          rintro e _ ⟨he, rfl⟩
          subst he
          go_wp2_with fail
          go_roundg k1
          case measure => omega
          case rel =>
            refine ⟨by omega, by rw [HI.out]; rfl, R ++ [ys], A2, c2, xs ++ [.slice B ys.length d], HI5.out.only (S := fun _ => False) (Only.of_below (below_drewN_self _ _)) (fun _ _ h => h), by rw [HL5.out, HI.out]; omega, ?_, HS5.out, below_drewN HB5.out q1, HR5.out⟩
            rw [HL5.out]
            exact HK5.out.onlyOld (S := fun _ => False) (Only.of_below (below_drewN_self _ _)) fun _ _ h => h
        · have hff : (f != f) = false := by simp
          have hfz : (f != 0) = true := by simp [hf0]
          have hfz2 : (f == 0) = false := by simp [hf0]
          have HADD := Lib.hid (Add_bad bI D R B d ys f wr HIT.out.it (HRD.out.below HB.out) HF.out hf0)
          have HLC := Lib.hid (Len_calls bI D R wr HIT.out.it)
          go_wp2_with fail
          refine HADD.out.mono ?_
          rintro e _ ⟨he, rfl⟩
          subst he
          go_wp2_with fail
          refine (refCheck_calls _ _ ys D _ (HRD.out.below HB.out)).mono ?_
          rintro e _ ⟨he, rfl⟩
          rw [HF.out] at he
          subst he
          go_wp2_with fail
          refine HLC.out.mono ?_
          rintro e _ ⟨he, q1, rfl⟩
          subst he
          have HDC := Lib.hid (Dim_calls bI D R (wr.drewN q1) (HIT.out.it.drewN q1))
          go_wp2_with fail
          refine HDC.out.mono ?_
          rintro e _ ⟨he, rfl⟩
          subst he
          go_wp2_with fail
          go_roundg k1
          case measure => omega
          case rel =>
            exact ⟨by omega, by rw [HI.out]; rfl, R, AI, cI, xs, HIT.out.only (S := fun _ => False) (Only.of_below (below_drewN_self _ _)) (fun _ _ h => h), by rw [HI.out]; omega, HKR.out.onlyOld (S := fun _ => False) (Only.of_below (below_drewN_self _ _)) (fun _ _ h => h), HSEP.out, below_drewN HB.out q1, HR.out⟩
end Go.Proofs.Ytgjcajffkhjlbaa
