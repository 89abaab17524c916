/-
  The statement HeapTasks: the walk. Conditions: the numbers lie in their kinds' ranges.
-/
import Derived.Test.YtacgkoclammggaaHeap6T
import Derived.Test.YtacgkoclammggaaRangeA
import Derived.Test.YtacgkoclammggaaQuietR
import Derived.Test.YtacgkoclammggaaLaw07
import Derived.Sort.QuietIn
namespace Go.Proofs.Ytacgkoclammggaa
open Go.RowKit
set_option linter.unusedVariables false
set_option linter.unusedSimpArgs false
attribute [local go_sem] Oper.semAt_some

/-! ### the plain law -/
def taskL (l : List Int) : List (Int × Int) := (List.range l.length).map fun i => (l.getD i 0, (i : Int))
theorem taskL_length (l : List Int) : (taskL l).length = l.length := by simp [taskL]
theorem taskL_take (l : List Int) (i : Nat) (h : i < l.length) : (taskL l).take (i + 1) = (taskL l).take i ++ [(l.getD i 0, (i : Int))] := by
  rw [List.take_add_one]
  congr 1
  simp [taskL, h]
theorem taskL_mem {l : List Int} {x : Int × Int} (h : x ∈ taskL l) : ∃ i, i < l.length ∧ x = (l.getD i 0, (i : Int)) := by
  obtain ⟨i, hi, rfl⟩ := List.mem_map.1 h
  exact ⟨i, by simpa using hi, rfl⟩
theorem taskL_nodup (l : List Int) : (taskL l).Nodup := by
  unfold taskL List.Nodup
  rw [List.pairwise_map]
  refine List.Pairwise.imp ?_ (List.pairwise_lt_range (n := l.length))
  intro a b h e
  have := congrArg Prod.snd e
  simp at this
  omega
theorem drn_task {l : List Int} {pre L : List (Int × Int)} {x : Int × Int} (h : Drn ltT (taskL l) (pre ++ [x]) L) :
    (∃ i, i < l.length ∧ x = (l.getD i 0, (i : Int))) ∧ ∀ y, y ∈ pre → ¬ (y.1 < x.1) ∧ (x.1 = y.1 → y.2 < x.2) := by
  obtain ⟨h1, h2, h3⟩ := h
  have hm : x ∈ taskL l := h1.subset (by simp)
  refine ⟨taskL_mem hm, fun y hy => ?_⟩
  have hn : (pre ++ [x] ++ L).Nodup := h1.nodup_iff.2 (taskL_nodup l)
  have hne : y ≠ x := by
    have h4 := (List.nodup_append.1 (List.nodup_append.1 hn).1).2.2
    exact h4 y hy x (by simp)
  have hlt : ltT x y = false := (List.pairwise_append.1 h2).2.2 y hy x (by simp)
  rw [ltT_no] at hlt
  have hmy : y ∈ taskL l := h1.subset (by simp [hy])
  refine ⟨by omega, fun e => ?_⟩
  rcases Int.lt_trichotomy y.2 x.2 with h | h | h
  · exact h
  · exact absurd (Prod.ext e.symm h) hne
  · omega
/-- Between two rounds: pre has come; b0: the list's box, b1: the result's, b2: last's, b3: n's. -/
def TC (w : World) (A : Option Addr) (c n b0 b1 b2 b3 : Nat) (pre : List (Int × Int)) (W : World) : Prop :=
  Below w.heap.size w W ∧ W.heap[b0]? = some (.cells #[.slice A n c] 60 (0, 0)) ∧ W.heap[b1]? = some (.cells #[.bool false] 4 (0, 0)) ∧
    W.heap[b2]? = some (.cells #[.int .i64 (pre.getLastD (0, 0)).1, .int .i64 (pre.getLastD (0, 0)).2] 45 (0, 0)) ∧ W.heap[b3]? = some (.cells #[.int .i64 (pre.length : Nat)] 3 (0, 0))
theorem TC.only {w A0 B : World} {A : Option Addr} {c n b0 b1 b2 b3 : Nat} {pre : List (Int × Int)} {S : Nat → Prop} (h : TC w A c n b0 b1 b2 b3 pre A0) (ho : Only S A0 B) (hs : ∀ k, S k → w.heap.size ≤ k ∧ k ≠ b0 ∧ k ≠ b1 ∧ k ≠ b2 ∧ k ≠ b3) : TC w A c n b0 b1 b2 b3 pre B := by
  obtain ⟨h1, h2, h3, h4, h5⟩ := h
  exact ⟨h1.trans (ho.below h1.size fun k hk h => by have := (hs k h).1; omega), ho.obj h2 fun h => (hs _ h).2.1 rfl, ho.obj h3 fun h => (hs _ h).2.2.1 rfl, ho.obj h4 fun h => (hs _ h).2.2.2.1 rfl, ho.obj h5 fun h => (hs _ h).2.2.2.2 rfl⟩
theorem TC.next {w W : World} {A : Option Addr} {c n b0 b1 b2 b3 : Nat} {pre : List (Int × Int)} {x i : Int} {q pn : Nat} (h1 : Below w.heap.size w W) (h2 : W.heap[b0]? = some (.cells #[.slice A n c] 60 (0, 0))) (h3 : W.heap[b1]? = some (.cells #[.bool false] 4 (0, 0))) {y1 y2 : Int}
    (h4 : W.heap[b2]? = some (.cells #[.int .i64 y1, .int .i64 y2] 45 (0, 0))) (h5 : W.heap[b3]? = some (.cells #[.int .i64 (pn : Nat)] 3 (0, 0))) (hp : pre.length = pn) (hb : w.heap.size ≤ b2 ∧ b0 < b2 ∧ b1 < b2 ∧ b2 < b3) :
    TC w A c n b0 b1 b2 b3 (pre ++ [(x, i)]) ((((W.drewN q).setCell ⟨b2, 0, none⟩ (.int .i64 x)).setCell ⟨b2, 1, none⟩ (.int .i64 i)).setCell ⟨b3, 0, none⟩ (.int .i64 ((pn : Int) + 1))) ∧
    Only (fun k => k = b2 ∨ k = b3) W ((((W.drewN q).setCell ⟨b2, 0, none⟩ (.int .i64 x)).setCell ⟨b2, 1, none⟩ (.int .i64 i)).setCell ⟨b3, 0, none⟩ (.int .i64 ((pn : Int) + 1))) := by
  have ho : Only (fun k => k = b2 ∨ k = b3) W ((((W.drewN q).setCell ⟨b2, 0, none⟩ (.int .i64 x)).setCell ⟨b2, 1, none⟩ (.int .i64 i)).setCell ⟨b3, 0, none⟩ (.int .i64 ((pn : Int) + 1))) :=
    (((Only.of_below (below_drewN_self W q)).trans ((only_set _ b2 0 _).mono fun k _ h => .inl h)).trans ((only_set _ b2 1 _).mono fun k _ h => .inl h)).trans ((only_set _ b3 0 _).mono fun k _ h => .inr h)
  refine ⟨⟨h1.trans (ho.below h1.size fun k hk h => by omega), ho.obj h2 (by omega), ho.obj h3 (by omega), ?_, ?_⟩, ho⟩
  · rw [show (pre ++ [(x, i)]).getLastD (0, 0) = (x, i) by simp]
    exact set_other (set_blk (cs := [_, _]) (set_blk (cs := [_, _]) (show (W.drewN q).heap[b2]? = _ from h4) 0 (.int .i64 x)) 1 (.int .i64 i)) 0 _ (by omega)
  · rw [show (pre ++ [(x, i)]).length = pn + 1 by simp [hp]]
    exact set_blk (cs := [_]) (set_other (set_other (show (W.drewN q).heap[b3]? = _ from h5) 0 _ (by omega)) 1 _ (by omega)) 0 _
theorem i8_of_wf {xs : List Int} (h : ∀ n ∈ xs, (Lit.int .i8 n).wf = true) : ∀ j, -128 ≤ xs.getD j 0 ∧ xs.getD j 0 ≤ 127 := fun j => by
  rcases Nat.lt_or_ge j xs.length with hj | hj
  · have h1 := h (xs.getD j 0) (by simp [List.getD, hj])
    simp [Lit.wf, IntKind.min, IntKind.max, IntKind.signed, IntKind.bits] at h1
    rw [List.getD_eq_getElem?_getD]
    omega
  · simp [List.getD, hj]
theorem below_putObj7 {B b : Nat} {w W : World} (h : Below B w W) (hb : B ≤ b) (o : Obj) : Below B w (W.putObj b o) := h.trans ⟨rfl, rfl, rfl, by simp, fun k hk => World.putObj_heap_other (by omega)⟩
set_option maxHeartbeats 6400000 in
set_option maxRecDepth 100000 in
theorem HeapTasks_law (A : Option Addr) (c : Nat) (l : List Int) (w : World) (hcl : l.length ≤ c) (ha : Rd w .i8 A l) (hu : ∀ n ∈ l, (Lit.int .i8 n).wf = true) (na : A = none → l = [] ∧ c = 0) (la : l.length * 1 ≤ 140737488351232) :
    Calls Try.prog 8 #[.slice A l.length c] w fun e w' => e = .returned (.bool true) ∧ Below w.heap.size w w' := by
  have HU := Lib.hid (i8_of_wf hu)
  have KA := Lib.hid ha
  clear hu ha na la
  by_cases h0 : 100 < l.length
  · have h0' : decide (100 < (l.length : Int)) = true := by simp; omega
    have k_w : Below w.heap.size w w := Below.refl _ _
    go_enter Try.func8, Try.ntmps8
    go_wp2_with fail
    obtain ⟨w1, hw⟩ : ∃ W, ((w.alloc (.cells #[.slice A l.length c] 60)).alloc (.cells #[.bool false] 4)) = W := ⟨_, rfl⟩
    rw [hw]
    have hbn : Below w.heap.size w w1 := by rw [← hw]; exact below_alloc1 (below_alloc1 (Below.refl _ _) _) _
    have b3d : w1.heap[w.heap.size]? = some (.cells #[.slice A l.length c] 60 (0, 0)) := by
      have hx := heap_alloc_new w (.cells #[.slice A l.length c] 60)
      rw [← hw]
      exact obj_below (B := w.heap.size + 1) (by first | exact (Below.refl _ _).alloc (by simp) _ | exact ((Below.refl _ _).alloc (by simp) _).alloc (by simp) _ | exact (((Below.refl _ _).alloc (by simp) _).alloc (by simp) _).alloc (by simp) _) hx (by omega)
    have b3r : w1.heap[w.heap.size + 1]? = some (.cells #[.bool false] 4 (0, 0)) := by
      have hx := heap_alloc_new (w.alloc (.cells #[.slice A l.length c] 60)) (.cells #[.bool false] 4)
      simp only [World.size_alloc] at hx
      rw [← hw]
      exact hx
    clear hw
    have k_w_w1 : Below w.heap.size w w1 := k_w.trans (hbn.mono k_w.size)
    clear k_w
    clear hbn
    have b2 := b3d
    clear b3d
    have h_d0 : w1.cell? ⟨w.heap.size, 0, none⟩ = some (.slice A l.length c) := by simp [World.cell?, b2]
    have b_d := Lib.hid b2
    clear b2
    have b2 := b3r
    clear b3r
    have h_r0 : w1.cell? ⟨w.heap.size + 1, 0, none⟩ = some (.bool false) := by simp [World.cell?, b2]
    have f_r0 : w1.frozen? ⟨w.heap.size + 1, 0, none⟩ = false := by simp [World.frozen?, b2]
    have b_r := Lib.hid b2
    clear b2
    go_wp2_with fail
    refine (awake7_calls _  ).mono ?_
    rintro e w2 ⟨he, hbn⟩
    subst he
    have k_w_w2 : Below w.heap.size w w2 := k_w_w1.trans (hbn.mono k_w_w1.size)
    clear k_w_w1
    have b2 := obj_below hbn b_d.out (obj_lt b_d.out)
    clear b_d h_d0
    have h_d0 : w2.cell? ⟨w.heap.size, 0, none⟩ = some (.slice A l.length c) := by simp [World.cell?, b2]
    have b_d := Lib.hid b2
    clear b2
    have b2 := obj_below hbn b_r.out (obj_lt b_r.out)
    clear b_r h_r0 f_r0
    have h_r0 : w2.cell? ⟨w.heap.size + 1, 0, none⟩ = some (.bool false) := by simp [World.cell?, b2]
    have f_r0 : w2.frozen? ⟨w.heap.size + 1, 0, none⟩ = false := by simp [World.frozen?, b2]
    have b_r := Lib.hid b2
    clear b2
    clear hbn
    go_wp2_with fail
    have hst := set_blk (cs := [_]) b_r.out 0 (.bool true)
    exact ⟨rfl, _, results_boxed rfl rfl _ _ true rfl (by simp [World.cell?, hst]), rfl, below_set k_w_w2 (by omega) _ _⟩
  have h0' : decide (100 < (l.length : Int)) = false := by simp; omega
  replace h0 : l.length ≤ 100 := by omega
  have k_w : Below w.heap.size w w := Below.refl _ _
  refine (callsIn_wide (n := 5)).1 ?_
  refine callsIn_of_wp_marks Try.func8 rfl trivial ?_ rfl
  refine wpIn_wide.2 ?_
  simp only [Try.ntmps8, List.size_toArray, List.length_cons, List.length_nil, Nat.reduceAdd, Nat.reduceSub, Array.replicate_succ, Array.replicate_zero, List.push_toArray, List.append_toArray, List.nil_append, List.cons_append]
  go_wp2_with fail
  obtain ⟨w1, hw⟩ : ∃ W, ((w.alloc (.cells #[.slice A l.length c] 60)).alloc (.cells #[.bool false] 4)) = W := ⟨_, rfl⟩
  rw [hw]
  have hbn : Below w.heap.size w w1 := by rw [← hw]; exact below_alloc1 (below_alloc1 (Below.refl _ _) _) _
  have b3d : w1.heap[w.heap.size]? = some (.cells #[.slice A l.length c] 60 (0, 0)) := by
    have hx := heap_alloc_new w (.cells #[.slice A l.length c] 60)
    rw [← hw]
    exact obj_below (B := w.heap.size + 1) (by first | exact (Below.refl _ _).alloc (by simp) _ | exact ((Below.refl _ _).alloc (by simp) _).alloc (by simp) _ | exact (((Below.refl _ _).alloc (by simp) _).alloc (by simp) _).alloc (by simp) _) hx (by omega)
  have b3r : w1.heap[w.heap.size + 1]? = some (.cells #[.bool false] 4 (0, 0)) := by
    have hx := heap_alloc_new (w.alloc (.cells #[.slice A l.length c] 60)) (.cells #[.bool false] 4)
    simp only [World.size_alloc] at hx
    rw [← hw]
    exact hx
  clear hw
  have k_w_w1 : Below w.heap.size w w1 := k_w.trans (hbn.mono k_w.size)
  clear k_w
  clear hbn
  have b2 := b3d
  clear b3d
  have h_d0 : w1.cell? ⟨w.heap.size, 0, none⟩ = some (.slice A l.length c) := by simp [World.cell?, b2]
  have b_d := Lib.hid b2
  clear b2
  have b2 := b3r
  clear b3r
  have h_r0 : w1.cell? ⟨w.heap.size + 1, 0, none⟩ = some (.bool false) := by simp [World.cell?, b2]
  have f_r0 : w1.frozen? ⟨w.heap.size + 1, 0, none⟩ = false := by simp [World.frozen?, b2]
  have b_r := Lib.hid b2
  clear b2
  go_wp2_with fail
  refine (awake7_calls _  ).mono ?_
  rintro e w2 ⟨he, hbn⟩
  subst he
  have k_w_w2 : Below w.heap.size w w2 := k_w_w1.trans (hbn.mono k_w_w1.size)
  clear k_w_w1
  have b2 := obj_below hbn b_d.out (obj_lt b_d.out)
  clear b_d h_d0
  have h_d0 : w2.cell? ⟨w.heap.size, 0, none⟩ = some (.slice A l.length c) := by simp [World.cell?, b2]
  have b_d := Lib.hid b2
  clear b2
  have b2 := obj_below hbn b_r.out (obj_lt b_r.out)
  clear b_r h_r0 f_r0
  have h_r0 : w2.cell? ⟨w.heap.size + 1, 0, none⟩ = some (.bool false) := by simp [World.cell?, b2]
  have f_r0 : w2.frozen? ⟨w.heap.size + 1, 0, none⟩ = false := by simp [World.frozen?, b2]
  have b_r := Lib.hid b2
  clear b2
  clear hbn
  have hz2 := k_w_w2.size
  have hz1 := obj_lt b_r.out
  go_wp2_with fail
  refine (NewT_calls none 0 [] _ (RdP.nil _ _ _ _) (by simp)).mono ?_
  rintro e w3 ⟨b, v, L, he, hlo, hH, hok, hpm, hbn⟩
  subst he
  obtain rfl : L = [] := List.eq_nil_of_length_eq_zero (by rw [hpm.length_eq]; rfl)
  have HH := Lib.hid hH
  have hwb : w.heap.size + 1 < b := by omega
  clear hH hok hpm
  have k_w_w3 : Below w.heap.size w w3 := k_w_w2.trans (hbn.mono k_w_w2.size)
  clear k_w_w2
  have b2 := obj_below hbn b_d.out (obj_lt b_d.out)
  clear b_d h_d0
  have h_d0 : w3.cell? ⟨w.heap.size, 0, none⟩ = some (.slice A l.length c) := by simp [World.cell?, b2]
  have b_d := Lib.hid b2
  clear b2
  have b2 := obj_below hbn b_r.out (obj_lt b_r.out)
  clear b_r h_r0 f_r0
  have h_r0 : w3.cell? ⟨w.heap.size + 1, 0, none⟩ = some (.bool false) := by simp [World.cell?, b2]
  have f_r0 : w3.frozen? ⟨w.heap.size + 1, 0, none⟩ = false := by simp [World.frozen?, b2]
  have b_r := Lib.hid b2
  clear b2
  clear hbn
  have BD := b_d
  have BR := b_r
  clear h_d0 h_r0 f_r0 b_d b_r
  obtain ⟨tl, htl⟩ : ∃ tl, taskL l = tl := ⟨_, rfl⟩
  have HTL := Lib.hid htl
  have hfr0 : ∀ k, OwnB v k → b ≤ k := fun k hk => (HH.out.2.1.lt k hk).1
  clear htl
  go_wp2_with fail
  go_loopg [4] l.length (fun kq v4 w' => ∃ v L, kq ≤ l.length ∧ v4 = .int .i64 ((l.length - kq : Nat) : Int) ∧ HpT w' b b v L ∧ HeapOk ltT L ∧ L.Perm (tl.take (l.length - kq)) ∧ Below w.heap.size w w' ∧ w'.heap[w.heap.size]? = some (.cells #[.slice A l.length c] 60 (0, 0)) ∧ w'.heap[w.heap.size + 1]? = some (.cells #[.bool false] 4 (0, 0)))
  case atStart => exact ⟨v, [], Nat.le_refl _, by simp, HH.out, fun i a b h0 ha => by simp at ha, by simp, k_w_w3, BD.out, BR.out⟩
  case round =>
    clear HH BD BR k_w_w3 hfr0
    obtain ⟨v, L, hk, rfl, hH, hok, hpm, hB, hD, hR⟩ := hrel
    have HH := Lib.hid hH
    have HOK := Lib.hid hok
    have HPM := Lib.hid hpm
    have HB := Lib.hid hB
    have HD := Lib.hid hD
    have HR := Lib.hid hR
    have hcd : wr.cell? ⟨w.heap.size, 0, none⟩ = some (.slice A l.length c) := by simp [World.cell?, hD]
    clear hH hok hpm hB hD hR
    cases gk with
    | zero =>
      simp only [Nat.sub_zero] at HPM ⊢
      have hlt0 : ¬ ((l.length : Int) < (l.length : Int)) := by omega
      go_wp2_with fail
      obtain ⟨w4, hw4⟩ : ∃ W, (wr.alloc (.cells #[.int .i64 0, .int .i64 0] 45)).alloc (.cells #[.int .i64 0] 3) = W := ⟨_, rfl⟩
      rw [hw4]
      have hbn4 : Below wr.heap.size wr w4 := by rw [← hw4]; exact below_alloc1 (below_alloc1 (Below.refl _ _) _) _
      have bl4 : w4.heap[wr.heap.size]? = some (.cells #[.int .i64 0, .int .i64 0] 45 (0, 0)) := by
        rw [← hw4]; exact obj_below ((Below.refl _ _).alloc (Nat.le_refl _) _) (heap_alloc_new wr _) (obj_lt (heap_alloc_new wr _))
      have bn4 : w4.heap[wr.heap.size + 1]? = some (.cells #[.int .i64 0] 3 (0, 0)) := by
        rw [← hw4]; have h := heap_alloc_new (wr.alloc (.cells #[.int .i64 0, .int .i64 0] 45)) (.cells #[.int .i64 0] 3); rwa [World.size_alloc] at h
      have hz4 : w4.heap.size ≤ wr.heap.size + 2 ∧ wr.heap.size + 2 ≤ w4.heap.size := by rw [← hw4]; simp
      clear hw4
      refine (DrainT_calls b w4).mono ?_
      rintro e w5 ⟨he, hw5⟩
      subst he
      have hbn5 : Below w4.heap.size w4 w5 := by rw [hw5]; exact below_alloc1 (Below.refl _ _) _
      have bX5 : w5.heap[w4.heap.size]? = some (.cells #[.pointer (some ⟨b, 0, none⟩)] 61 (0, 0)) := by rw [hw5]; exact heap_alloc_new _ _
      have hz5 : w5.heap.size ≤ w4.heap.size + 1 ∧ w4.heap.size + 1 ≤ w5.heap.size := by rw [hw5]; simp
      have hbr5 : Below wr.heap.size wr w5 := hbn4.trans (hbn5.mono (by omega))
      have hwz := HB.out.size
      have hrz := obj_lt HR.out
      have hI0 : TC w A c l.length w.heap.size (w.heap.size + 1) wr.heap.size (wr.heap.size + 1) [] w5 := ⟨HB.out.trans (hbr5.mono hwz), obj_below hbr5 HD.out (obj_lt HD.out), obj_below hbr5 HR.out (obj_lt HR.out), obj_below hbn5 bl4 (obj_lt bl4), obj_below hbn5 bn4 (obj_lt bn4)⟩
      have HI0 := Lib.hid hI0
      have HH5 := Lib.hid (HH.out.keep hbr5)
      have BX := Lib.hid bX5
      have hpt : L.Perm (taskL l) := by
        have h := HPM.out
        rw [List.take_of_length_le (by rw [← HTL.out, taskL_length]; omega), ← HTL.out] at h
        exact h
      have HPT := Lib.hid hpt
      have hLl : L.length ≤ 1000000 := by rw [hpt.length_eq, taskL_length]; omega
      have hbb := HH.out.lt
      have hvo : ∀ k, OwnB v k → b ≤ k ∧ k < wr.heap.size := fun k hk => HH.out.2.1.lt k hk
      have hDb : ∀ k, HpBT v b k → b ≤ k ∧ k < wr.heap.size := fun k h => h.elim (fun h => by omega) fun h => hvo k h
      clear hbn4 hbn5 hw5 bX5 bl4 bn4 hI0 HPM hpt HD HR hcd
      go_wp2_with fail
      refine (wpIn_wide (n := 5)).1 ?_
      refine wpIn_rangeA rfl (by omega) (gf := 78) (lb := #[.pointer (some ⟨w4.heap.size, 0, none⟩)]) rfl trivial (enters_of Try.func78 (by kernel_rfl) rfl)
        (drainT_iter _ w4.heap.size b b v L w5 HH5.out HOK.out hLl BX.out (by omega) (fun k hk => by have := hvo k hk; omega))
        (fun k h => by have := hDb k h; omega) (fun h k => h.trans k) (fun W l o o' hl _ _ => KpH.putObj ⟨by omega, by omega, fun k hk => by have := hvo k hk; omega⟩ W l o' hl)
        (fun xs A B h hk => by obtain ⟨v', h1, h2, h3⟩ := h; exact ⟨v', h1.kp h3 hk, h2, h3⟩) (fun xs A B h hk => by obtain ⟨v', L, h1, h4, h2, h3⟩ := h; exact ⟨v', L, h1.kp h3 hk, h4, h2, h3⟩) (fun _ => rfl)
        (fun pre W => TC w A c l.length w.heap.size (w.heap.size + 1) wr.heap.size (wr.heap.size + 1) pre W)
        (fun c pre W => False)
        (fun pre A B h hs => h.only hs fun k hk => by
          rcases hk with hk | hk
          · have := hDb k hk; omega
          · omega) (fun c pre A B h hs => h) HI0.out ?a1 (fun x W => W.alloc (.cells #[.int .i64 x.1, .int .i64 x.2] 45)) (fun x W => below_alloc1 (Below.refl _ _) _) (fun x W => Only.of_below (below_alloc1 (Below.refl _ _) _)) ?assign ?body ?done ?stop
      case assign =>
        intro l x W K hK
        gi_wp2
        exact hK
      case body =>
        clear HI0 HH HOK HB
        rintro l2 pre ⟨x1, x2⟩ A0 W0 W o' hW hTW hlen hsz _ _ ⟨Lq, hdr⟩
        obtain ⟨⟨i, hi, hxe⟩, hall⟩ := drn_task (hdr.perm HPT.out)
        simp only [Prod.mk.injEq] at hxe
        obtain ⟨hx1, rfl⟩ := hxe
        obtain ⟨ad, rfl, hca⟩ := (KA.out.below hTW.1).2 i hi
        have hx8 := HU.out i
        rw [← hx1] at hca hx8
        have hwx : IntKind.i64.wrap x1 = x1 := by rw [i64_w]; exact wrap64_id _ (by omega)
        have hpl : pre.length ≤ 1000000 := by omega
        have hbx : W.heap[W0.heap.size]? = some (.cells #[.int .i64 x1, .int .i64 (i : Int)] 45 (0, 0)) := by
          rw [hW]; exact (World.putObj_heap_other (by omega)).trans (heap_alloc_new W0 _)
        obtain ⟨bB, hbB⟩ : ∃ bB, W0.heap.size = bB := ⟨_, rfl⟩
        have hbBn : w5.heap.size + 2 ≤ bB := by omega
        have hwW := hTW.1.size
        rw [hbB] at hbx ⊢
        obtain ⟨t1, t2, t3, t4, t5⟩ := hTW
        obtain ⟨pn, hpn⟩ : ∃ pn, pre.length = pn := ⟨_, rfl⟩
        rw [hpn] at t5 hpl
        obtain ⟨⟨y1, y2⟩, hy⟩ : ∃ y, pre.getLastD (0, 0) = y := ⟨_, rfl⟩
        rw [hy] at t4
        have hcd : W.cell? ⟨w.heap.size, 0, none⟩ = some (.slice (some ad) l.length c) := by simp [World.cell?, t2]
        have hcb0 : W.cell? ⟨bB, 0, none⟩ = some (.int .i64 x1) := by simp [World.cell?, hbx]
        have hcb1 : W.cell? ⟨bB, 1, none⟩ = some (.int .i64 (i : Int)) := by simp [World.cell?, hbx]
        have hcl0 : W.cell? ⟨wr.heap.size, 0, none⟩ = some (.int .i64 y1) := by simp [World.cell?, t4]
        have hcl1 : W.cell? ⟨wr.heap.size, 1, none⟩ = some (.int .i64 y2) := by simp [World.cell?, t4]
        have hfl0 : W.frozen? ⟨wr.heap.size, 0, none⟩ = false := by simp [World.frozen?, t4]
        have hfl1 : W.frozen? ⟨wr.heap.size, 1, none⟩ = false := by simp [World.frozen?, t4]
        have hcn : W.cell? ⟨wr.heap.size + 1, 0, none⟩ = some (.int .i64 (pn : Nat)) := by simp [World.cell?, t5]
        have hfn : W.frozen? ⟨wr.heap.size + 1, 0, none⟩ = false := by simp [World.frozen?, t5]
        have T1 := Lib.hid t1
        have T2 := Lib.hid t2
        have T3 := Lib.hid t3
        have T4 := Lib.hid t4
        have T5 := Lib.hid t5
        have HX := Lib.hid hbx
        have HALL := Lib.hid hall
        have HY := Lib.hid hy
        have g1 : decide ((i : Int) < 0) = false := decide_eq_false (by omega)
        have g2 : decide (l.length ≤ i) = false := decide_eq_false (by omega)
        have g3 : (x1 != x1) = false := by simp
        have hE : (decide (0 < pn) = false) ∨ (decide (0 < pn) = true ∧ decide (y1 < x1) = false ∧ (x1 == y1) = false) ∨ (decide (0 < pn) = true ∧ decide (y1 < x1) = false ∧ (x1 == y1) = true ∧ decide ((i : Int) ≤ y2) = false) := by
          rcases List.eq_nil_or_concat pre with hp | ⟨pre', z, hp⟩
          · exact .inl (by rw [← hpn, hp]; rfl)
          · have hz : z = (y1, y2) := by rw [← HY.out, hp]; simp
            have h := HALL.out z (by rw [hp]; simp)
            have hl : 0 < pn := by rw [← hpn, hp]; simp
            rw [hz] at h
            by_cases he : x1 = y1
            · exact .inr (.inr ⟨decide_eq_true hl, decide_eq_false h.1, by simp [he], decide_eq_false (by have := h.2 he; simp only at this; omega)⟩)
            · exact .inr (.inl ⟨decide_eq_true hl, decide_eq_false h.1, by simp [he]⟩)
        have HPN := Lib.hid hpn
        clear t1 t2 t3 t4 t5 hbx hall hdr hx1 hy hW hlen hpn
        gi_wp2
        refine wpIn_region_quiet_round (F := Fence.wide) rfl (by kernel_rfl) (by kernel_rfl) (by kernel_rfl) ?_
        repeat (gi_big_quiet_step (fail))
        refine wpQuietIn_nil ?_
        intro _ hw'
        obtain ⟨nq, hw''⟩ := hw'
        subst hw''
        rcases hE with e1 | ⟨e1, e2, e3⟩ | ⟨e1, e2, e3, e4⟩
        · gi_wp2
          obtain ⟨htc, hall⟩ := TC.next (q := nq) (x := x1) (i := i) T1.out T2.out T3.out T4.out T5.out HPN.out (by omega)
          exact ⟨⟨hall.size, fun k o hk hh _ => hall.obj hh fun h => by omega⟩, hall.mono fun k _ h he => by
            rcases he with he | he | he <;> first | omega | (have := hvo k he; omega), htc⟩
        · gi_wp2
          obtain ⟨htc, hall⟩ := TC.next (q := nq) (x := x1) (i := i) T1.out T2.out T3.out T4.out T5.out HPN.out (by omega)
          exact ⟨⟨hall.size, fun k o hk hh _ => hall.obj hh fun h => by omega⟩, hall.mono fun k _ h he => by
            rcases he with he | he | he <;> first | omega | (have := hvo k he; omega), htc⟩
        · gi_wp2
          obtain ⟨htc, hall⟩ := TC.next (q := nq) (x := x1) (i := i) T1.out T2.out T3.out T4.out T5.out HPN.out (by omega)
          exact ⟨⟨hall.size, fun k o hk hh _ => hall.obj hh fun h => by omega⟩, hall.mono fun k _ h he => by
            rcases he with he | he | he <;> first | omega | (have := hvo k he; omega), htc⟩
      case done =>
        rintro _ xs W rfl ⟨v', _, hdr, _⟩ ⟨t1, t2, t3, t4, t5⟩ hK
        have hxl : xs.length = l.length := by
          have h := hdr.len
          rw [HPT.out.length_eq, taskL_length] at h
          simpa using h
        rw [hxl] at t5
        have hcd : W.cell? ⟨w.heap.size, 0, none⟩ = some (.slice A l.length c) := by simp [World.cell?, t2]
        have hcn : W.cell? ⟨wr.heap.size + 1, 0, none⟩ = some (.int .i64 (l.length : Nat)) := by simp [World.cell?, t5]
        have hcr : W.cell? ⟨w.heap.size + 1, 0, none⟩ = some (.bool false) := by simp [World.cell?, t3]
        have hfr : W.frozen? ⟨w.heap.size + 1, 0, none⟩ = false := by simp [World.frozen?, t3]
        have hF1 := Lib.hid (set_other hK 0 (.bool true) (by omega : w5.heap.size ≠ w.heap.size + 1))
        have hR1 := Lib.hid (set_blk (cs := [_]) t3 0 (.bool true))
        have hRB : Below w.heap.size w (W.setCell ⟨w.heap.size + 1, 0, none⟩ (.bool true)) := below_set t1 (by omega) _ _
        clear t1 t2 t3 t4 t5 hdr hxl hK HI0 HH5 BX HH HOK HB hbr5
        go_wp2_with fail
        exact ⟨by simp, .inl ⟨_, _, rfl, run_takeDeferred hF1.out, _, results_boxed rfl rfl _ _ true rfl (by
          have h := (World.putObj_heap_other (o := .deferred none) (by omega : w.heap.size + 1 ≠ w5.heap.size)).trans hR1.out
          simp only [World.cell?, h]
          rfl), rfl, below_putObj7 hRB (by omega) _⟩⟩
      case stop =>
        rintro _ c pre W _ _ h _
        exact h.elim
    | succ k1 =>
      obtain ⟨i, hi⟩ : ∃ i, l.length - (k1 + 1) = i := ⟨_, rfl⟩
      have hi2 : l.length - k1 = i + 1 := by omega
      have HI := Lib.hid hi2
      have hlt : i < l.length := by omega
      rw [hi] at HPM ⊢
      obtain ⟨ad, rfl, hca⟩ := (KA.out.below HB.out).2 i hlt
      have hx8 := HU.out i
      obtain ⟨x, hx⟩ : ∃ x, l.getD i 0 = x := ⟨_, rfl⟩
      rw [hx] at hca hx8
      have hwx : IntKind.i64.wrap x = x := by rw [i64_w]; exact wrap64_id _ (by omega)
      have htk : tl.take (i + 1) = tl.take i ++ [(x, (i : Int))] := by rw [← HTL.out, taskL_take l i hlt, hx]
      have HTK := Lib.hid htk
      have hLl : L.length ≤ 1000000 := by rw [HPM.out.length_eq]; simp; omega
      have hwz := HB.out.size
      clear hi hi2 hx htk
      go_wp2_with fail
      refine (PushT_calls b b v L x (i : Int) _ HH.out HOK.out hLl).mono ?_
      rintro e w5 ⟨he, v', L', ⟨hH2, hok2, hon2, hfr2⟩, hpm2⟩
      subst he
      have hnb : ∀ k, HpBT v b k → w.heap.size + 1 < k := fun k h => h.elim (fun h => by omega) fun h => by have := (HH.out.2.1.lt k h).1; omega
      have H2 := Lib.hid hH2
      have O2 := Lib.hid hok2
      have P2 := Lib.hid hpm2
      have B2 := Lib.hid (HB.out.trans (hon2.below hwz fun k hk h => by have := hnb k h; omega))
      have D2 := Lib.hid (hon2.obj HD.out fun h => by have := hnb _ h; omega)
      have R2 := Lib.hid (hon2.obj HR.out fun h => by have := hnb _ h; omega)
      clear hH2 hok2 hon2 hfr2 hpm2 hnb
      go_wp2_with fail
      go_roundg k1
      case measure => omega
      case rel =>
        refine ⟨v', L', by omega, by rw [HI.out]; rfl, H2.out, O2.out, ?_, B2.out, D2.out, R2.out⟩
        rw [HI.out, HTK.out]
        exact P2.out.trans ((HPM.out.cons (x, (i : Int))).trans (List.perm_append_comm (l₁ := [(x, (i : Int))]) (l₂ := tl.take i)))
end Go.Proofs.Ytacgkoclammggaa
