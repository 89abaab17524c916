/-
  The statement RngRows: the iterator of draws, and the walk. (under way)
-/
import Derived.Test.YtmcbgogeemnjnaaRng2
import Derived.Test.YtmcbgogeemnjnaaOpen
import Derived.Test.YtmcbgogeemnjnaaRange
import Derived.Shelf.Abstract
namespace Go.Proofs.Ytmcbgogeemnjnaa
open Go.RowKit
set_option linter.unusedVariables false
set_option linter.unusedSimpArgs false
attribute [local go_sem] Oper.semAt_some

/-- The blocks of E lie as they lay. -/
def Keep (E : Nat → Prop) (W W' : World) : Prop := Only (fun k => ¬ E k) W W'
theorem Keep.putObj {E : Nat → Prop} {n : Nat} (hE : ∀ k, E k → k < n) (W : World) (l : Nat) (o' : Obj) (hl : n ≤ l) : Keep E W (W.putObj l o') :=
  ⟨rfl, rfl, rfl, by simp, fun k _ hk => World.putObj_heap_other fun e => hk fun h => by have := hE k h; omega⟩
def told (s : Nat → Int) (n : Nat) : List Int := (List.range n).map s
theorem told_length (s : Nat → Int) (n : Nat) : (told s n).length = n := by simp [told]
theorem told_succ (s : Nat → Int) (n : Nat) : told s (n + 1) = told s n ++ [s n] := by simp [told, List.range_succ]
def E31 (lo hi bn bs : Nat) (k : Nat) : Prop := Within lo hi k ∨ k = bn ∨ k = bs
theorem draws_iter (m lo hi bn bs : Nat) (T : TypeId) (a : Addr) (s : Nat → Int) (n0 : Int) (n : Nat) (w : World) (hnn : n0.toNat = n) (hn : n ≤ 1000)
    (hat : At w lo hi (.iface T (.pointer (some a))) s 0) (hT : DrwT T) (hbn : w.cell? ⟨bn, 0, none⟩ = some (.int .i64 n0)) (hbs : w.cell? ⟨bs, 0, none⟩ = some (.iface T (.pointer (some a)))) (hlo : hi ≤ bn ∧ hi ≤ bs) :
    IterD Fence.wide m Try.prog 31 #[.pointer (some ⟨bn, 0, none⟩), .pointer (some ⟨bs, 0, none⟩)] (fun x : Int => #[.int .u64 x]) (Within lo hi) (Keep (E31 lo hi bn bs)) (fun _ _ _ _ => True)
      (fun xs W => xs = told s n ∧ At W lo hi (.iface T (.pointer (some a))) s n) (fun xs W => ∃ k, k ≤ n ∧ 1 ≤ k ∧ xs = told s k ∧ At W lo hi (.iface T (.pointer (some a))) s k) n w := by
  intro l J Jx W hW hJ hJx hY h0
  have HNN := Lib.hid hnn
  clear hnn
  refine callsIn_of_wp Try.func31 rfl trivial ?_ rfl
  simp only [Try.ntmps31, List.size_toArray, List.length_cons, List.length_nil, Nat.reduceAdd, Nat.reduceSub, Array.replicate_succ, Array.replicate_zero, List.push_toArray, List.append_toArray, List.nil_append, List.cons_append]
  have hbnW : W.cell? ⟨bn, 0, none⟩ = some (.int .i64 n0) := cell_below hW hbn (World.block_lt_of_cell? _ _ hbn)
  have hbsW : W.cell? ⟨bs, 0, none⟩ = some (.iface T (.pointer (some a))) := cell_below hW hbs (World.block_lt_of_cell? _ _ hbs)
  have hatW : At W lo hi (.iface T (.pointer (some a))) s 0 := At.only hat (S := fun _ => False) (Only.of_below hW) fun _ _ _ h => h
  have HATW := Lib.hid hatW
  have mt := hT.meth a
  have ct := hT.call (.pointer (some a))
  have HJ := Lib.hid hJ
  have HJX := Lib.hid hJx
  have HY := Lib.hid hY
  have H0 := Lib.hid h0
  clear hat hatW hJ hJx hY h0
  gi_wp2
  gi_loopw [4] (fun v4 wr => ∃ k : Nat, k ≤ n ∧ v4 = .int .i64 k ∧ J (told s k) wr ∧ At wr lo hi (.iface T (.pointer (some a))) s k ∧ wr.cell? ⟨bn, 0, none⟩ = some (.int .i64 n0) ∧ wr.cell? ⟨bs, 0, none⟩ = some (.iface T (.pointer (some a)))) (fun v4 _ => n - (intOf v4).toNat)
  case atStart => exact ⟨0, Nat.zero_le _, rfl, H0.out, HATW.out, hbnW, hbsW⟩
  case round =>
    obtain ⟨k, hk, rfl, hJs, hat, hn1, hs1⟩ := hrel
    have HAT := Lib.hid hat
    have HJS := Lib.hid hJs
    clear hat hJs hbnW hbsW
    by_cases hlt0 : (k : Int) < n0
    · have hlt : k < n := by have := HNN.out; omega
      have hlt0' : decide ((k : Int) < n0) = true := decide_eq_true hlt0
      obtain ⟨q, hq⟩ : ∃ q, s k = q := ⟨_, rfl⟩
      have HQ := Lib.hid hq
      clear hq
      gi_wp2
      refine ⟨trivial, (fun h => by cases h), (callsIn_wide.2 (HAT.out.draw_calls (by omega))).mono ?_⟩
      rintro e w2 ⟨he, hat, ho⟩
      rw [HQ.out] at he
      subst he
      have HAT2 := Lib.hid hat
      have hn2 : w2.cell? ⟨bn, 0, none⟩ = some (.int .i64 n0) := ho.cell hn1 (fun h => by have : bn < hi := h.2; omega)
      have hs2 : w2.cell? ⟨bs, 0, none⟩ = some (.iface T (.pointer (some a))) := ho.cell hs1 (fun h => by have : bs < hi := h.2; omega)
      obtain ⟨fn, tmps, assign, body, hy, hR⟩ := HY.out (told s k) q wr w2 HJS.out ho (by rw [told_length]; exact hlt) trivial
      have HRD := Lib.hid hR
      have htold : told s k ++ [q] = told s (k + 1) := by rw [told_succ, HQ.out]
      have HTD := Lib.hid htold
      clear hat ho hR htold
      gi_wp2
      refine ⟨(fun h => by cases h), HRD.out.mono ?_⟩
      rintro e W3 (⟨rfl, hJ3, hk3⟩ | ⟨rfl, hJx3, hk3⟩)
      · have HJ3 := Lib.hid hJ3
        have HAT3 := Lib.hid (HAT2.out.only hk3 fun b h1 h2 hne => hne (.inl ⟨h1, h2⟩))
        have hn3 : W3.cell? ⟨bn, 0, none⟩ = some (.int .i64 n0) := Only.cell hk3 hn2 (fun h => h (.inr (.inl rfl)))
        have hs3 : W3.cell? ⟨bs, 0, none⟩ = some (.iface T (.pointer (some a))) := Only.cell hk3 hs2 (fun h => h (.inr (.inr rfl)))
        clear hJ3 hk3
        gi_wp2
        go_roundw
        case rel => exact ⟨k + 1, by omega, by simp, by rw [← HTD.out]; exact HJ3.out, HAT3.out, hn3, hs3⟩
        case measure => simp [intOf]; omega
      · have HJ3 := Lib.hid hJx3
        have HAT3 := Lib.hid (HAT2.out.only hk3 fun b h1 h2 hne => hne (.inl ⟨h1, h2⟩))
        clear hJx3 hk3
        gi_wp2
        refine bodyPost_ret (results_none rfl _ _ _) rfl ?_
        exact ⟨⟨_, rfl⟩, .inr ⟨_, ⟨k + 1, by omega, by omega, rfl, HAT3.out⟩, by rw [← HTD.out]; exact HJ3.out⟩⟩
    · obtain rfl : k = n := by have := HNN.out; omega
      have hlt0' : decide ((k : Int) < n0) = false := decide_eq_false hlt0
      gi_wp2
      go_end0
      exact ⟨⟨_, rfl⟩, .inl ⟨_, ⟨rfl, HAT.out⟩, HJS.out⟩⟩

/-! ### the walk -/
theorem below_putObj {B b : Nat} {w W : World} (h : Below B w W) (hb : B ≤ b) (o : Obj) : Below B w (W.putObj b o) := h.trans ⟨rfl, rfl, rfl, by simp, fun k hk => World.putObj_heap_other (by omega)⟩
theorem _root_.Go.Proofs.Ytmcbgogeemnjnaa.Step.only {D : Nat → Prop} {B : Nat} {w w' : World} (h : Step D B w w') : Only (fun k => D k ∨ B ≤ k) w w' := Only.mono h fun _ _ h => h.imp (fun h => h) fun h => by omega
/-- Between two rounds: pre has come; b0: stop's box, b1: the other source's, b2: seen's, b3: same's. -/
def RC (w : World) (s : Nat → Int) (T2 : TypeId) (a2 : Addr) (lo hi b0 b1 b2 b3 : Nat) (stop : Int) (pre : List Int) (W : World) : Prop :=
  Below w.heap.size w W ∧ W.heap[b0]? = some (.cells #[.int .i64 stop] 3 (0, 0)) ∧ W.heap[b1]? = some (.cells #[.iface T2 (.pointer (some a2))] 28 (0, 0)) ∧ W.heap[b2]? = some (.cells #[.int .i64 pre.length] 3 (0, 0)) ∧
    ∃ k sm, k ≤ pre.length ∧ At W lo hi (.iface T2 (.pointer (some a2))) s k ∧ W.heap[b3]? = some (.cells #[.bool sm] 4 (0, 0)) ∧ (sm = true → k = pre.length) ∧ sm = decide (pre = told s pre.length)
theorem RC.next {w W W' : World} {s : Nat → Int} {T2 : TypeId} {a2 : Addr} {lo hi b0 b1 b2 b3 : Nat} {stop : Int} {pre : List Int} {x : Int} {k : Nat} {sm : Bool} (h : RC w s T2 a2 lo hi b0 b1 b2 b3 stop pre W) (ho : Only (fun b => b = b2 ∨ b = b3 ∨ Within lo hi b) W W')
    (hb : b0 < lo ∧ hi ≤ b1 ∧ b1 < b2 ∧ b2 < b3 ∧ w.heap.size ≤ b0 ∧ lo ≤ hi) (hseen : W'.heap[b2]? = some (.cells #[.int .i64 (pre.length + 1 : Nat)] 3 (0, 0))) (hk : k ≤ pre.length + 1) (hat : At W' lo hi (.iface T2 (.pointer (some a2))) s k)
    (hsame : W'.heap[b3]? = some (.cells #[.bool sm] 4 (0, 0))) (h1 : sm = true → k = pre.length + 1) (h2 : sm = decide (pre ++ [x] = told s (pre.length + 1))) : RC w s T2 a2 lo hi b0 b1 b2 b3 stop (pre ++ [x]) W' := by
  obtain ⟨r1, r2, r3, r4, _⟩ := h
  have hl : (pre ++ [x]).length = pre.length + 1 := by simp
  refine ⟨r1.trans (ho.below r1.size fun b hb' h => ?_), ho.obj r2 fun h => ?_, ho.obj r3 fun h => ?_, by rw [hl]; exact hseen, k, sm, by rw [hl]; exact hk, hat, hsame, by rw [hl]; exact h1, by rw [hl]; exact h2⟩
  · rcases h with h | h | h
    · omega
    · omega
    · have := h.1; omega
  · rcases h with h | h | h
    · omega
    · omega
    · have := h.1; omega
  · rcases h with h | h | h
    · omega
    · omega
    · have := h.2; omega
theorem told_cut {s : Nat → Int} {pre : List Int} {x : Int} (h : pre ++ [x] = told s (pre.length + 1)) : pre = told s pre.length ∧ x = s pre.length := by
  rw [told_succ] at h
  have := List.append_inj' h rfl
  exact ⟨this.1, by simpa using this.2⟩
theorem RC.step {w : World} {s : Nat → Int} {T2 : TypeId} {a2 : Addr} {lo hi b0 b1 b2 b3 : Nat} {stop : Int} {pre : List Int} {A B : World} {D : Nat → Prop} {n : Nat} (h : RC w s T2 a2 lo hi b0 b1 b2 b3 stop pre A) (hs : Step D n A B)
    (hD : ∀ k, D k → w.heap.size ≤ k ∧ (k < lo ∨ hi ≤ k) ∧ k ≠ b0 ∧ k ≠ b1 ∧ k ≠ b2 ∧ k ≠ b3) (hn : w.heap.size ≤ n ∧ hi ≤ n ∧ b0 < n ∧ b1 < n ∧ b2 < n ∧ b3 < n) : RC w s T2 a2 lo hi b0 b1 b2 b3 stop pre B := by
  obtain ⟨h1, h2, h3, h4, k, sm, h5, h6, h7, h8, h9⟩ := h
  have ho := hs.only
  refine ⟨h1.trans (ho.below h1.size fun k hk h => ?_), ho.obj h2 fun h => ?_, ho.obj h3 fun h => ?_, ho.obj h4 fun h => ?_, k, sm, h5, h6.only ho fun b hb1 hb2 h => ?_, ho.obj h7 fun h => ?_, h8, h9⟩
  · rcases h with h | h
    · have := (hD _ h).1; omega
    · omega
  · rcases h with h | h
    · exact (hD _ h).2.2.1 rfl
    · omega
  · rcases h with h | h
    · exact (hD _ h).2.2.2.1 rfl
    · omega
  · rcases h with h | h
    · exact (hD _ h).2.2.2.2.1 rfl
    · omega
  · rcases h with h | h
    · have := (hD _ h).2.1; omega
    · omega
  · rcases h with h | h
    · exact (hD _ h).2.2.2.2.2 rfl
    · omega
theorem Draws_calls (T : TypeId) (p : Value) (n : Int) (w : World) :
    Calls Try.prog 15 #[.iface T p, .int .i64 n] w fun e w' => e = .returned (.func (.func 31) #[] #[.pointer (some ⟨w.heap.size + 1, 0, none⟩), .pointer (some ⟨w.heap.size, 0, none⟩)]) ∧ w' = (w.alloc (.cells #[.iface T p] 28)).alloc (.cells #[.int .i64 n] 3) := by
  go_enter Try.func15, Try.ntmps15
  go_wp2_with fail
  go_ret
  exact ⟨rfl, rfl⟩
set_option maxHeartbeats 6400000 in
set_option maxRecDepth 100000 in
theorem RngRows_law (mixed : Bool) (st : Int) (A : Option Addr) (c : Nat) (l : List Int) (n stop : Int) (w : World) (hst : (Lit.int .u64 st).wf = true) (ha : Rd w .u64 A l) (hu : ∀ n ∈ l, (Lit.int .u64 n).wf = true) (na : A = none → l = [] ∧ c = 0) (la : l.length * 8 ≤ 140737488351232) (hn : (Lit.int .i64 n).wf = true) (hsp : (Lit.int .i64 stop).wf = true) :
    Calls Try.prog 3 #[.bool mixed, .int .u64 st, .slice A l.length c, .int .i64 n, .int .i64 stop] w fun e w' => e = .returned (.bool true) ∧ Below w.heap.size w w' := by
  have HU := Lib.hid (u64_of_wf hu)
  have KA := Lib.hid ha
  replace hn := i64_of_wf hn
  replace hsp := i64_of_wf hsp
  obtain ⟨hn1, hn2⟩ := hn
  obtain ⟨hsp1, hsp2⟩ := hsp
  clear hu ha na hst
  by_cases h0 : 200 < l.length
  · have h0' : decide (200 < (l.length : Int)) = true := by simp; omega
    have k_w : Below w.heap.size w w := Below.refl _ _
    go_enter Try.func3, Try.ntmps3
    go_wp2_with fail
    obtain ⟨w1, hw⟩ : ∃ W, w.alloc (.cells #[.int .i64 stop] 3) = W := ⟨_, rfl⟩
    rw [hw]
    have hbn : Below w.heap.size w w1 := by rw [← hw]; exact below_alloc1 (Below.refl _ _) _
    have b3 : w1.heap[w.heap.size]? = some (.cells #[.int .i64 stop] 3 (0, 0)) := by rw [← hw]; exact heap_alloc_new _ _
    clear hw
    have k_w_w1 : Below w.heap.size w w1 := k_w.trans (hbn.mono k_w.size)
    clear k_w
    clear hbn
    have b2 := b3
    clear b3
    have h_t0 : w1.cell? ⟨w.heap.size, 0, none⟩ = some (.int .i64 stop) := by simp [World.cell?, b2]
    have b_t := Lib.hid b2
    clear b2
    go_wp2_with fail
    refine (awake_calls _  ).mono ?_
    rintro e w2 ⟨he, hbn⟩
    subst he
    have k_w_w2 : Below w.heap.size w w2 := k_w_w1.trans (hbn.mono k_w_w1.size)
    clear k_w_w1
    have b2 := obj_below hbn b_t.out (obj_lt b_t.out)
    clear b_t h_t0
    have h_t0 : w2.cell? ⟨w.heap.size, 0, none⟩ = some (.int .i64 stop) := by simp [World.cell?, b2]
    have b_t := Lib.hid b2
    clear b2
    clear hbn
    go_wp2_with fail
    go_ret
    exact ⟨rfl, k_w_w2⟩
  have h0' : decide (200 < (l.length : Int)) = false := by simp; omega
  replace h0 : l.length ≤ 200 := by omega
  by_cases h1 : 300 < n
  · have h1' : decide (300 < n) = true := by simp; omega
    have k_w : Below w.heap.size w w := Below.refl _ _
    go_enter Try.func3, Try.ntmps3
    go_wp2_with fail
    obtain ⟨w1, hw⟩ : ∃ W, w.alloc (.cells #[.int .i64 stop] 3) = W := ⟨_, rfl⟩
    rw [hw]
    have hbn : Below w.heap.size w w1 := by rw [← hw]; exact below_alloc1 (Below.refl _ _) _
    have b3 : w1.heap[w.heap.size]? = some (.cells #[.int .i64 stop] 3 (0, 0)) := by rw [← hw]; exact heap_alloc_new _ _
    clear hw
    have k_w_w1 : Below w.heap.size w w1 := k_w.trans (hbn.mono k_w.size)
    clear k_w
    clear hbn
    have b2 := b3
    clear b3
    have h_t0 : w1.cell? ⟨w.heap.size, 0, none⟩ = some (.int .i64 stop) := by simp [World.cell?, b2]
    have b_t := Lib.hid b2
    clear b2
    go_wp2_with fail
    refine (awake_calls _  ).mono ?_
    rintro e w2 ⟨he, hbn⟩
    subst he
    have k_w_w2 : Below w.heap.size w w2 := k_w_w1.trans (hbn.mono k_w_w1.size)
    clear k_w_w1
    have b2 := obj_below hbn b_t.out (obj_lt b_t.out)
    clear b_t h_t0
    have h_t0 : w2.cell? ⟨w.heap.size, 0, none⟩ = some (.int .i64 stop) := by simp [World.cell?, b2]
    have b_t := Lib.hid b2
    clear b2
    clear hbn
    go_wp2_with fail
    go_ret
    exact ⟨rfl, k_w_w2⟩
  have h1' : decide (300 < n) = false := by simp; omega
  replace h1 : n ≤ 300 := by omega
  have k_w : Below w.heap.size w w := Below.refl _ _
  refine (callsIn_wide (n := 5)).1 ?_
  refine callsIn_of_wp_marks Try.func3 rfl trivial ?_ rfl
  refine wpIn_wide.2 ?_
  simp only [Try.ntmps3, List.size_toArray, List.length_cons, List.length_nil, Nat.reduceAdd, Nat.reduceSub, Array.replicate_succ, Array.replicate_zero, List.push_toArray, List.append_toArray, List.nil_append, List.cons_append]
  go_wp2_with fail
  obtain ⟨w1, hw⟩ : ∃ W, w.alloc (.cells #[.int .i64 stop] 3) = W := ⟨_, rfl⟩
  rw [hw]
  have hbn : Below w.heap.size w w1 := by rw [← hw]; exact below_alloc1 (Below.refl _ _) _
  have b3 : w1.heap[w.heap.size]? = some (.cells #[.int .i64 stop] 3 (0, 0)) := by rw [← hw]; exact heap_alloc_new _ _
  clear hw
  have k_w_w1 : Below w.heap.size w w1 := k_w.trans (hbn.mono k_w.size)
  clear k_w
  clear hbn
  have b2 := b3
  clear b3
  have h_t0 : w1.cell? ⟨w.heap.size, 0, none⟩ = some (.int .i64 stop) := by simp [World.cell?, b2]
  have b_t := Lib.hid b2
  clear b2
  go_wp2_with fail
  refine (awake_calls _  ).mono ?_
  rintro e w2 ⟨he, hbn⟩
  subst he
  have k_w_w2 : Below w.heap.size w w2 := k_w_w1.trans (hbn.mono k_w_w1.size)
  clear k_w_w1
  have b2 := obj_below hbn b_t.out (obj_lt b_t.out)
  clear b_t h_t0
  have h_t0 : w2.cell? ⟨w.heap.size, 0, none⟩ = some (.int .i64 stop) := by simp [World.cell?, b2]
  have b_t := Lib.hid b2
  clear b2
  clear hbn
  have hww2 : w.heap.size + 1 ≤ w2.heap.size := obj_lt b_t.out
  have hif := iface_nil
  have hz0 := k_w_w2.size
  go_wp2_with fail
  refine (of_calls mixed st A c l _ (KA.out.below k_w_w2) HU.out (by omega)).mono ?_
  rintro e w3 ⟨v, he, hs, hbn, T, p, rfl⟩
  subst he
  have hz23 := hbn.size
  have HS := Lib.hid hs
  clear hs
  have k_w_w3 : Below w.heap.size w w3 := k_w_w2.trans (hbn.mono k_w_w2.size)
  clear k_w_w2
  have b2 := obj_below hbn b_t.out (obj_lt b_t.out)
  clear b_t h_t0
  have h_t0 : w3.cell? ⟨w.heap.size, 0, none⟩ = some (.int .i64 stop) := by simp [World.cell?, b2]
  have b_t := Lib.hid b2
  clear b2
  clear hbn
  go_wp2_with fail
  refine (Count_calls T p w2.heap.size w3.heap.size _ _ HS.out (Nat.le_refl _) hz23).mono ?_
  rintro e w4 ⟨he, hs, hbn⟩
  subst he
  have hz34 := hbn.size
  have HC := Lib.hid (At.of_ctr hs)
  clear hs HS
  have k_w_w4 : Below w.heap.size w w4 := k_w_w3.trans (hbn.mono k_w_w3.size)
  clear k_w_w3
  have b2 := obj_below hbn b_t.out (obj_lt b_t.out)
  clear b_t h_t0
  have h_t0 : w4.cell? ⟨w.heap.size, 0, none⟩ = some (.int .i64 stop) := by simp [World.cell?, b2]
  have b_t := Lib.hid b2
  clear b2
  clear hbn
  have z_w_w4 := k_w_w4.size
  have k_w4 : Below w4.heap.size w4 w4 := Below.refl _ _
  go_wp2_with fail
  refine (of_calls mixed st A c l _ (KA.out.below k_w_w4) HU.out (by omega)).mono ?_
  rintro e w5 ⟨v, he, hs, hbn, T2, p2, rfl⟩
  subst he
  have hz45 := hbn.size
  have HO := Lib.hid (At.of_src hs)
  clear hs
  obtain ⟨T2, a2, e1, hT2⟩ := HO.out.shape
  injection e1 with e1 e2
  subst e1 e2
  have k_w_w5 : Below w.heap.size w w5 := k_w_w4.trans (hbn.mono k_w_w4.size)
  have k_w4_w5 : Below w4.heap.size w4 w5 := k_w4.trans (hbn.mono k_w4.size)
  clear k_w_w4
  clear k_w4
  have b2 := obj_below hbn b_t.out (obj_lt b_t.out)
  clear b_t h_t0
  have h_t0 : w5.cell? ⟨w.heap.size, 0, none⟩ = some (.int .i64 stop) := by simp [World.cell?, b2]
  have b_t := Lib.hid b2
  clear b2
  clear hbn
  have z_w_w5 := k_w_w5.size
  have z_w4_w5 := k_w4_w5.size
  have k_w5 : Below w5.heap.size w5 w5 := Below.refl _ _
  go_wp2_with fail
  obtain ⟨w6, hw⟩ : ∃ W, ((w5.alloc (.cells #[.iface T2 (.pointer (some a2))] 28)).alloc (.cells #[.int .i64 0] 3)).alloc (.cells #[.bool true] 4) = W := ⟨_, rfl⟩
  rw [hw]
  have bo := heap_alloc_new w5 (.cells #[.iface T2 (.pointer (some a2))] 28)
  have bn := heap_alloc_new (w5.alloc (.cells #[.iface T2 (.pointer (some a2))] 28)) (.cells #[.int .i64 0] 3)
  have bt := heap_alloc_new ((w5.alloc (.cells #[.iface T2 (.pointer (some a2))] 28)).alloc (.cells #[.int .i64 0] 3)) (.cells #[.bool true] 4)
  rw [World.size_alloc] at bn
  rw [World.size_alloc, World.size_alloc] at bt
  have hz6 : w6.heap.size = w5.heap.size + 1 + 1 + 1 := by rw [← hw]; simp
  have hbn : Below w5.heap.size w5 w6 := by rw [← hw]; exact below_alloc1 (below_alloc1 (below_alloc1 (Below.refl _ _) _) _) _
  replace bo : w6.heap[w5.heap.size]? = some (.cells #[.iface T2 (.pointer (some a2))] 28 (0, 0)) := by rw [← hw]; exact obj_below ((((Below.refl _ _).alloc (Nat.le_refl _) _).alloc (by simp) _)) bo (obj_lt bo)
  replace bn : w6.heap[w5.heap.size + 1]? = some (.cells #[.int .i64 0] 3 (0, 0)) := by rw [← hw]; exact obj_below ((Below.refl _ _).alloc (Nat.le_refl _) _) bn (obj_lt bn)
  replace bt : w6.heap[w5.heap.size + 1 + 1]? = some (.cells #[.bool true] 4 (0, 0)) := by rw [← hw]; exact bt
  clear hw
  have k_w_w6 : Below w.heap.size w w6 := k_w_w5.trans (hbn.mono k_w_w5.size)
  have k_w4_w6 : Below w4.heap.size w4 w6 := k_w4_w5.trans (hbn.mono k_w4_w5.size)
  have k_w5_w6 : Below w5.heap.size w5 w6 := k_w5.trans (hbn.mono k_w5.size)
  clear k_w_w5
  clear k_w4_w5
  clear k_w5
  have b2 := obj_below hbn b_t.out (obj_lt b_t.out)
  clear b_t h_t0
  have h_t0 : w6.cell? ⟨w.heap.size, 0, none⟩ = some (.int .i64 stop) := by simp [World.cell?, b2]
  have b_t := Lib.hid b2
  clear b2
  clear hbn
  have BO := Lib.hid bo
  have BN := Lib.hid bn
  have BT := Lib.hid bt
  have HZ6 := Lib.hid hz6
  clear bo bn bt hz6
  refine (Draws_calls _ _ n _).mono ?_
  rintro e w7 ⟨he, hw7⟩
  subst he
  have hbn : Below w6.heap.size w6 w7 := by rw [hw7]; exact below_alloc1 (below_alloc1 (Below.refl _ _) _) _
  have bs : w7.heap[w6.heap.size]? = some (.cells #[.iface 25 (.pointer (some ⟨w3.heap.size, 0, none⟩))] 28 (0, 0)) := by
    rw [hw7]; exact obj_below ((Below.refl _ _).alloc (Nat.le_refl _) _) (heap_alloc_new w6 _) (obj_lt (heap_alloc_new w6 _))
  have bm : w7.heap[w6.heap.size + 1]? = some (.cells #[.int .i64 n] 3 (0, 0)) := by
    rw [hw7]; have h := heap_alloc_new (w6.alloc (.cells #[.iface 25 (.pointer (some ⟨w3.heap.size, 0, none⟩))] 28)) (.cells #[.int .i64 n] 3); rwa [World.size_alloc] at h
  have hz7 : w7.heap.size = w6.heap.size + 1 + 1 := by rw [hw7]; simp
  have HZ7 := Lib.hid hz7
  replace BO := Lib.hid (obj_below hbn BO.out (obj_lt BO.out))
  replace BN := Lib.hid (obj_below hbn BN.out (obj_lt BN.out))
  replace BT := Lib.hid (obj_below hbn BT.out (obj_lt BT.out))
  have BS := Lib.hid bs
  have BM := Lib.hid bm
  clear hw7 bs bm hz7
  have k_w_w7 : Below w.heap.size w w7 := k_w_w6.trans (hbn.mono k_w_w6.size)
  have k_w4_w7 : Below w4.heap.size w4 w7 := k_w4_w6.trans (hbn.mono k_w4_w6.size)
  have k_w5_w7 : Below w5.heap.size w5 w7 := k_w5_w6.trans (hbn.mono k_w5_w6.size)
  clear k_w_w6
  clear k_w4_w6
  clear k_w5_w6
  have b2 := obj_below hbn b_t.out (obj_lt b_t.out)
  clear b_t h_t0
  have h_t0 : w7.cell? ⟨w.heap.size, 0, none⟩ = some (.int .i64 stop) := by simp [World.cell?, b2]
  have b_t := Lib.hid b2
  clear b2
  clear hbn
  go_wp2_with fail
  have hz5 := HZ6.out
  have hz6 := HZ7.out
  have hcm : w7.cell? ⟨w6.heap.size + 1, 0, none⟩ = some (.int .i64 n) := by simp [World.cell?, BM.out]
  have hcs : w7.cell? ⟨w6.heap.size, 0, none⟩ = some (.iface 25 (.pointer (some ⟨w3.heap.size, 0, none⟩))) := by simp [World.cell?, BS.out]
  have HC7 := HC.out.below k_w4_w7 (Nat.le_refl _)
  have HO7 := HO.out.below k_w5_w7 (Nat.le_refl _)
  have hRC0 : RC w (ofS mixed st l) T2 a2 w4.heap.size w5.heap.size w.heap.size w5.heap.size (w5.heap.size + 1) (w5.heap.size + 1 + 1) stop [] w7 := ⟨k_w_w7, b_t.out, BO.out, BN.out, 0, true, Nat.le_refl _, HO7, BT.out, fun _ => rfl, by simp [told]⟩
  have HRC0 := Lib.hid hRC0
  have hDs : ∀ k, Within w2.heap.size w4.heap.size k → w.heap.size ≤ k ∧ (k < w4.heap.size ∨ w5.heap.size ≤ k) ∧ k ≠ w.heap.size ∧ k ≠ w5.heap.size ∧ k ≠ w5.heap.size + 1 ∧ k ≠ w5.heap.size + 1 + 1 := fun k h => by have h1 := h.1; have h2 := h.2; omega
  have hnn : w.heap.size ≤ w7.heap.size ∧ w5.heap.size ≤ w7.heap.size ∧ w.heap.size < w7.heap.size ∧ w5.heap.size < w7.heap.size ∧ w5.heap.size + 1 < w7.heap.size ∧ w5.heap.size + 1 + 1 < w7.heap.size := by omega
  have hE : ∀ k, E31 w2.heap.size w4.heap.size (w6.heap.size + 1) w6.heap.size k → k < w7.heap.size := fun k h => by rcases h with h | h | h <;> first | omega | (have := h.2; omega)
  clear hRC0
  refine (wpIn_wide (n := 5)).1 ?_
  refine wpIn_rangeD rfl (by omega) (gf := 31) (lb := #[.pointer (some ⟨w6.heap.size + 1, 0, none⟩), .pointer (some ⟨w6.heap.size, 0, none⟩)]) rfl trivial (enters_of Try.func31 (by kernel_rfl) rfl)
    (draws_iter _ w2.heap.size w4.heap.size (w6.heap.size + 1) w6.heap.size 25 ⟨w3.heap.size, 0, none⟩ (ofS mixed st l) n n.toNat w7 rfl (by omega) HC7 drwT_counter hcm hcs (by omega))
    (fun k h => by have := h.2; omega) (fun h k => Only.trans h k) (fun W l o o' hl _ _ => Keep.putObj hE W l o' hl) (fun _ _ _ _ _ _ _ => trivial)
    (fun xs A B h hk => ⟨h.1, h.2.only hk fun b h1 h2 hne => hne (.inl ⟨h1, h2⟩)⟩) (fun xs A B h hk => by obtain ⟨k, h1, h2, h3, h4⟩ := h; exact ⟨k, h1, h2, h3, h4.only hk fun b h1 h2 hne => hne (.inl ⟨h1, h2⟩)⟩) (fun _ => rfl)
    (fun pre W => RC w (ofS mixed st l) T2 a2 w4.heap.size w5.heap.size w.heap.size w5.heap.size (w5.heap.size + 1) (w5.heap.size + 1 + 1) stop pre W ∧ ∀ j : Nat, 1 ≤ j → j ≤ pre.length → (j : Int) ≠ stop)
    (fun c pre W => c = .exit 0 ∧ RC w (ofS mixed st l) T2 a2 w4.heap.size w5.heap.size w.heap.size w5.heap.size (w5.heap.size + 1) (w5.heap.size + 1 + 1) stop pre W ∧ (pre.length : Int) = stop)
    (fun pre A B h hs => ⟨h.1.step hs hDs hnn, h.2⟩) (fun c pre A B h hs => ⟨h.1, h.2.1.step hs hDs hnn, h.2.2⟩) ⟨HRC0.out, fun j h1 h2 => by simp at h2; omega⟩ ?a1 ?assign ?body ?done ?stop
  case assign =>
    intro l x W K hK
    gi_wp2
    exact hK
  case body =>
    rintro l2 pre x _ W ⟨hrc, hj⟩ hlen hsz _ _ _
    have HRC := Lib.hid hrc
    obtain ⟨r1, r2, r3, r4, k, sm, r5, r6, r7, r8, r9⟩ := hrc
    have hm : pre.length < 300 := by omega
    have hc0 : W.cell? ⟨w.heap.size, 0, none⟩ = some (.int .i64 stop) := by simp [World.cell?, r2]
    have hc1 : W.cell? ⟨w5.heap.size, 0, none⟩ = some (.iface T2 (.pointer (some a2))) := by simp [World.cell?, r3]
    have hc2 : W.cell? ⟨w5.heap.size + 1, 0, none⟩ = some (.int .i64 pre.length) := by simp [World.cell?, r4]
    have hf2 : W.frozen? ⟨w5.heap.size + 1, 0, none⟩ = false := by simp [World.frozen?, r4]
    have hc3 : W.cell? ⟨w5.heap.size + 1 + 1, 0, none⟩ = some (.bool sm) := by simp [World.cell?, r7]
    have hf3 : W.frozen? ⟨w5.heap.size + 1 + 1, 0, none⟩ = false := by simp [World.frozen?, r7]
    have R2 := Lib.hid r2
    have R4 := Lib.hid r4
    have R6 := Lib.hid r6
    have R7 := Lib.hid r7
    have mt2 := hT2.meth a2
    have ct2 := hT2.call (.pointer (some a2))
    have hwr : IntKind.i64.wrap ((pre.length : Int) + 1) = ((pre.length + 1 : Nat) : Int) := by rw [i64_w]; exact wrap64_id _ (by omega)
    have R8 := Lib.hid r8
    have R9 := Lib.hid r9
    have HJ := Lib.hid hj
    clear r1 r2 r3 r4 r6 r7 r8 r9 hj hz5 hz6
    by_cases hst : ((pre.length + 1 : Nat) : Int) = stop
    · have hst' : (((pre.length : Int) + 1) == stop) = true := by rw [← hst]; simp
      have HST := Lib.hid hst
      clear hst
      cases sm with
      | true =>
        obtain ⟨q, hq⟩ : ∃ q, ofS mixed st l pre.length = q := ⟨_, rfl⟩
        have HQ := Lib.hid hq
        clear hq
        by_cases hxq : x = q
        · have hxq' : (x == q) = true := by simp [hxq]
          have HXQ := Lib.hid hxq
          clear hxq
          have hatA := R6.out.only (only_set W (w5.heap.size + 1) 0 (.int .i64 ((pre.length : Int) + 1))) (fun b h1 h2 h => by omega)
          obtain ⟨rfl⟩ : k = pre.length := R8.out rfl
          have HATA := Lib.hid hatA
          clear hatA
          gi_wp2
          refine ⟨trivial, (CallsIn.inRound l2 (callsIn_wide.2 (HATA.out.draw_calls (by omega)))).mono ?_⟩
          rintro e WB ⟨he, hat, hob⟩
          rw [HQ.out] at he
          subst he
          have HATB := Lib.hid hat
          have HOB := Lib.hid hob
          have B0B := Lib.hid (hob.obj (set_other R2.out 0 (.int .i64 ((pre.length : Int) + 1)) (by omega : w.heap.size ≠ w5.heap.size + 1)) (fun h => by have := h.1; omega))
          have B2B := Lib.hid (hob.obj (set_blk (cs := [_]) R4.out 0 (.int .i64 ((pre.length : Int) + 1))) (fun h => by have := h.2; omega))
          have B3B := Lib.hid (hob.obj (set_other R7.out 0 (.int .i64 ((pre.length : Int) + 1)) (by omega : w5.heap.size + 1 + 1 ≠ w5.heap.size + 1)) (fun h => by have := h.2; omega))
          have hc0B : WB.cell? ⟨w.heap.size, 0, none⟩ = some (.int .i64 stop) := by simp [World.cell?, B0B.out]
          have hc2B : WB.cell? ⟨w5.heap.size + 1, 0, none⟩ = some (.int .i64 ((pre.length : Int) + 1)) := by have h := cell_blk (cs := [_]) B2B.out 0; exact h
          have hc3B : WB.cell? ⟨w5.heap.size + 1 + 1, 0, none⟩ = some (.bool true) := by simp [World.cell?, B3B.out]
          have hf3B : WB.frozen? ⟨w5.heap.size + 1 + 1, 0, none⟩ = false := by simp [World.frozen?, B3B.out]
          clear hat hob
          gi_wp2
          obtain ⟨WE, hWE⟩ : ∃ WE, WB.setCell ⟨w5.heap.size + 1 + 1, 0, none⟩ (.bool true) = WE := ⟨_, rfl⟩
          rw [hWE]
          have hall : Only (fun b => b = w5.heap.size + 1 ∨ b = w5.heap.size + 1 + 1 ∨ Within w4.heap.size w5.heap.size b) W WE := by
            rw [← hWE]
            exact (((only_set W (w5.heap.size + 1) 0 (.int .i64 ((pre.length : Int) + 1))).mono fun b _ h => .inl h).trans (HOB.out.mono fun b _ h => .inr (.inr h))).trans ((only_set WB (w5.heap.size + 1 + 1) 0 (.bool true)).mono fun b _ h => .inr (.inl h))
          have hrcn := HRC.out.next (x := x) (sm := true) (k := pre.length + 1) hall (by omega) (by rw [← hWE]; exact set_other B2B.out 0 _ (by omega)) (Nat.le_refl _) (by rw [← hWE]; exact HATB.out.only (only_set _ _ _ _) fun b h1 h2 h => by omega) (by rw [← hWE]; exact set_blk (cs := [_]) B3B.out 0 _) (fun _ => rfl) (by
            have h9 : pre = told (ofS mixed st l) pre.length := of_decide_eq_true R9.out.symm
            refine (decide_eq_true ?_).symm
            rw [told_succ, ← h9, HQ.out, HXQ.out])
          have hkf : KeepsFrom w7.heap.size W WE := ⟨hall.size, fun k o hk hh _ => hall.obj hh fun h => by rcases h with h | h | h <;> first | omega | (have := h.2; omega)⟩
          have hke : Keep (E31 w2.heap.size w4.heap.size (w6.heap.size + 1) w6.heap.size) W WE := hall.mono fun k _ h he => by
            have hz5 := HZ6.out
            rcases h with h | h | h <;> rcases he with he | he | he <;> first | omega | (have h1 := he.2; have h2 := h.1; omega) | (have h1 := he.2; omega) | (have h1 := h.2; omega)
          exact ⟨hkf, hke, rfl, hrcn, by rw [← HST.out]; simp⟩
        · have hxq' : (x == q) = false := by simp [hxq]
          have HXQ := Lib.hid hxq
          clear hxq
          have hatA := R6.out.only (only_set W (w5.heap.size + 1) 0 (.int .i64 ((pre.length : Int) + 1))) (fun b h1 h2 h => by omega)
          obtain ⟨rfl⟩ : k = pre.length := R8.out rfl
          have HATA := Lib.hid hatA
          clear hatA
          gi_wp2
          refine ⟨trivial, (CallsIn.inRound l2 (callsIn_wide.2 (HATA.out.draw_calls (by omega)))).mono ?_⟩
          rintro e WB ⟨he, hat, hob⟩
          rw [HQ.out] at he
          subst he
          have HATB := Lib.hid hat
          have HOB := Lib.hid hob
          have B0B := Lib.hid (hob.obj (set_other R2.out 0 (.int .i64 ((pre.length : Int) + 1)) (by omega : w.heap.size ≠ w5.heap.size + 1)) (fun h => by have := h.1; omega))
          have B2B := Lib.hid (hob.obj (set_blk (cs := [_]) R4.out 0 (.int .i64 ((pre.length : Int) + 1))) (fun h => by have := h.2; omega))
          have B3B := Lib.hid (hob.obj (set_other R7.out 0 (.int .i64 ((pre.length : Int) + 1)) (by omega : w5.heap.size + 1 + 1 ≠ w5.heap.size + 1)) (fun h => by have := h.2; omega))
          have hc0B : WB.cell? ⟨w.heap.size, 0, none⟩ = some (.int .i64 stop) := by simp [World.cell?, B0B.out]
          have hc2B : WB.cell? ⟨w5.heap.size + 1, 0, none⟩ = some (.int .i64 ((pre.length : Int) + 1)) := by have h := cell_blk (cs := [_]) B2B.out 0; exact h
          have hc3B : WB.cell? ⟨w5.heap.size + 1 + 1, 0, none⟩ = some (.bool true) := by simp [World.cell?, B3B.out]
          have hf3B : WB.frozen? ⟨w5.heap.size + 1 + 1, 0, none⟩ = false := by simp [World.frozen?, B3B.out]
          clear hat hob
          gi_wp2
          obtain ⟨WE, hWE⟩ : ∃ WE, WB.setCell ⟨w5.heap.size + 1 + 1, 0, none⟩ (.bool false) = WE := ⟨_, rfl⟩
          rw [hWE]
          have hall : Only (fun b => b = w5.heap.size + 1 ∨ b = w5.heap.size + 1 + 1 ∨ Within w4.heap.size w5.heap.size b) W WE := by
            rw [← hWE]
            exact (((only_set W (w5.heap.size + 1) 0 (.int .i64 ((pre.length : Int) + 1))).mono fun b _ h => .inl h).trans (HOB.out.mono fun b _ h => .inr (.inr h))).trans ((only_set WB (w5.heap.size + 1 + 1) 0 (.bool false)).mono fun b _ h => .inr (.inl h))
          have hrcn := HRC.out.next (x := x) (sm := false) (k := pre.length + 1) hall (by omega) (by rw [← hWE]; exact set_other B2B.out 0 _ (by omega)) (Nat.le_refl _) (by rw [← hWE]; exact HATB.out.only (only_set _ _ _ _) fun b h1 h2 h => by omega) (by rw [← hWE]; exact set_blk (cs := [_]) B3B.out 0 _) (fun _ => rfl) (by
            have h9 : pre = told (ofS mixed st l) pre.length := of_decide_eq_true R9.out.symm
            refine (decide_eq_false fun h => ?_).symm
            have h2 := (told_cut h).2
            rw [HQ.out] at h2
            exact HXQ.out h2)
          have hkf : KeepsFrom w7.heap.size W WE := ⟨hall.size, fun k o hk hh _ => hall.obj hh fun h => by rcases h with h | h | h <;> first | omega | (have := h.2; omega)⟩
          have hke : Keep (E31 w2.heap.size w4.heap.size (w6.heap.size + 1) w6.heap.size) W WE := hall.mono fun k _ h he => by
            have hz5 := HZ6.out
            rcases h with h | h | h <;> rcases he with he | he | he <;> first | omega | (have h1 := he.2; have h2 := h.1; omega) | (have h1 := he.2; omega) | (have h1 := h.2; omega)
          exact ⟨hkf, hke, rfl, hrcn, by rw [← HST.out]; simp⟩
      | false =>
        gi_wp2
        all_goals (refine ⟨fun _ _ => trivial, ?_⟩; gi_wp2)
        all_goals
          obtain ⟨WB, hWB⟩ : ∃ WB, W.setCell ⟨w5.heap.size + 1, 0, none⟩ (.int .i64 ((pre.length : Int) + 1)) = WB := ⟨_, rfl⟩
          rw [hWB]
          obtain ⟨WE, hWE⟩ : ∃ WE, WB.setCell ⟨w5.heap.size + 1 + 1, 0, none⟩ (.bool false) = WE := ⟨_, rfl⟩
          rw [hWE]
          have hall : Only (fun b => b = w5.heap.size + 1 ∨ b = w5.heap.size + 1 + 1 ∨ Within w4.heap.size w5.heap.size b) W WE := by
            rw [← hWE, ← hWB]
            exact ((only_set W (w5.heap.size + 1) 0 (.int .i64 ((pre.length : Int) + 1))).mono fun b _ h => .inl h).trans ((only_set _ (w5.heap.size + 1 + 1) 0 (.bool false)).mono fun b _ h => .inr (.inl h))
          have hrcn := HRC.out.next (x := x) (sm := false) (k := k) hall (by omega) (by rw [← hWE, ← hWB]; exact set_other (set_blk (cs := [_]) R4.out 0 (.int .i64 ((pre.length : Int) + 1))) 0 _ (by omega)) (by omega) (by rw [← hWE, ← hWB]; exact (R6.out.only (only_set _ _ _ _) fun b h1 h2 h => by omega).only (only_set _ _ _ _) fun b h1 h2 h => by omega) (by rw [← hWE, ← hWB]; exact set_blk (cs := [_]) (set_other R7.out 0 _ (by omega)) 0 _) (fun h => by cases h) (by
            refine (decide_eq_false fun h => ?_).symm
            exact of_decide_eq_false R9.out.symm (told_cut h).1)
          have hkf : KeepsFrom w7.heap.size W WE := ⟨hall.size, fun k o hk hh _ => hall.obj hh fun h => by rcases h with h | h | h <;> first | omega | (have := h.2; omega)⟩
          have hke : Keep (E31 w2.heap.size w4.heap.size (w6.heap.size + 1) w6.heap.size) W WE := hall.mono fun k _ h he => by
            have hz5 := HZ6.out
            rcases h with h | h | h <;> rcases he with he | he | he <;> first | omega | (have h1 := he.2; have h2 := h.1; omega) | (have h1 := he.2; omega) | (have h1 := h.2; omega)
          exact ⟨hkf, hke, rfl, hrcn, by rw [← HST.out]; simp⟩
    · have hst' : (((pre.length : Int) + 1) == stop) = false := by simp; omega
      have HST := Lib.hid hst
      clear hst
      cases sm with
      | true =>
        obtain ⟨q, hq⟩ : ∃ q, ofS mixed st l pre.length = q := ⟨_, rfl⟩
        have HQ := Lib.hid hq
        clear hq
        by_cases hxq : x = q
        · have hxq' : (x == q) = true := by simp [hxq]
          have HXQ := Lib.hid hxq
          clear hxq
          have hatA := R6.out.only (only_set W (w5.heap.size + 1) 0 (.int .i64 ((pre.length : Int) + 1))) (fun b h1 h2 h => by omega)
          obtain ⟨rfl⟩ : k = pre.length := R8.out rfl
          have HATA := Lib.hid hatA
          clear hatA
          gi_wp2
          refine ⟨trivial, (CallsIn.inRound l2 (callsIn_wide.2 (HATA.out.draw_calls (by omega)))).mono ?_⟩
          rintro e WB ⟨he, hat, hob⟩
          rw [HQ.out] at he
          subst he
          have HATB := Lib.hid hat
          have HOB := Lib.hid hob
          have B0B := Lib.hid (hob.obj (set_other R2.out 0 (.int .i64 ((pre.length : Int) + 1)) (by omega : w.heap.size ≠ w5.heap.size + 1)) (fun h => by have := h.1; omega))
          have B2B := Lib.hid (hob.obj (set_blk (cs := [_]) R4.out 0 (.int .i64 ((pre.length : Int) + 1))) (fun h => by have := h.2; omega))
          have B3B := Lib.hid (hob.obj (set_other R7.out 0 (.int .i64 ((pre.length : Int) + 1)) (by omega : w5.heap.size + 1 + 1 ≠ w5.heap.size + 1)) (fun h => by have := h.2; omega))
          have hc0B : WB.cell? ⟨w.heap.size, 0, none⟩ = some (.int .i64 stop) := by simp [World.cell?, B0B.out]
          have hc2B : WB.cell? ⟨w5.heap.size + 1, 0, none⟩ = some (.int .i64 ((pre.length : Int) + 1)) := by have h := cell_blk (cs := [_]) B2B.out 0; exact h
          have hc3B : WB.cell? ⟨w5.heap.size + 1 + 1, 0, none⟩ = some (.bool true) := by simp [World.cell?, B3B.out]
          have hf3B : WB.frozen? ⟨w5.heap.size + 1 + 1, 0, none⟩ = false := by simp [World.frozen?, B3B.out]
          clear hat hob
          gi_wp2
          obtain ⟨WE, hWE⟩ : ∃ WE, WB.setCell ⟨w5.heap.size + 1 + 1, 0, none⟩ (.bool true) = WE := ⟨_, rfl⟩
          rw [hWE]
          have hall : Only (fun b => b = w5.heap.size + 1 ∨ b = w5.heap.size + 1 + 1 ∨ Within w4.heap.size w5.heap.size b) W WE := by
            rw [← hWE]
            exact (((only_set W (w5.heap.size + 1) 0 (.int .i64 ((pre.length : Int) + 1))).mono fun b _ h => .inl h).trans (HOB.out.mono fun b _ h => .inr (.inr h))).trans ((only_set WB (w5.heap.size + 1 + 1) 0 (.bool true)).mono fun b _ h => .inr (.inl h))
          have hrcn := HRC.out.next (x := x) (sm := true) (k := pre.length + 1) hall (by omega) (by rw [← hWE]; exact set_other B2B.out 0 _ (by omega)) (Nat.le_refl _) (by rw [← hWE]; exact HATB.out.only (only_set _ _ _ _) fun b h1 h2 h => by omega) (by rw [← hWE]; exact set_blk (cs := [_]) B3B.out 0 _) (fun _ => rfl) (by
            have h9 : pre = told (ofS mixed st l) pre.length := of_decide_eq_true R9.out.symm
            refine (decide_eq_true ?_).symm
            rw [told_succ, ← h9, HQ.out, HXQ.out])
          have hkf : KeepsFrom w7.heap.size W WE := ⟨hall.size, fun k o hk hh _ => hall.obj hh fun h => by rcases h with h | h | h <;> first | omega | (have := h.2; omega)⟩
          have hke : Keep (E31 w2.heap.size w4.heap.size (w6.heap.size + 1) w6.heap.size) W WE := hall.mono fun k _ h he => by
            have hz5 := HZ6.out
            rcases h with h | h | h <;> rcases he with he | he | he <;> first | omega | (have h1 := he.2; have h2 := h.1; omega) | (have h1 := he.2; omega) | (have h1 := h.2; omega)
          refine ⟨hkf, hke, hrcn, fun j h1 h2 => ?_⟩
          by_cases hjm : j = pre.length + 1
          · rw [hjm]; exact HST.out
          · exact HJ.out j h1 (by simp at h2; omega)
        · have hxq' : (x == q) = false := by simp [hxq]
          have HXQ := Lib.hid hxq
          clear hxq
          have hatA := R6.out.only (only_set W (w5.heap.size + 1) 0 (.int .i64 ((pre.length : Int) + 1))) (fun b h1 h2 h => by omega)
          obtain ⟨rfl⟩ : k = pre.length := R8.out rfl
          have HATA := Lib.hid hatA
          clear hatA
          gi_wp2
          refine ⟨trivial, (CallsIn.inRound l2 (callsIn_wide.2 (HATA.out.draw_calls (by omega)))).mono ?_⟩
          rintro e WB ⟨he, hat, hob⟩
          rw [HQ.out] at he
          subst he
          have HATB := Lib.hid hat
          have HOB := Lib.hid hob
          have B0B := Lib.hid (hob.obj (set_other R2.out 0 (.int .i64 ((pre.length : Int) + 1)) (by omega : w.heap.size ≠ w5.heap.size + 1)) (fun h => by have := h.1; omega))
          have B2B := Lib.hid (hob.obj (set_blk (cs := [_]) R4.out 0 (.int .i64 ((pre.length : Int) + 1))) (fun h => by have := h.2; omega))
          have B3B := Lib.hid (hob.obj (set_other R7.out 0 (.int .i64 ((pre.length : Int) + 1)) (by omega : w5.heap.size + 1 + 1 ≠ w5.heap.size + 1)) (fun h => by have := h.2; omega))
          have hc0B : WB.cell? ⟨w.heap.size, 0, none⟩ = some (.int .i64 stop) := by simp [World.cell?, B0B.out]
          have hc2B : WB.cell? ⟨w5.heap.size + 1, 0, none⟩ = some (.int .i64 ((pre.length : Int) + 1)) := by have h := cell_blk (cs := [_]) B2B.out 0; exact h
          have hc3B : WB.cell? ⟨w5.heap.size + 1 + 1, 0, none⟩ = some (.bool true) := by simp [World.cell?, B3B.out]
          have hf3B : WB.frozen? ⟨w5.heap.size + 1 + 1, 0, none⟩ = false := by simp [World.frozen?, B3B.out]
          clear hat hob
          gi_wp2
          obtain ⟨WE, hWE⟩ : ∃ WE, WB.setCell ⟨w5.heap.size + 1 + 1, 0, none⟩ (.bool false) = WE := ⟨_, rfl⟩
          rw [hWE]
          have hall : Only (fun b => b = w5.heap.size + 1 ∨ b = w5.heap.size + 1 + 1 ∨ Within w4.heap.size w5.heap.size b) W WE := by
            rw [← hWE]
            exact (((only_set W (w5.heap.size + 1) 0 (.int .i64 ((pre.length : Int) + 1))).mono fun b _ h => .inl h).trans (HOB.out.mono fun b _ h => .inr (.inr h))).trans ((only_set WB (w5.heap.size + 1 + 1) 0 (.bool false)).mono fun b _ h => .inr (.inl h))
          have hrcn := HRC.out.next (x := x) (sm := false) (k := pre.length + 1) hall (by omega) (by rw [← hWE]; exact set_other B2B.out 0 _ (by omega)) (Nat.le_refl _) (by rw [← hWE]; exact HATB.out.only (only_set _ _ _ _) fun b h1 h2 h => by omega) (by rw [← hWE]; exact set_blk (cs := [_]) B3B.out 0 _) (fun _ => rfl) (by
            have h9 : pre = told (ofS mixed st l) pre.length := of_decide_eq_true R9.out.symm
            refine (decide_eq_false fun h => ?_).symm
            have h2 := (told_cut h).2
            rw [HQ.out] at h2
            exact HXQ.out h2)
          have hkf : KeepsFrom w7.heap.size W WE := ⟨hall.size, fun k o hk hh _ => hall.obj hh fun h => by rcases h with h | h | h <;> first | omega | (have := h.2; omega)⟩
          have hke : Keep (E31 w2.heap.size w4.heap.size (w6.heap.size + 1) w6.heap.size) W WE := hall.mono fun k _ h he => by
            have hz5 := HZ6.out
            rcases h with h | h | h <;> rcases he with he | he | he <;> first | omega | (have h1 := he.2; have h2 := h.1; omega) | (have h1 := he.2; omega) | (have h1 := h.2; omega)
          refine ⟨hkf, hke, hrcn, fun j h1 h2 => ?_⟩
          by_cases hjm : j = pre.length + 1
          · rw [hjm]; exact HST.out
          · exact HJ.out j h1 (by simp at h2; omega)
      | false =>
        gi_wp2
        all_goals (refine ⟨fun _ _ => trivial, ?_⟩; gi_wp2)
        all_goals
          obtain ⟨WB, hWB⟩ : ∃ WB, W.setCell ⟨w5.heap.size + 1, 0, none⟩ (.int .i64 ((pre.length : Int) + 1)) = WB := ⟨_, rfl⟩
          rw [hWB]
          obtain ⟨WE, hWE⟩ : ∃ WE, WB.setCell ⟨w5.heap.size + 1 + 1, 0, none⟩ (.bool false) = WE := ⟨_, rfl⟩
          rw [hWE]
          have hall : Only (fun b => b = w5.heap.size + 1 ∨ b = w5.heap.size + 1 + 1 ∨ Within w4.heap.size w5.heap.size b) W WE := by
            rw [← hWE, ← hWB]
            exact ((only_set W (w5.heap.size + 1) 0 (.int .i64 ((pre.length : Int) + 1))).mono fun b _ h => .inl h).trans ((only_set _ (w5.heap.size + 1 + 1) 0 (.bool false)).mono fun b _ h => .inr (.inl h))
          have hrcn := HRC.out.next (x := x) (sm := false) (k := k) hall (by omega) (by rw [← hWE, ← hWB]; exact set_other (set_blk (cs := [_]) R4.out 0 (.int .i64 ((pre.length : Int) + 1))) 0 _ (by omega)) (by omega) (by rw [← hWE, ← hWB]; exact (R6.out.only (only_set _ _ _ _) fun b h1 h2 h => by omega).only (only_set _ _ _ _) fun b h1 h2 h => by omega) (by rw [← hWE, ← hWB]; exact set_blk (cs := [_]) (set_other R7.out 0 _ (by omega)) 0 _) (fun h => by cases h) (by
            refine (decide_eq_false fun h => ?_).symm
            exact of_decide_eq_false R9.out.symm (told_cut h).1)
          have hkf : KeepsFrom w7.heap.size W WE := ⟨hall.size, fun k o hk hh _ => hall.obj hh fun h => by rcases h with h | h | h <;> first | omega | (have := h.2; omega)⟩
          have hke : Keep (E31 w2.heap.size w4.heap.size (w6.heap.size + 1) w6.heap.size) W WE := hall.mono fun k _ h he => by
            have hz5 := HZ6.out
            rcases h with h | h | h <;> rcases he with he | he | he <;> first | omega | (have h1 := he.2; have h2 := h.1; omega) | (have h1 := he.2; omega) | (have h1 := h.2; omega)
          refine ⟨hkf, hke, hrcn, fun j h1 h2 => ?_⟩
          by_cases hjm : j = pre.length + 1
          · rw [hjm]; exact HST.out
          · exact HJ.out j h1 (by simp at h2; omega)
  case done =>
    rintro _ xs W rfl ⟨hxs, hat⟩ ⟨hrc, hj⟩ hK
    obtain ⟨r1, r2, r3, r4, k, sm, r5, r6, r7, r8, r9⟩ := hrc
    have hxl : xs.length = n.toNat := by rw [hxs, told_length]
    have hsm : sm = true := by rw [r9, hxl]; exact decide_eq_true hxs
    subst hsm
    rw [hxl] at r4 hj
    obtain ⟨N, hN⟩ : ∃ N, n.toNat = N := ⟨_, rfl⟩
    rw [hN] at r4 hj hat
    have hN3 : N ≤ 300 := by omega
    have hNn : (n < 0 ∧ N = 0) ∨ (0 ≤ n ∧ n = (N : Int)) := by omega
    have hjs : ¬ (0 < stop ∧ stop < (N : Int)) := fun h => hj stop.toNat (by omega) (by omega) (by omega)
    have HAT := Lib.hid hat
    have HB := Lib.hid r1
    have hc0 : W.cell? ⟨w.heap.size, 0, none⟩ = some (.int .i64 stop) := by simp [World.cell?, r2]
    have hc2 : W.cell? ⟨w5.heap.size + 1, 0, none⟩ = some (.int .i64 N) := by simp [World.cell?, r4]
    have hc3 : W.cell? ⟨w5.heap.size + 1 + 1, 0, none⟩ = some (.bool true) := by simp [World.cell?, r7]
    have HK := Lib.hid hK
    clear r1 r2 r3 r4 r5 r6 r7 r8 r9 hj hxs hxl hN hat hK hz5 hz6
    rcases hNn with ⟨hn0, rfl⟩ | ⟨hn0, rfl⟩
    · have hp2 : decide (stop < 0) = false ∨ decide (0 < stop) = false := by by_cases h : 0 < stop <;> simp <;> omega
      by_cases hp : 0 < stop
      · have hp1 : decide (0 < stop) = true := decide_eq_true hp
        have hp3 : decide (stop < 0) = false := decide_eq_false (by omega)
        clear hp2
        go_wp2_with fail
        refine (HAT.out.drawn_calls).mono ?_
        rintro e _ ⟨he, rfl⟩
        subst he
        go_wp2_with fail
        exact ⟨by simp, .inl ⟨_, _, rfl, run_takeDeferred HK.out, _, results_tmp rfl _ _ _, rfl, below_putObj HB.out (by omega) _⟩⟩
      · have hp1 : decide (0 < stop) = false := decide_eq_false hp
        clear hp2
        go_wp2_with fail
        refine (HAT.out.drawn_calls).mono ?_
        rintro e _ ⟨he, rfl⟩
        subst he
        go_wp2_with fail
        exact ⟨by simp, .inl ⟨_, _, rfl, run_takeDeferred HK.out, _, results_tmp rfl _ _ _, rfl, below_putObj HB.out (by omega) _⟩⟩
    · by_cases hp : 0 < stop
      · have hp1 : decide (0 < stop) = true := decide_eq_true hp
        have hp3 : decide (stop < (N : Int)) = false := decide_eq_false (by omega)
        go_wp2_with fail
        refine (HAT.out.drawn_calls).mono ?_
        rintro e _ ⟨he, rfl⟩
        subst he
        go_wp2_with fail
        exact ⟨by simp, .inl ⟨_, _, rfl, run_takeDeferred HK.out, _, results_tmp rfl _ _ _, rfl, below_putObj HB.out (by omega) _⟩⟩
      · have hp1 : decide (0 < stop) = false := decide_eq_false hp
        go_wp2_with fail
        refine (HAT.out.drawn_calls).mono ?_
        rintro e _ ⟨he, rfl⟩
        subst he
        go_wp2_with fail
        exact ⟨by simp, .inl ⟨_, _, rfl, run_takeDeferred HK.out, _, results_tmp rfl _ _ _, rfl, below_putObj HB.out (by omega) _⟩⟩
  case stop =>
    rintro _ cc pre W rfl ⟨k, hk1, hk2, hpre, hat⟩ ⟨hcc, hrc, hst⟩ hK
    subst hcc
    refine wpIn_wide.2 ?_
    obtain ⟨r1, r2, r3, r4, k', sm, r5, r6, r7, r8, r9⟩ := hrc
    have hpl : pre.length = k := by rw [hpre, told_length]
    have hsm : sm = true := by rw [r9, hpl]; exact decide_eq_true hpre
    subst hsm
    rw [hpl] at r4 hst
    have hk0 : n.toNat = n.toNat := rfl
    obtain ⟨hn0, hkn⟩ : 0 ≤ n ∧ (k : Int) ≤ n := by omega
    subst hst
    have HAT := Lib.hid hat
    have HB := Lib.hid r1
    have hc0 : W.cell? ⟨w.heap.size, 0, none⟩ = some (.int .i64 k) := by simp [World.cell?, r2]
    have hc2 : W.cell? ⟨w5.heap.size + 1, 0, none⟩ = some (.int .i64 k) := by simp [World.cell?, r4]
    have hc3 : W.cell? ⟨w5.heap.size + 1 + 1, 0, none⟩ = some (.bool true) := by simp [World.cell?, r7]
    have HK := Lib.hid hK
    clear r1 r2 r3 r4 r5 r6 r7 r8 r9 hpre hpl hat hK hz5 hz6 hk0
    have hp1 : decide (0 < k) = true := decide_eq_true (by omega)
    by_cases hp : (k : Int) < n
    · have hp3 : decide ((k : Int) < n) = true := decide_eq_true hp
      go_wp2_with fail
      refine (HAT.out.drawn_calls).mono ?_
      rintro e _ ⟨he, rfl⟩
      subst he
      go_wp2_with fail
      exact ⟨by simp, .inl ⟨_, _, rfl, run_takeDeferred HK.out, _, results_tmp rfl _ _ _, rfl, below_putObj HB.out (by omega) _⟩⟩
    · obtain rfl : n = (k : Int) := by omega
      have hp3 : decide ((k : Int) < (k : Int)) = false := decide_eq_false (by omega)
      go_wp2_with fail
      refine (HAT.out.drawn_calls).mono ?_
      rintro e _ ⟨he, rfl⟩
      subst he
      go_wp2_with fail
      exact ⟨by simp, .inl ⟨_, _, rfl, run_takeDeferred HK.out, _, results_tmp rfl _ _ _, rfl, below_putObj HB.out (by omega) _⟩⟩
end Go.Proofs.Ytmcbgogeemnjnaa
