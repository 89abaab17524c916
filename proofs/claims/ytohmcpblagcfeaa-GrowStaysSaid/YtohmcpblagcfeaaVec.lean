
/-
  What package vec and the reference of layer 3 answer: the contract of each of their functions, for slices of any length that are read as int32. Condition of each: the arguments read as the named lists.
-/
import Derived.Test.YtohmcpblagcfeaaLib
namespace Go.Proofs.Ytohmcpblagcfeaa
open Go.RowKit
set_option linter.unusedVariables false
set_option maxRecDepth 100000
set_option linter.unusedSimpArgs false
attribute [local go_sem] min2_run

/-! ### the plain functions -/
def dotN (xs ys : List Int) : Nat → Int := sumTo fun i => xs.getD i 0 * ys.getD i 0
def dot (xs ys : List Int) : Int := dotN xs ys (min xs.length ys.length)
def farN (xs ys : List Int) : Nat → Int := sumTo fun i => (xs.getD i 0 - ys.getD i 0) * (xs.getD i 0 - ys.getD i 0)
def far (xs ys : List Int) : Int := farN xs ys (min xs.length ys.length)
def lessN (xs ys : List Int) (n : Nat) : List Int := (List.range n).map fun i => wrap32 (xs.getD i 0 - ys.getD i 0)
def less (xs ys : List Int) : List Int := lessN xs ys (min xs.length ys.length)

theorem lessN_length (xs ys : List Int) (n : Nat) : (lessN xs ys n).length = n := by simp [lessN]
theorem lessN_succ (xs ys : List Int) (i : Nat) : lessN xs ys (i + 1) = lessN xs ys i ++ [wrap32 (xs.getD i 0 - ys.getD i 0)] := by simp [lessN, List.range_succ]
theorem dotN_succ (xs ys : List Int) (k : Nat) : dotN xs ys (k + 1) = dotN xs ys k + xs.getD k 0 * ys.getD k 0 := rfl
theorem farN_succ (xs ys : List Int) (k : Nat) : farN xs ys (k + 1) = farN xs ys k + (xs.getD k 0 - ys.getD k 0) * (xs.getD k 0 - ys.getD k 0) := rfl
theorem dot_step (d x y : Int) (hx : -2147483648 ≤ x ∧ x ≤ 2147483647) (hy : -2147483648 ≤ y ∧ y ≤ 2147483647) : wrap64 (wrap64 d + wrap64 (x * y)) = wrap64 (d + x * y) := by
  rw [wrap64_add, wrap64_add']

theorem far_step (d x y : Int) : wrap64 (wrap64 d + wrap64 ((x - y) * (x - y))) = wrap64 (d + (x - y) * (x - y)) := by
  rw [wrap64_add, wrap64_add']

theorem both_calls (A B : Option Addr) (n m c d : Nat) (w : World) : Calls Try.prog 73 #[.slice A n c, .slice B m d] w fun e w' => e = .returned (.int .i64 (min n m : Nat)) ∧ w = w' := by
  by_cases h : m < n
  · rw [Nat.min_eq_right (by omega)]
    go_enter Try.func73, Try.ntmps73
    go_wp2
    go_ret
    exact ⟨rfl, rfl⟩
  · rw [Nat.min_eq_left (by omega)]
    go_enter Try.func73, Try.ntmps73
    go_wp2
    go_ret
    exact ⟨rfl, rfl⟩

set_option maxHeartbeats 400000 in
theorem Dot_calls (A B : Option Addr) (c d : Nat) (xs ys : List Int) (w : World) (ha : Rd w .i32 A xs) (hb : Rd w .i32 B ys) (ra : R32 xs) (rb : R32 ys) :
    Calls Try.prog 68 #[.slice A xs.length c, .slice B ys.length d] w fun e w' => e = .returned (.int .i64 (wrap64 (dot xs ys))) ∧ ∃ n, w' = w.drewN n := by
  obtain ⟨n, hn⟩ : ∃ n, min xs.length ys.length = n := ⟨_, rfl⟩
  unfold dot
  rw [hn]
  have hna : n ≤ xs.length := by omega
  have hnb : n ≤ ys.length := by omega
  have hl := ha.1
  go_enter Try.func68, Try.ntmps68
  go_wp2_with (go_at_call 73; refine (both_calls _ _ _ _ _ _ _).mono ?_; rintro e w' ⟨rfl, rfl⟩; rw [hn])
  clear hn
  go_loopg [5, 10] n (fun kq v5 v10 w' => kq ≤ n ∧ v5 = .int .i64 (wrap64 (dotN xs ys (n - kq))) ∧ v10 = .int .i64 ((n - kq : Nat)) ∧ ∃ j, w' = w.drewN j)
  case atStart => exact ⟨Nat.le_refl _, by simp [dotN, sumTo, wrap64], by simp, 0, rfl⟩
  case round =>
    obtain ⟨hk, rfl, rfl, j, rfl⟩ := hrel
    cases gk with
    | zero =>
      simp only [Nat.sub_zero]
      go_wp2
      go_ret
      exact ⟨rfl, j, rfl⟩
    | succ k1 =>
      obtain ⟨i, hi⟩ : ∃ i, n - (k1 + 1) = i := ⟨_, rfl⟩
      have hi2 : n - k1 = i + 1 := by omega
      have hin : i < n := by omega
      rw [hi]
      obtain ⟨ad, rfl, hca⟩ := ha.2 i (by omega)
      obtain ⟨bd, rfl, hcb⟩ := hb.2 i (by omega)
      have hxl : i < xs.length := by omega
      have hyl : i < ys.length := by omega
      have hst := dot_step (dotN xs ys i) _ _ (ra.at i) (rb.at i)
      have h1 := ra.at i
      have h2 := rb.at i
      rw [← dotN_succ, ← hi2] at hst
      generalize xs.getD i 0 = x at *
      generalize ys.getD i 0 = y at *
      have HS := Lib.hid hst
      have HI := Lib.hid hi2
      clear hst hi2 hi
      go_wp2
      go_quiet (fail)
      go_wp2
      go_roundg k1
      case rel => exact ⟨by omega, by rw [HS.out], by rw [HI.out]; rfl, _, rfl⟩
      case measure => omega

/-! ### equality of lists -/
theorem ext32 {xs ys : List Int} (hl : xs.length = ys.length) (h : ∀ j, j < xs.length → xs.getD j 0 = ys.getD j 0) : xs = ys := by
  refine List.ext_getElem hl fun i h1 h2 => ?_
  have := h i h1
  simpa [List.getD, h1, h2] using this
theorem eq_false_of_len {xs ys : List Int} (hl : ¬ xs.length = ys.length) : decide (xs = ys) = false := decide_eq_false fun e => hl (by rw [e])
theorem eq_false_of_get {xs ys : List Int} {i : Nat} (hl : ¬ xs.getD i 0 = ys.getD i 0) : decide (xs = ys) = false := decide_eq_false fun e => hl (by rw [e])

theorem info_i32 : (Try.prog.info? 21).map (fun i => (i.zero, i.size, i.bytes)) = some (some (.int .i32 0), 1, 4) := by kernel_rfl
set_option maxHeartbeats 400000 in
theorem refLess_calls (A B : Option Addr) (c d : Nat) (xs ys : List Int) (w : World) (ha : Rd w .i32 A xs) (hb : Rd w .i32 B ys) (hs : xs.length ≤ 1000000) :
    Calls Try.prog 70 #[.slice A xs.length c, .slice B ys.length d] w fun e w' => ∃ v, e = .returned v ∧ Own w' w.heap.size 21 .i32 v (less xs ys) ∧ Below w.heap.size w w' := by
  obtain ⟨n, hn⟩ : ∃ n, min xs.length ys.length = n := ⟨_, rfl⟩
  unfold less
  rw [hn]
  have hna : n ≤ xs.length := by omega
  have hnb : n ≤ ys.length := by omega
  have hl := ha.1
  have HN := Lib.hid hn
  clear hn
  go_enter Try.func70, Try.ntmps70
  go_wp2
  go_loopg [5, 6] n (fun kq v5 v6 w' => kq ≤ n ∧ v6 = .int .i64 ((n - kq : Nat)) ∧ Own w' w.heap.size 21 .i32 v5 (lessN xs ys (n - kq)) ∧ Below w.heap.size w w')
  case atStart => exact ⟨Nat.le_refl _, by simp, by rw [Nat.sub_self]; exact World.ownsRow_nil _ _ _ _, Below.refl _ _⟩
  case round =>
    obtain ⟨hk, rfl, HO, HB⟩ := hrel
    have HO' := Lib.hid HO
    have HBH := Lib.hid HB
    have hwz := HB.size
    clear HO HB
    cases gk with
    | zero =>
      simp only [Nat.sub_zero] at HO' ⊢
      by_cases h1 : n < xs.length
      · have h2 : decide (n < ys.length) = false := by have := HN.out; simp; omega
        go_wp2
        go_ret
        exact ⟨_, rfl, HO'.out, HBH.out⟩
      · go_wp2
        go_ret
        exact ⟨_, rfl, HO'.out, HBH.out⟩
    | succ k1 =>
      obtain ⟨i, hi⟩ : ∃ i, n - (k1 + 1) = i := ⟨_, rfl⟩
      have hi2 : n - k1 = i + 1 := by omega
      have HI := Lib.hid hi2
      have hlt : i < xs.length := by omega
      have hlt2 : i < ys.length := by omega
      rw [hi] at HO' ⊢
      obtain ⟨ad, rfl, hca⟩ := ha.2 i hlt
      obtain ⟨bd, rfl, hcb⟩ := hb.2 i hlt2
      have hca' : wr.cell? (ad.add i) = _ := cell_below HBH.out hca (World.block_lt_of_cell? w _ hca)
      have hcb' : wr.cell? (bd.add i) = _ := cell_below HBH.out hcb (World.block_lt_of_cell? w _ hcb)
      have ha0 := World.block_lt_of_cell? w _ hca
      have hb0 := World.block_lt_of_cell? w _ hcb
      have hst : lessN xs ys (i + 1) = lessN xs ys i ++ [wrap32 (xs.getD i 0 - ys.getD i 0)] := lessN_succ xs ys i
      clear hi hi2
      generalize xs.getD i 0 = x at *
      generalize ys.getD i 0 = y at *
      have HS := Lib.hid hst
      have hlen : (lessN xs ys i).length = i := lessN_length xs ys i
      have HLen := Lib.hid hlen
      have hwr := i32_w (x - y)
      clear hlen hst
      go_wp2
      go_region_held3 (fun w' => w'.cell? (ad.add i) = some (.int .i32 x) ∧ w'.cell? (bd.add i) = some (.int .i32 y))
        (first
          | go_keep
          | (exact ⟨cell_below hbel hca ha0, cell_below hbel hcb hb0⟩))
        ((refine step_app _ (by rfl) (.tmp 19) (.tmp 29) 24 21 (by rfl) (.int .i32 0) 1 4 Try.underlying24 info_i32 rfl (by omega) (by omega) w.heap.size u5 i (nums .i32 (lessN xs ys i)) (by rfl) (some ⟨wr.heap.size, 0, none⟩) 1 1 (by rfl) (by have h := HO'.out; unfold Own at h; rw [HLen.out] at h; exact (h.alloc _).drew) w ((HBH.out.alloc hwz _).drew) (by simp; omega) [.int .i32 (wrap32 (x - y))] (by rfl) (RdC.oneD _ _ _) (by simp [Value.oneCell']) (by omega) ?_; intro v1 w1 hown1 hgrow hbel hat hnil))
      have HO1 := Lib.hid hown1
      clear hown1
      go_wp2
      go_roundg k1
      case rel =>
        refine ⟨by omega, by rw [HI.out]; rfl, ?_, hbel⟩
        rw [HI.out, HS.out]
        have := HO1.out
        unfold Own
        simpa [nums, HLen.out] using this
      case measure => omega

set_option maxHeartbeats 400000 in
theorem refDot_calls (A B : Option Addr) (c d : Nat) (xs ys : List Int) (w : World) (ha : Rd w .i32 A xs) (hb : Rd w .i32 B ys) (ra : R32 xs) (rb : R32 ys) :
    Calls Try.prog 64 #[.slice A xs.length c, .slice B ys.length d] w fun e w' => e = .returned (.int .i64 (wrap64 (dot xs ys))) ∧ ∃ n, w' = w.drewN n := by
  obtain ⟨n, hn⟩ : ∃ n, min xs.length ys.length = n := ⟨_, rfl⟩
  unfold dot
  rw [hn]
  have hna : n ≤ xs.length := by omega
  have hnb : n ≤ ys.length := by omega
  have hl := ha.1
  have HN := Lib.hid hn
  clear hn
  go_enter Try.func64, Try.ntmps64
  go_wp2
  go_loopg [5, 6] n (fun kq v5 v6 w' => kq ≤ n ∧ v5 = .int .i64 (wrap64 (dotN xs ys (n - kq))) ∧ v6 = .int .i64 ((n - kq : Nat)) ∧ ∃ j, w' = w.drewN j)
  case atStart => exact ⟨Nat.le_refl _, by simp [dotN, sumTo, wrap64], by simp, 0, rfl⟩
  case round =>
    obtain ⟨hk, rfl, rfl, j, rfl⟩ := hrel
    cases gk with
    | zero =>
      simp only [Nat.sub_zero]
      by_cases h1 : n < xs.length
      · have h2 : decide (n < ys.length) = false := by have := HN.out; simp; omega
        go_wp2
        go_ret
        exact ⟨rfl, j, rfl⟩
      · go_wp2
        go_ret
        exact ⟨rfl, j, rfl⟩
    | succ k1 =>
      obtain ⟨i, hi⟩ : ∃ i, n - (k1 + 1) = i := ⟨_, rfl⟩
      have hi2 : n - k1 = i + 1 := by omega
      have hin : i < n := by omega
      rw [hi]
      obtain ⟨ad, rfl, hca⟩ := ha.2 i (by omega)
      obtain ⟨bd, rfl, hcb⟩ := hb.2 i (by omega)
      have hxl : i < xs.length := by omega
      have hyl : i < ys.length := by omega
      have h1 := ra.at i
      have h2 := rb.at i
      have hst := dot_step (dotN xs ys i) (xs.getD i 0) (ys.getD i 0) h1 h2
      rw [← dotN_succ, ← hi2] at hst
      generalize xs.getD i 0 = x at *
      generalize ys.getD i 0 = y at *
      have HS := Lib.hid hst
      have HI := Lib.hid hi2
      clear hst hi2 hi
      go_wp2
      go_quiet (fail)
      go_wp2
      go_roundg k1
      case rel => exact ⟨by omega, by rw [HS.out], by rw [HI.out]; rfl, _, rfl⟩
      case measure => omega

set_option maxHeartbeats 400000 in
theorem refSame_calls (A B : Option Addr) (c d : Nat) (xs ys : List Int) (w : World) (ha : Rd w .i32 A xs) (hb : Rd w .i32 B ys) :
    Calls Try.prog 54 #[.slice A xs.length c, .slice B ys.length d] w fun e w' => e = .returned (.bool (decide (xs = ys))) ∧ ∃ n, w' = w.drewN n := by
  by_cases hlen : xs.length = ys.length
  · obtain ⟨n, hn⟩ : ∃ n, xs.length = n := ⟨_, rfl⟩
    have hn2 : ys.length = n := by omega
    obtain ⟨b, hbx⟩ : ∃ b, decide (xs = ys) = b := ⟨_, rfl⟩
    have HB := Lib.hid hbx
    rw [hn, hn2, hbx]
    have hl := ha.1
    rw [hn] at hl
    have HN := Lib.hid hn
    have HN2 := Lib.hid hn2
    clear hn hn2 hbx hlen
    go_enter Try.func54, Try.ntmps54
    go_wp2
    go_loopg [5] n (fun kq v5 w' => kq ≤ n ∧ v5 = .int .i64 ((n - kq : Nat)) ∧ (∀ j, j < n - kq → xs.getD j 0 = ys.getD j 0) ∧ ∃ j, w' = w.drewN j)
    case atStart => exact ⟨Nat.le_refl _, by simp, fun j hj => by omega, 0, rfl⟩
    case round =>
      obtain ⟨hk, rfl, hall, j, rfl⟩ := hrel
      have HA := Lib.hid hall
      clear hall
      cases gk with
      | zero =>
        simp only [Nat.sub_zero]
        go_wp2
        go_ret
        refine ⟨ret_bool ?_, j, rfl⟩
        have h1 := HN.out
        have h2 := HN2.out
        rw [← HB.out]
        exact (decide_eq_true (ext32 (by omega) fun j hj => HA.out j (by omega))).symm
      | succ k1 =>
        obtain ⟨i, hi⟩ : ∃ i, n - (k1 + 1) = i := ⟨_, rfl⟩
        have hi2 : n - k1 = i + 1 := by omega
        have hin : i < n := by omega
        rw [hi]
        have hni : i < xs.length := by have := HN.out; omega
        have hni2 : i < ys.length := by have := HN2.out; omega
        obtain ⟨ad, rfl, hca⟩ := ha.2 i hni
        obtain ⟨bd, rfl, hcb⟩ := hb.2 i hni2
        obtain ⟨x, hx⟩ : ∃ x, xs.getD i 0 = x := ⟨_, rfl⟩
        obtain ⟨y, hy⟩ : ∃ x, ys.getD i 0 = x := ⟨_, rfl⟩
        rw [hx] at hca
        rw [hy] at hcb
        have HX := Lib.hid hx
        have HY := Lib.hid hy
        have HI := Lib.hid hi
        clear hi hi2 hx hy
        by_cases hxy : x = y
        · have hb1 : (x != y) = false := by simp [hxy]
          have HE := Lib.hid hxy
          clear hxy
          go_wp2
          go_quiet (fail)
          go_wp2
          go_roundg k1
          case rel =>
            have hi := HI.out
            have hx := HX.out
            have hy := HY.out
            have he := HE.out
            refine ⟨by omega, by rw [show n - k1 = i + 1 by omega]; rfl, fun j hj => ?_, _, rfl⟩
            rcases Nat.lt_or_ge j i with h | h
            · exact HA.out j (by omega)
            · obtain rfl : j = i := by omega
              rw [hx, hy, he]
          case measure => omega
        · have hb1 : (x != y) = true := by simp [hxy]
          have HE := Lib.hid hxy
          clear hxy
          go_wp2
          go_quiet (fail)
          go_wp2
          go_ret
          refine ⟨ret_bool ?_, _, World.drewN_drewN ..⟩
          rw [← HB.out]
          exact (eq_false_of_get (i := i) (by rw [HX.out, HY.out]; exact HE.out)).symm
  · rw [eq_false_of_len hlen]
    have hb1 : ((xs.length : Int) != (ys.length : Int)) = true := by simp; omega
    clear hlen
    go_enter Try.func54, Try.ntmps54
    go_wp2
    go_ret
    exact ⟨rfl, 0, rfl⟩


/-! ### Check -/
def outN (x : Int) : Bool := decide (x < -1048576) || decide (1048576 < x)
def anyOut (xs : List Int) : Bool := xs.any outN
def checkV (xs : List Int) (dim : Int) : Int := if dim < 1 ∨ 1024 < dim then 1 else if (xs.length : Int) ≠ dim then 3 else if anyOut xs = true then 4 else 0
theorem outN_iff (x : Int) : outN x = true ↔ x < -1048576 ∨ 1048576 < x := by simp [outN]
theorem anyOut_of {xs : List Int} {i : Nat} (hi : i < xs.length) (h : outN (xs.getD i 0) = true) : anyOut xs = true := by
  unfold anyOut
  rw [List.any_eq_true]
  exact ⟨xs.getD i 0, by simp [List.getD, hi], h⟩
theorem anyOut_none {xs : List Int} (h : ∀ j, j < xs.length → outN (xs.getD j 0) = false) : anyOut xs = false := by
  unfold anyOut
  rw [List.any_eq_false]
  intro x hx
  obtain ⟨j, hj, rfl⟩ := List.getElem_of_mem hx
  have := h j hj
  simp [List.getD, hj] at this
  simp [this]
theorem anyOut_false {xs : List Int} (h : anyOut xs = false) : ∀ x ∈ xs, -1048576 ≤ x ∧ x ≤ 1048576 := by
  intro x hx
  unfold anyOut at h
  rw [List.any_eq_false] at h
  have := h x hx
  rw [outN_iff] at this
  omega

theorem out_calls (x : Int) (w : World) : Calls Try.prog 72 #[.int .i32 x] w fun e w' => e = .returned (.bool (outN x)) ∧ w = w' := by
  by_cases h1 : x < -1048576
  · have e : outN x = true := by rw [outN_iff]; omega
    rw [e]
    go_enter Try.func72, Try.ntmps72
    go_wp2
    go_ret
    exact ⟨rfl, rfl⟩
  · have h1' : decide (x < -1048576) = false := decide_eq_false h1
    by_cases h2 : 1048576 < x
    · have e : outN x = true := by rw [outN_iff]; omega
      have h2' : decide (1048576 < x) = true := decide_eq_true h2
      rw [e]
      go_enter Try.func72, Try.ntmps72
      go_wp2
      go_ret
      exact ⟨rfl, rfl⟩
    · have e : outN x = false := by
        cases h : outN x with
        | false => rfl
        | true => rw [outN_iff] at h; omega
      have h2' : decide (1048576 < x) = false := decide_eq_false h2
      rw [e]
      go_enter Try.func72, Try.ntmps72
      go_wp2
      go_ret
      exact ⟨rfl, rfl⟩

set_option maxHeartbeats 400000 in
theorem Index_calls (A : Option Addr) (c : Nat) (xs : List Int) (w : World) (ha : Rd w .i32 A xs) :
    Calls Try.prog 75 #[.slice A xs.length c, .func (.func 72) #[] #[]] w fun e w' => ∃ r : Int, e = .returned (.int .i64 r) ∧ decide (0 ≤ r) = anyOut xs ∧ w = w' := by
  obtain ⟨n, hn⟩ : ∃ n, xs.length = n := ⟨_, rfl⟩
  obtain ⟨b, hbx⟩ : ∃ b, anyOut xs = b := ⟨_, rfl⟩
  have HB := Lib.hid hbx
  rw [hn, hbx]
  have hl := ha.1
  rw [hn] at hl
  have HN := Lib.hid hn
  clear hn hbx
  go_enter Try.func75, Try.ntmps75
  go_wp2_with fail
  go_loopg [8] n (fun kq v8 w' => kq ≤ n ∧ v8 = .int .i64 ((n - kq : Nat)) ∧ (∀ j, j < n - kq → outN (xs.getD j 0) = false) ∧ w = w')
  case atStart => exact ⟨Nat.le_refl _, by simp, fun j hj => by omega, rfl⟩
  case round =>
    obtain ⟨hk, rfl, hall, rfl⟩ := hrel
    have HA := Lib.hid hall
    clear hall
    cases gk with
    | zero =>
      simp only [Nat.sub_zero]
      go_wp2_with fail
      go_ret
      refine ⟨-1, rfl, ?_, rfl⟩
      rw [← HB.out, anyOut_none fun j hj => HA.out j (by have := HN.out; omega)]
      rfl
    | succ k1 =>
      obtain ⟨i, hi⟩ : ∃ i, n - (k1 + 1) = i := ⟨_, rfl⟩
      have hi2 : n - k1 = i + 1 := by omega
      have hin : i < n := by omega
      rw [hi]
      have hni : i < xs.length := by have := HN.out; omega
      obtain ⟨ad, rfl, hca⟩ := ha.2 i hni
      obtain ⟨x, hx⟩ : ∃ x, xs.getD i 0 = x := ⟨_, rfl⟩
      rw [hx] at hca
      have HX := Lib.hid hx
      have HI := Lib.hid hi
      clear hi hi2 hx
      cases ho : outN x with
      | true =>
        have hc := out_calls x w
        rw [ho] at hc
        have HO := Lib.hid ho
        have HC := Lib.hid hc
        clear ho hc
        go_wp2_with (go_at_call 72; refine HC.out.mono ?_; rintro e w' ⟨rfl, rfl⟩)
        go_ret
        refine ⟨(i : Int), rfl, ?_, rfl⟩
        rw [← HB.out, anyOut_of hni (by rw [HX.out]; exact HO.out)]
        simp
      | false =>
        have hc := out_calls x w
        rw [ho] at hc
        have HO := Lib.hid ho
        have HC := Lib.hid hc
        clear ho hc
        go_wp2_with (go_at_call 72; refine HC.out.mono ?_; rintro e w' ⟨rfl, rfl⟩)
        go_roundg k1
        case rel =>
          have hi := HI.out
          refine ⟨by omega, by rw [show n - k1 = i + 1 by omega]; rfl, fun j hj => ?_, rfl⟩
          rcases Nat.lt_or_ge j i with h | h
          · exact HA.out j (by omega)
          · obtain rfl : j = i := by omega
            rw [HX.out]; exact HO.out
        case measure => omega

theorem Contains_calls (A : Option Addr) (c : Nat) (xs : List Int) (w : World) (ha : Rd w .i32 A xs) :
    Calls Try.prog 71 #[.slice A xs.length c, .func (.func 72) #[] #[]] w fun e w' => e = .returned (.bool (anyOut xs)) ∧ w = w' := by
  have h := Lib.hid (Index_calls A c xs w ha)
  obtain ⟨b, hbx⟩ : ∃ b, anyOut xs = b := ⟨_, rfl⟩
  rw [hbx] at h ⊢
  clear hbx
  go_enter Try.func71, Try.ntmps71
  go_wp2_with (go_at_call 75; refine h.out.mono ?_; rintro e w' ⟨r, rfl, hr, rfl⟩)
  go_ret
  exact ⟨rfl, rfl⟩

theorem Check_calls (A : Option Addr) (c : Nat) (xs : List Int) (dim : Int) (w : World) (ha : Rd w .i32 A xs) :
    Calls Try.prog 65 #[.slice A xs.length c, .int .i64 dim] w fun e w' => e = .returned (.int .i64 (checkV xs dim)) ∧ w = w' := by
  unfold checkV
  have hl := ha.1
  by_cases h1 : dim < 1
  · rw [if_pos (.inl h1)]
    go_enter Try.func65, Try.ntmps65
    go_wp2
    go_ret
    exact ⟨rfl, rfl⟩
  · have h1' : decide (dim < 1) = false := decide_eq_false h1
    by_cases h2 : 1024 < dim
    · rw [if_pos (.inr h2)]
      have h2' : decide (1024 < dim) = true := decide_eq_true h2
      go_enter Try.func65, Try.ntmps65
      go_wp2
      go_ret
      exact ⟨rfl, rfl⟩
    · have h2' : decide (1024 < dim) = false := decide_eq_false h2
      rw [if_neg (by omega)]
      by_cases h3 : (xs.length : Int) = dim
      · rw [if_neg (by omega)]
        obtain rfl : dim = (xs.length : Int) := h3.symm
        obtain ⟨n, hn⟩ : ∃ n, xs.length = n := ⟨_, rfl⟩
        have hc := Lib.hid (Contains_calls A c xs w ha)
        rw [hn] at h1 h2 h1' h2' hl hc ⊢
        have h3' : ((n : Int) != n) = false := by simp
        clear h3
        obtain ⟨b, hb⟩ : ∃ b, anyOut xs = b := ⟨_, rfl⟩
        rw [hb] at hc ⊢
        clear hb hn
        cases b with
        | true =>
          go_enter Try.func65, Try.ntmps65
          go_wp2_with (go_at_call 71; refine hc.out.mono ?_; rintro e w' ⟨rfl, rfl⟩)
          go_ret
          exact ⟨rfl, rfl⟩
        | false =>
          go_enter Try.func65, Try.ntmps65
          go_wp2_with (go_at_call 71; refine hc.out.mono ?_; rintro e w' ⟨rfl, rfl⟩)
          go_ret
          exact ⟨rfl, rfl⟩
      · rw [if_pos h3]
        have h3' : ((xs.length : Int) != dim) = true := by simp [h3]
        clear h3
        go_enter Try.func65, Try.ntmps65
        go_wp2
        go_ret
        exact ⟨rfl, rfl⟩

theorem Clone_calls (A : Option Addr) (c : Nat) (xs : List Int) (w : World) (ha : Rd w .i32 A xs) (hs : xs.length ≤ 35184372088832) :
    Calls Try.prog 61 #[.slice A xs.length c] w fun e w' => ∃ v, e = .returned v ∧ Own w' w.heap.size 21 .i32 v xs ∧ (v = .slice none 0 0 ↔ xs.length = 0) ∧ Below w.heap.size w w' := by
  go_enter Try.func61, Try.ntmps61
  go_wp2_with (at_builtin; refine wpList_app _ rfl (.const (.slice none 0 0)) (.tmp 3) 24 21 rfl (.int .i32 0) 1 4 Try.underlying24 info_i32 rfl (by omega) (by omega) w.heap.size (.slice none 0 0) 0 [] rfl A xs.length c rfl (World.ownsRow_nil _ _ _ _) w (Below.refl _ _) (Nat.le_refl _) (nums .i32 xs) (by simp [nums]) ha.c (nums_one _ _) (by omega) ?_; intro v1 w1 hown1 hgrow hbel hat hnil)
  have HO := Lib.hid hown1
  have HN := Lib.hid hnil
  clear hown1 hnil hat
  go_wp2
  go_ret
  exact ⟨_, rfl, by simpa [Own] using HO.out, by simpa using HN.out, hbel⟩

/-! ### Less -/
def lessL (xs ys : List Int) (n i : Nat) : List Int := lessN xs ys i ++ (xs.take n).drop i
theorem lessL_zero (xs ys : List Int) (n : Nat) : lessL xs ys n 0 = xs.take n := by simp [lessL, lessN]
theorem lessL_full (xs ys : List Int) (n : Nat) (h : n ≤ xs.length) : lessL xs ys n n = lessN xs ys n := by
  have : (xs.take n).drop n = [] := List.drop_eq_nil_of_le (by simp; omega)
  simp [lessL, this]
theorem lessL_length (xs ys : List Int) (n i : Nat) (h : n ≤ xs.length) (hi : i ≤ n) : (lessL xs ys n i).length = n := by
  simp [lessL, lessN]; omega
theorem lessL_get (xs ys : List Int) (n i : Nat) (h : n ≤ xs.length) (hi : i < n) : (nums .i32 (lessL xs ys n i))[i]? = some (.int .i32 (xs.getD i 0)) := by
  rw [nums_get _ _ _ (by rw [lessL_length _ _ _ _ h (by omega)]; exact hi)]
  have h1 : i < xs.length := by omega
  simp [lessL, lessN, List.getD, List.getElem?_append, hi, h1, List.getElem?_take]
theorem lessL_set (xs ys : List Int) (n i : Nat) (h : n ≤ xs.length) (hi : i < n) : (nums .i32 (lessL xs ys n i)).set i (.int .i32 (wrap32 (xs.getD i 0 - ys.getD i 0))) = nums .i32 (lessL xs ys n (i + 1)) := by
  have e : (nums .i32 (lessL xs ys n i)).set i (.int .i32 (wrap32 (xs.getD i 0 - ys.getD i 0))) = nums .i32 ((lessL xs ys n i).set i (wrap32 (xs.getD i 0 - ys.getD i 0))) := by simp [nums, List.map_set]
  rw [e]
  congr 1
  have hl : (lessN xs ys i).length = i := lessN_length xs ys i
  have h2 : (xs.take n).drop i = xs.getD i 0 :: (xs.take n).drop (i + 1) := by
    have h3 : i < (xs.take n).length := by simp; omega
    have h4 : i < xs.length := by omega
    rw [List.drop_eq_getElem_cons h3]
    simp [List.getD, h4]
  simp only [lessL]
  rw [h2, List.set_append_right _ _ (by omega), hl, Nat.sub_self, List.set_cons_zero, lessN_succ]
  simp

theorem splice_zero {α : Type} (Z cs : List α) (h : Z.length = cs.length) : splice Z 0 cs = cs := by
  simp [splice, h]
set_option maxHeartbeats 400000 in
set_option maxRecDepth 100000 in
theorem Less_calls (A B : Option Addr) (c d : Nat) (xs ys : List Int) (w : World) (ha : Rd w .i32 A xs) (hb : Rd w .i32 B ys) (hs : xs.length ≤ 35184372088832) :
    Calls Try.prog 67 #[.slice A xs.length c, .slice B ys.length d] w fun e w' => ∃ v, e = .returned v ∧ Own w' w.heap.size 21 .i32 v (less xs ys) ∧ Below w.heap.size w w' ∧ v.ownBlock = some w.heap.size := by
  obtain ⟨n, hn⟩ : ∃ n, min xs.length ys.length = n := ⟨_, rfl⟩
  unfold less
  rw [hn]
  have hna : n ≤ xs.length := by omega
  have hnb : n ≤ ys.length := by omega
  have hl := ha.1
  go_enter Try.func67, Try.ntmps67
  go_wp2_with (first | (go_at_call 73; refine (both_calls _ _ _ _ _ _ _).mono ?_; rintro e w' ⟨rfl, rfl⟩; rw [hn]) | (at_make; refine wpList_mk _ rfl (.tmp 9) (.tmp 9) 24 21 rfl (.int .i32 0) 4 Try.underlying24 info_i32 rfl .i64 .i64 n rfl rfl (by omega) (by omega) ?_; intro w1 hblk hbel hsz; have HBK := Lib.hid hblk; clear hblk) | (with_reducible refine wpList_copy_splice rfl (.tmp 11) (.tmp 12) _ _ rfl 21 Try.underlying24 (by kernel_rfl) (some ⟨w.heap.size, 0, none⟩) A n n xs.length c rfl rfl w.heap.size 0 (List.replicate n (.int .i32 0)) 21 HBK.out (nums .i32 (xs.take n)) ?c1 ?c2 ?c3 (nums_one _ _) w.heap.size w hbel (Nat.le_refl _) ?_))
  case c1 => simp [nums]; exact Nat.min_comm _ _
  case c2 =>
    intro hp
    simp [nums] at hp
    obtain ⟨ad, rfl, _⟩ := ha.2 0 (by omega)
    refine ⟨ad, rfl, fun j v hv => ?_⟩
    have hj : j < n := by
      rcases Nat.lt_or_ge j n with h | h
      · exact h
      · rw [List.getElem?_eq_none (by simp [nums]; omega)] at hv; cases hv
    obtain ⟨ad', e, hc⟩ := ha.2 j (by omega)
    injection e with e
    subst e
    rw [nums_get _ _ _ (by simp; omega)] at hv
    rw [cell_below hbel hc (World.block_lt_of_cell? w _ hc), ← hv]
    have h1 : j < xs.length := by omega
    simp [List.getD, hj, h1]
  case c3 => simp [nums]; omega
  have HN := Lib.hid hn
  clear hn
  intro w2 hblk2 hbel2
  rw [splice_zero _ _ (by simp [nums]; omega), ← lessL_zero xs ys n] at hblk2
  go_wp2
  go_loopg [16] n (fun kq v16 w' => kq ≤ n ∧ v16 = .int .i64 ((n - kq : Nat)) ∧ Hid (w'.heap[w.heap.size]? = some (.cells (nums .i32 (lessL xs ys n (n - kq))).toArray 21 (0, 0))) ∧ Below w.heap.size w w')
  case atStart => exact ⟨Nat.le_refl _, by simp, by rw [Nat.sub_self]; exact hblk2, hbel2⟩
  case round =>
    clear hblk2 hbel2 HBK hbel hsz
    obtain ⟨hk, rfl, HO, HB⟩ := hrel
    have HBH := Lib.hid HB
    have hwz := HB.size
    clear HB
    cases gk with
    | zero =>
      simp only [Nat.sub_zero] at HO ⊢
      go_wp2
      go_ret
      refine ⟨_, rfl, ?_, HBH.out, rfl⟩
      have h := HO.out
      rw [lessL_full _ _ _ hna] at h
      have h2 := own_blk h (Nat.le_refl _) (Nat.le_refl n) (by unfold maxLen; omega) (by simp [nums, lessN])
      rw [List.take_of_length_le (by simp [nums, lessN])] at h2
      unfold Own
      rw [lessN_length]
      exact h2
    | succ k1 =>
      obtain ⟨i, hi⟩ : ∃ i, n - (k1 + 1) = i := ⟨_, rfl⟩
      have hi2 : n - k1 = i + 1 := by omega
      have HI := Lib.hid hi2
      have hlt : i < n := by omega
      have hlt2 : i < ys.length := by omega
      rw [hi] at HO ⊢
      obtain ⟨bd, rfl, hcb⟩ := hb.2 i hlt2
      have hcb' : wr.cell? (bd.add i) = _ := cell_below HBH.out hcb (World.block_lt_of_cell? w _ hcb)
      have hca' : wr.cell? ⟨w.heap.size, i, none⟩ = some (.int .i32 (xs.getD i 0)) := by rw [cell_blk HO.out, lessL_get _ _ _ _ hna hlt]
      have hfr : wr.frozen? ⟨w.heap.size, i, none⟩ = false := free_blk HO.out i
      have hst := lessL_set xs ys n i hna hlt
      clear hi hi2 hcb
      generalize xs.getD i 0 = x at *
      generalize ys.getD i 0 = y at *
      have HS := Lib.hid hst
      have hwr := i32_w (x - y)
      clear hst
      go_wp2
      go_still_tail 10, (by kernel_rfl)
      go_wp2
      go_roundg k1
      case rel =>
        refine ⟨by omega, by rw [HI.out]; rfl, ?_, ?_⟩
        · rw [HI.out, ← HS.out]
          exact set_blk (w := wr.drew) HO.out _ _
        · exact below_set (HBH.out.drew) (Nat.le_refl _) _ _
      case measure => omega

/-! ### the same, the world told by what it keeps -/
theorem below_of_drewN {w w' : World} (h : ∃ n, w' = w.drewN n) : Below w.heap.size w w' := by
  obtain ⟨n, rfl⟩ := h
  exact below_drewN_self w n
theorem Dot_b (A B : Option Addr) (c d : Nat) (xs ys : List Int) (w : World) (ha : Rd w .i32 A xs) (hb : Rd w .i32 B ys) (ra : R32 xs) (rb : R32 ys) :
    Calls Try.prog 68 #[.slice A xs.length c, .slice B ys.length d] w fun e w' => e = .returned (.int .i64 (wrap64 (dot xs ys))) ∧ Below w.heap.size w w' :=
  (Dot_calls A B c d xs ys w ha hb ra rb).mono fun e w' ⟨h1, h2⟩ => ⟨h1, below_of_drewN h2⟩
theorem refSame_b (A B : Option Addr) (c d : Nat) (xs ys : List Int) (w : World) (ha : Rd w .i32 A xs) (hb : Rd w .i32 B ys) :
    Calls Try.prog 54 #[.slice A xs.length c, .slice B ys.length d] w fun e w' => e = .returned (.bool (decide (xs = ys))) ∧ Below w.heap.size w w' :=
  (refSame_calls A B c d xs ys w ha hb).mono fun e w' ⟨h1, h2⟩ => ⟨h1, below_of_drewN h2⟩
theorem refDot_b (A B : Option Addr) (c d : Nat) (xs ys : List Int) (w : World) (ha : Rd w .i32 A xs) (hb : Rd w .i32 B ys) (ra : R32 xs) (rb : R32 ys) :
    Calls Try.prog 64 #[.slice A xs.length c, .slice B ys.length d] w fun e w' => e = .returned (.int .i64 (wrap64 (dot xs ys))) ∧ Below w.heap.size w w' :=
  (refDot_calls A B c d xs ys w ha hb ra rb).mono fun e w' ⟨h1, h2⟩ => ⟨h1, below_of_drewN h2⟩
end Go.Proofs.Ytohmcpblagcfeaa
