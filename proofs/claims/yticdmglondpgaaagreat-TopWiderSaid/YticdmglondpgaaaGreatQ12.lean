/-
  Texts on the program, part 12: Mat, Items, Data, Law10, Exact1.
-/
import Derived.Deep.Matrix
import Derived.Test.YticdmglondpgaaaGreatQ02
import Derived.Test.YticdmglondpgaaaGreatQ11

/-! ## Mat: A list of lists of whole numbers in memory, and how such an argument reads. No condition. -/
namespace Go.Proofs.YticdmglondpgaaaGreat
open Go.ChangeShapes Go.WideShapes Go.RowKit
set_option linter.unusedVariables false
set_option maxRecDepth 100000
def Rows (w : World) (k : IntKind) (A : Option Addr) (ls : List (List Int)) : Prop :=
  ls.length ≤ 9223372036854775807 ∧ ∀ j, j < ls.length → ∃ ad B c, A = some ad ∧ w.cell? (ad.add j) = some (.slice B (ls.getD j []).length c) ∧ (ls.getD j []).length ≤ c ∧ Rd w k B (ls.getD j [])
theorem Rows.below {w w1 : World} {k : IntKind} {A : Option Addr} {ls : List (List Int)} (h : Rows w k A ls) (hb : Below w.heap.size w w1) : Rows w1 k A ls :=
  ⟨h.1, fun j hj => by
    obtain ⟨ad, B, c, e, hc, hl, hr⟩ := h.2 j hj
    exact ⟨ad, B, c, e, cell_below hb hc (World.block_lt_of_cell? _ _ hc), hl, hr.below hb⟩⟩
theorem Rows.nil (w : World) (k : IntKind) (A : Option Addr) : Rows w k A [] := ⟨by simp, fun j hj => by simp at hj⟩
section
variable {H : Type} {enc : TypeId × Value → H} {W : World} {held : Bool} {P : Program}
theorem open_mat {t e q : TypeId} {k : IntKind} {v : Value} {fuel : Nat} {y : DataW H × List MemPlace} (ht : P.underlying t = some (.slice e)) (he : P.underlying e = some (.slice q)) (hq : P.underlying q = some (.int k))
    (ce : P.cellsOf e = 1) (cq : P.cellsOf q = 1) (hf : DataW.trod enc P W 0 (fun _ => true) held fuel t v.cells.toList = some y) (hv : ∃ A n c, v = .slice A n c) :
    ∃ A c ls, v = .slice A ls.length c ∧ ls.length ≤ c ∧ Rows W k A ls ∧ ∀ xs ∈ ls, ∀ n ∈ xs, (Lit.int k n).wf = true := by
  obtain ⟨A0, n0, c0, rfl⟩ := hv
  simp only [Value.cells] at hf
  rcases Go.Deep.open_int_rows ht he hq ce cq hf with ⟨hcs, _⟩ | ⟨a, len, cap, A, L, C, Z, hcs, _, hl, hm, _, hrow⟩
  · simp at hcs
    obtain ⟨rfl, rfl, rfl⟩ := hcs
    exact ⟨none, 0, [], rfl, by simp, Rows.nil _ _ _, fun xs h => by cases h⟩
  · simp at hcs
    obtain ⟨rfl, rfl, rfl⟩ := hcs
    have hmx : maxLen = 9223372036854775807 := rfl
    have hll : ((List.range n0).map fun r => (Z r).take (L r)).length = n0 := by simp
    have hget : ∀ j, j < n0 → ((List.range n0).map fun r => (Z r).take (L r)).getD j [] = (Z j).take (L j) := fun j hj => by simp [List.getD, hj]
    refine ⟨some a, c0, (List.range n0).map fun r => (Z r).take (L r), by rw [hll], by rw [hll]; exact hl, ⟨by rw [hll]; omega, fun j hj => ?_⟩, ?_⟩
    · rw [hll] at hj
      obtain ⟨h1, h2, h3, h4, h5, h6, h7⟩ := hrow j (by omega)
      have hlj : ((Z j).take (L j)).length = L j := by simp; omega
      rw [hget j hj, hlj]
      refine ⟨a, A j, C j, rfl, h1, h2, ⟨by omega, fun i hi => ?_⟩⟩
      rw [hlj] at hi
      cases hA : A j with
      | none => have := h6 hA; omega
      | some a' =>
        refine ⟨a', rfl, ?_⟩
        rw [(h7 a' hA).2 i (by omega)]
        simp [List.getD, hi]
    · intro xs hx n hn
      simp only [List.mem_map, List.mem_range] at hx
      obtain ⟨j, hj, rfl⟩ := hx
      obtain ⟨h1, h2, h3, h4, h5, h6, h7⟩ := hrow j (by omega)
      exact h5 n (List.mem_of_mem_take hn)
end
theorem open_m32 {H : Type} {enc : TypeId × Value → H} {W : World} {held : Bool} {r : Reach} {b0 : Nat} {v : Value} {d : DataW H} {p : List MemPlace}
    (hv : Value.okWide Tryz.prog W r b0 22 v) (h : DataW.Trod enc Tryz.prog W 0 (fun _ => true) held 22 v d p) :
    ∃ A c ls, v = .slice A ls.length c ∧ ls.length ≤ c ∧ Rows W .i32 A ls ∧ ∀ xs ∈ ls, ∀ n ∈ xs, (Lit.int .i32 n).wf = true := by
  obtain ⟨fuel, hf⟩ := h
  exact open_mat Tryz.underlying22 Tryz.underlying29 Tryz.underlying21 (by kernel_rfl) (by kernel_rfl) hf (okWide_slice Tryz.underlying22 hv)
end Go.Proofs.YticdmglondpgaaaGreat

/-! ## Items: The items (package data): what they hold in memory, and the contract of each method. Condition of each: the items' blocks are as the word says. -/
namespace Go.Proofs.YticdmglondpgaaaGreat
open Go.RowKit
set_option linter.unusedVariables false
set_option maxRecDepth 100000
set_option linter.unusedSimpArgs false

theorem flat_length {rows : List (List Int)} {dim : Nat} (h : ∀ r ∈ rows, r.length = dim) : rows.flatten.length = rows.length * dim := by
  induction rows with
  | nil => simp
  | cons r rs ih =>
    rw [List.flatten_cons, List.length_append, ih fun x hx => h x (List.mem_cons_of_mem _ hx), h r (List.mem_cons_self), List.length_cons, Nat.succ_mul]
    omega
theorem flat_get {rows : List (List Int)} {dim : Nat} (h : ∀ r ∈ rows, r.length = dim) (i j : Nat) (hi : i < rows.length) (hj : j < dim) : rows.flatten.getD (i * dim + j) 0 = (rows.getD i []).getD j 0 := by
  induction rows generalizing i with
  | nil => simp at hi
  | cons r rs ih =>
    have hr := h r (List.mem_cons_self)
    rw [List.flatten_cons]
    cases i with
    | zero =>
      simp only [List.getD]
      rw [Nat.zero_mul, Nat.zero_add, List.getElem?_append_left (by omega)]
      simp
    | succ i =>
      have h2 := ih (fun x hx => h x (List.mem_cons_of_mem _ hx)) i (by simpa using hi)
      simp only [List.getD] at h2 ⊢
      rw [Nat.succ_mul, List.getElem?_append_right (by omega), show i * dim + dim + j - r.length = i * dim + j by omega, h2]
      simp
theorem row_length {rows : List (List Int)} {dim : Nat} (h : ∀ r ∈ rows, r.length = dim) (i : Nat) (hi : i < rows.length) : (rows.getD i []).length = dim := h _ (by simp [List.getD, hi])

def It (w : World) (b dim : Nat) (rows : List (List Int)) : Prop :=
  1 ≤ dim ∧ dim ≤ 1024 ∧ (∀ r ∈ rows, r.length = dim) ∧ rows.length ≤ 1048576 ∧ ∃ A c, w.heap[b]? = some (.cells #[.int .i64 dim, .slice A rows.flatten.length c] 166 (0, 0)) ∧ Own w (b + 1) 21 .i32 (.slice A rows.flatten.length c) rows.flatten ∧ rows.flatten.length ≤ c
theorem It.drewN {w : World} {b dim : Nat} {rows : List (List Int)} (h : It w b dim rows) (n : Nat) : It (w.drewN n) b dim rows := by
  obtain ⟨h1, h2, h3, h4, A, c, h5, h6, h7⟩ := h
  exact ⟨h1, h2, h3, h4, A, c, h5, h6.keep (below_drewN_self w n), h7⟩
theorem It.below {w w1 : World} {b dim : Nat} {rows : List (List Int)} (h : It w b dim rows) (hb : Below w.heap.size w w1) : It w1 b dim rows := by
  obtain ⟨h1, h2, h3, h4, A, c, h5, h6, h7⟩ := h
  exact ⟨h1, h2, h3, h4, A, c, obj_below hb h5 (obj_lt h5), h6.keep hb, h7⟩
theorem It.lt {w : World} {b dim : Nat} {rows : List (List Int)} (h : It w b dim rows) : b < w.heap.size := by
  obtain ⟨_, _, _, _, A, c, h5, _⟩ := h
  exact obj_lt h5
theorem It.rowlen {w : World} {b dim : Nat} {rows : List (List Int)} (h : It w b dim rows) (i : Nat) (hi : i < rows.length) : (rows.getD i []).length = dim := row_length h.2.2.1 i hi

theorem New_none (dim : Int) (w : World) (h : dim < 1 ∨ 1024 < dim) :
    Calls Tryz.prog 82 #[.int .i64 dim] w fun e w' => e = .returned (.tuple #[.pointer none, .int .i64 1]) ∧ w = w' := by
  by_cases h1 : dim < 1
  · have h1' : decide (dim < 1) = true := decide_eq_true h1
    go_enter Tryz.func82, Tryz.ntmps82
    go_wp2_with fail
    go_ret2
    exact ⟨rfl, rfl⟩
  · have h1' : decide (dim < 1) = false := decide_eq_false h1
    have h2' : decide (1024 < dim) = true := decide_eq_true (by omega)
    go_enter Tryz.func82, Tryz.ntmps82
    go_wp2_with fail
    go_ret2
    exact ⟨rfl, rfl⟩
theorem New_calls (dim : Nat) (w : World) (h1 : 1 ≤ dim) (h2 : dim ≤ 1024) :
    Calls Tryz.prog 82 #[.int .i64 dim] w fun e w' => e = .returned (.tuple #[.pointer (some ⟨w.heap.size, 0, none⟩), .int .i64 0]) ∧ It w' w.heap.size dim [] ∧ Below w.heap.size w w' := by
  have h1' : decide ((dim : Int) < 1) = false := decide_eq_false (by omega)
  have h2' : decide (1024 < (dim : Int)) = false := decide_eq_false (by omega)
  go_enter Tryz.func82, Tryz.ntmps82
  go_wp2_with fail
  go_ret2
  exact ⟨rfl, ⟨h1, h2, by simp, by simp, none, 0, heap_alloc_new _ _, World.ownsRow_nil _ _ _ _, by simp⟩, below_alloc1 (Below.refl _ _) _⟩
theorem Dim_calls (b dim : Nat) (rows : List (List Int)) (w : World) (h : It w b dim rows) :
    Calls Tryz.prog 87 #[.pointer (some ⟨b, 0, none⟩)] w fun e w' => e = .returned (.int .i64 dim) ∧ w = w' := by
  obtain ⟨h1, h2, h3, h4, A, c, h5, h6, h7⟩ := h
  have hc0 : w.cell? ⟨b, 0, none⟩ = some (.int .i64 dim) := by simp [World.cell?, h5]
  clear h5 h6
  go_enter Tryz.func87, Tryz.ntmps87
  go_wp2_with fail
  go_ret
  exact ⟨rfl, rfl⟩
theorem Len_calls (b dim : Nat) (rows : List (List Int)) (w : World) (h : It w b dim rows) :
    Calls Tryz.prog 46 #[.pointer (some ⟨b, 0, none⟩)] w fun e w' => e = .returned (.int .i64 rows.length) ∧ ∃ n, w' = w.drewN n := by
  obtain ⟨h1, h2, h3, h4, A, c, h5, h6, h7⟩ := h
  have hl := flat_length h3
  obtain ⟨N, hN⟩ : ∃ N, rows.flatten.length = N := ⟨_, rfl⟩
  obtain ⟨n, hn⟩ : ∃ n, rows.length = n := ⟨_, rfl⟩
  rw [hN] at hl h5
  rw [hn] at hl h4 ⊢
  have hc0 : w.cell? ⟨b, 0, none⟩ = some (.int .i64 dim) := by simp [World.cell?, h5]
  have hc1 : w.cell? ⟨b, 1, none⟩ = some (.slice A N c) := by simp [World.cell?, h5]
  have hd : (N : Int).tdiv (dim : Int) = (n : Int) := by
    rw [Int.tdiv_eq_ediv_of_nonneg (by omega), hl, Int.natCast_mul]
    exact Int.mul_ediv_cancel _ (by omega)
  have hw : IntKind.i64.wrap (n : Int) = (n : Int) := by rw [i64_w]; exact wrap64_id _ (by omega)
  have hd0 : ¬ (dim : Int) = 0 := by omega
  clear h5 h6 h7 hl hN hn h3
  go_enter Tryz.func46, Tryz.ntmps46
  go_wp2_with fail
  go_quiet (fail)
  go_wp2_with fail
  go_ret
  exact ⟨rfl, _, rfl⟩
theorem row_none (b dim : Nat) (rows : List (List Int)) (id : Int) (w : World) (h : It w b dim rows) (hid : id < 0 ∨ (rows.length : Int) ≤ id) :
    Calls Tryz.prog 142 #[.pointer (some ⟨b, 0, none⟩), .int .i64 id] w fun e w' => e = .returned (.slice none 0 0) ∧ ∃ n, w' = w.drewN n := by
  by_cases h1 : id < 0
  · have h1' : decide (id < 0) = true := decide_eq_true h1
    go_enter Tryz.func142, Tryz.ntmps142
    go_wp2_with fail
    go_ret
    exact ⟨rfl, 0, rfl⟩
  · have h1' : decide (id < 0) = false := decide_eq_false h1
    obtain ⟨n, hn⟩ : ∃ n, rows.length = n := ⟨_, rfl⟩
    have hl := Len_calls b dim rows w h
    rw [hn] at hl hid
    have h2' : decide ((n : Int) ≤ id) = true := decide_eq_true (by omega)
    have HL := Lib.hid hl
    clear hn hl h
    go_enter Tryz.func142, Tryz.ntmps142
    go_wp2_with fail
    refine HL.out.mono ?_
    rintro e w1 ⟨he, m, rfl⟩
    subst he
    go_wp2_with fail
    go_ret
    exact ⟨rfl, m, rfl⟩
theorem row_calls (b dim : Nat) (rows : List (List Int)) (id : Nat) (w : World) (h : It w b dim rows) (hid : id < rows.length) :
    Calls Tryz.prog 142 #[.pointer (some ⟨b, 0, none⟩), .int .i64 id] w fun e w' => ∃ ad c, e = .returned (.slice (some ad) (rows.getD id []).length c) ∧ (rows.getD id []).length ≤ c ∧ Rd w' .i32 (some ad) (rows.getD id []) ∧ ∃ n, w' = w.drewN n := by
  have hlen := Lib.hid (Len_calls b dim rows w h)
  have hrl := Lib.hid (h.rowlen id hid)
  obtain ⟨h1, h2, h3, h4, A, c, h5, h6, h7⟩ := h
  have hfl := flat_length h3
  have hle : id * dim + dim ≤ rows.flatten.length := by
    rw [hfl, ← Nat.succ_mul]
    exact Nat.mul_le_mul_right _ hid
  obtain ⟨g, rfl, hg1, hg2, hcell, _⟩ := h6.at_ 0 (by omega)
  have hget : ∀ j, j < dim → w.cell? ⟨g, id * dim + j, none⟩ = some (.int .i32 ((rows.getD id []).getD j 0)) := fun j hj => by
    obtain ⟨g', e, _, _, hc, _⟩ := h6.at_ (id * dim + j) (by omega)
    injection e with e
    injection e with e
    subst e
    rw [hc, flat_get h3 id j hid hj]
  have HG := Lib.hid hget
  obtain ⟨N, hN⟩ : ∃ N, rows.flatten.length = N := ⟨_, rfl⟩
  obtain ⟨n, hn⟩ : ∃ n, rows.length = n := ⟨_, rfl⟩
  rw [hN] at hle h5 h7
  rw [hn] at h4 hid hlen
  obtain ⟨lo, hlo⟩ : ∃ lo, id * dim = lo := ⟨_, rfl⟩
  rw [hlo] at hle
  have HLO := Lib.hid hlo
  have hc0 : w.cell? ⟨b, 0, none⟩ = some (.int .i64 dim) := by simp [World.cell?, h5]
  have hc1 : w.cell? ⟨b, 1, none⟩ = some (.slice (some ⟨g, 0, none⟩) N c) := by simp [World.cell?, h5]
  have hlob : lo ≤ 1073741824 := by
    rw [← hlo]
    exact Nat.le_trans (Nat.mul_le_mul (show id ≤ 1048576 by omega) h2) (by omega)
  have m1 : IntKind.i64.wrap ((id : Int) * (dim : Int)) = (lo : Int) := by
    rw [i64_w, ← Int.natCast_mul, hlo]
    exact wrap64_id _ (by omega)
  have m0 : IntKind.i64.wrap ((id : Int) + 1) = (id : Int) + 1 := by
    rw [i64_w]
    exact wrap64_id _ (by omega)
  have m2 : IntKind.i64.wrap (((id : Int) + 1) * (dim : Int)) = ((lo + dim : Nat) : Int) := by
    rw [i64_w, show (id : Int) + 1 = ((id + 1 : Nat) : Int) by omega, ← Int.natCast_mul, Nat.succ_mul, hlo]
    exact wrap64_id _ (by omega)
  have h1' : decide ((id : Int) < 0) = false := decide_eq_false (by omega)
  have h2' : decide (n ≤ id) = false := decide_eq_false (by omega)
  clear h5 h6 hcell hget hN hn hlo h3 hfl
  go_enter Tryz.func142, Tryz.ntmps142
  go_wp2_with fail
  refine hlen.out.mono ?_
  rintro e w1 ⟨he, m, rfl⟩
  subst he
  go_wp2_with fail
  go_quiet (fail)
  go_wp2_with fail
  go_ret
  have e9 : lo + dim - lo = (rows.getD id []).length := by rw [hrl.out]; omega
  rw [e9]
  refine ⟨⟨g, lo, none⟩, c - lo, rfl, by rw [hrl.out]; omega, ⟨by rw [hrl.out]; omega, fun j hj => ⟨_, rfl, ?_⟩⟩, m + nq, by first | rfl | simp⟩
  rw [hrl.out] at hj
  have e : (⟨g, lo, none⟩ : Addr).add j = ⟨g, lo + j, none⟩ := by unfold Addr.add; split <;> simp_all
  rw [e]
  have := HG.out j hj
  rw [HLO.out] at this
  exact this
theorem At_none (b dim : Nat) (rows : List (List Int)) (id : Int) (w : World) (h : It w b dim rows) (hid : id < 0 ∨ (rows.length : Int) ≤ id) :
    Calls Tryz.prog 96 #[.pointer (some ⟨b, 0, none⟩), .int .i64 id] w fun e w' => e = .returned (.tuple #[.slice none 0 0, .bool false]) ∧ Below w.heap.size w w' := by
  have hr := Lib.hid (row_none b dim rows id w h hid)
  clear h
  go_enter Tryz.func96, Tryz.ntmps96
  go_wp2_with fail
  refine hr.out.mono ?_
  rintro e w1 ⟨he, m, rfl⟩
  subst he
  go_wp2_with fail
  refine (Clone_calls none 0 [] _ (Rd.nil _ _ _) (by simp)).mono ?_
  rintro e w2 ⟨v, he, _, hv, hb⟩
  obtain rfl := hv.2 (by simp)
  subst he
  have hb2 : Below w.heap.size w w2 := (below_drewN_self w m).trans hb
  go_wp2_with fail
  go_ret2
  exact ⟨rfl, hb2⟩
theorem At_calls (b dim : Nat) (rows : List (List Int)) (id : Nat) (w : World) (h : It w b dim rows) (hid : id < rows.length) :
    Calls Tryz.prog 96 #[.pointer (some ⟨b, 0, none⟩), .int .i64 id] w fun e w' => ∃ v, e = .returned (.tuple #[v, .bool true]) ∧ Own w' w.heap.size 21 .i32 v (rows.getD id []) ∧ Below w.heap.size w w' := by
  have hr := Lib.hid (row_calls b dim rows id w h hid)
  have hl : (rows.getD id []).length ≤ 1024 := by rw [h.rowlen id hid]; exact h.2.1
  obtain ⟨xs, hx⟩ : ∃ xs, rows.getD id [] = xs := ⟨_, rfl⟩
  rw [hx] at hr hl ⊢
  clear h hx
  go_enter Tryz.func96, Tryz.ntmps96
  go_wp2_with fail
  refine hr.out.mono ?_
  rintro e w1 ⟨ad, c, he, hc, hrd, m, rfl⟩
  subst he
  have HRD := Lib.hid hrd
  clear hrd
  go_wp2_with fail
  refine (Clone_calls (some ad) c xs _ HRD.out (by omega)).mono ?_
  rintro e w2 ⟨v, he, ho, hv, hb⟩
  subst he
  have hb2 : Below w.heap.size w w2 := (below_drewN_self w m).trans hb
  have HO := Lib.hid (show Own w2 w.heap.size 21 .i32 v xs from ho)
  clear ho hv
  go_wp2_with fail
  go_ret2
  exact ⟨_, rfl, HO.out, hb2⟩
theorem far_nil (ys : List Int) : far [] ys = 0 := by simp [far, farN, sumTo]
theorem iFar_none (b dim : Nat) (rows : List (List Int)) (id : Int) (B : Option Addr) (d : Nat) (ys : List Int) (w : World) (h : It w b dim rows) (hid : id < 0 ∨ (rows.length : Int) ≤ id) (hb : Rd w .i32 B ys) (rb : R32 ys) :
    Calls Tryz.prog 138 #[.pointer (some ⟨b, 0, none⟩), .int .i64 id, .slice B ys.length d] w fun e w' => e = .returned (.int .i64 0) ∧ Below w.heap.size w w' := by
  have hr := Lib.hid (row_none b dim rows id w h hid)
  have KB := Lib.hid hb
  have RB := Lib.hid rb
  clear h hb rb
  go_enter Tryz.func138, Tryz.ntmps138
  go_wp2_with fail
  refine hr.out.mono ?_
  rintro e w1 ⟨he, m, rfl⟩
  subst he
  go_wp2_with fail
  refine (Far_calls none B 0 d [] ys _ (Rd.nil _ _ _) (KB.out.drewN _) (by intro x hx; cases hx) RB.out).mono ?_
  rintro e w2 ⟨he, m2, rfl⟩
  rw [far_nil, wrap64_zero] at he
  subst he
  go_wp2_with fail
  go_ret
  exact ⟨rfl, below_drewN_self w _⟩
theorem iFar_calls (b dim : Nat) (rows : List (List Int)) (id : Nat) (B : Option Addr) (d : Nat) (ys : List Int) (w : World) (h : It w b dim rows) (hid : id < rows.length) (hr32 : R32 (rows.getD id [])) (hb : Rd w .i32 B ys) (rb : R32 ys) :
    Calls Tryz.prog 138 #[.pointer (some ⟨b, 0, none⟩), .int .i64 id, .slice B ys.length d] w fun e w' => e = .returned (.int .i64 (wrap64 (far (rows.getD id []) ys))) ∧ Below w.heap.size w w' := by
  have hr := Lib.hid (row_calls b dim rows id w h hid)
  obtain ⟨xs, hx⟩ : ∃ xs, rows.getD id [] = xs := ⟨_, rfl⟩
  rw [hx] at hr hr32 ⊢
  have KB := Lib.hid hb
  have RB := Lib.hid rb
  have RX := Lib.hid hr32
  clear h hb rb hr32 hx
  go_enter Tryz.func138, Tryz.ntmps138
  go_wp2_with fail
  refine hr.out.mono ?_
  rintro e w1 ⟨ad, c, he, hc, hrd, m, rfl⟩
  subst he
  have HRD := Lib.hid hrd
  clear hrd
  go_wp2_with fail
  refine (Far_calls (some ad) B c d xs ys _ HRD.out (KB.out.drewN _) RX.out RB.out).mono ?_
  rintro e w2 ⟨he, m2, rfl⟩
  subst he
  go_wp2_with fail
  go_ret
  exact ⟨rfl, below_drewN_self w _⟩

theorem Add_bad (b dim : Nat) (rows : List (List Int)) (B : Option Addr) (d : Nat) (ys : List Int) (f : Int) (w : World) (h : It w b dim rows) (hb : Rd w .i32 B ys) (hf : checkV ys dim = f) (hf0 : f ≠ 0) :
    Calls Tryz.prog 83 #[.pointer (some ⟨b, 0, none⟩), .slice B ys.length d] w fun e w' => e = .returned (.tuple #[.int .i64 0, .int .i64 f]) ∧ w = w' := by
  obtain ⟨h1, h2, h3, h4, A, c, h5, h6, h7⟩ := h
  have hc0 : w.cell? ⟨b, 0, none⟩ = some (.int .i64 dim) := by simp [World.cell?, h5]
  have KB := Lib.hid hb
  have HF := Lib.hid hf
  have hf1 : (f != 0) = true := by simp [hf0]
  clear h5 h6 hb hf hf0
  go_enter Tryz.func83, Tryz.ntmps83
  go_wp2_with fail
  refine (Check_calls B d ys dim _ KB.out).mono ?_
  rintro e _ ⟨he, rfl⟩
  rw [HF.out] at he
  subst he
  go_wp2_with fail
  go_ret2
  exact ⟨rfl, rfl⟩
set_option maxRecDepth 100000 in
theorem Add_calls (b dim : Nat) (rows : List (List Int)) (B : Option Addr) (d : Nat) (ys : List Int) (w : World) (h : It w b dim rows) (hb : Rd w .i32 B ys) (hf : checkV ys dim = 0) (hn : rows.length < 1048576) :
    Calls Tryz.prog 83 #[.pointer (some ⟨b, 0, none⟩), .slice B ys.length d] w fun e w' => e = .returned (.tuple #[.int .i64 rows.length, .int .i64 0]) ∧ It w' b dim (rows ++ [ys]) ∧ Below b w w' := by
  have hlen := Lib.hid (Len_calls b dim rows w h)
  have hlt := h.lt
  obtain ⟨h1, h2, h3, h4, A, c, h5, h6, h7⟩ := h
  have hyl : ys.length = dim := by
    unfold checkV at hf
    split at hf
    · cases hf
    · split at hf
      · cases hf
      · omega
  have hfl := flat_length h3
  have hfb : rows.flatten.length ≤ 1073741824 := by rw [hfl]; exact Nat.le_trans (Nat.mul_le_mul h4 h2) (by omega)
  have hfin : ∀ w' A' c', w'.heap[b]? = some (.cells #[.int .i64 dim, .slice A' (rows.flatten.length + ys.length) c'] 166 (0, 0)) → Own w' (b + 1) 21 .i32 (.slice A' (rows.flatten.length + ys.length) c') (rows.flatten ++ ys) → rows.flatten.length + ys.length ≤ c' → It w' b dim (rows ++ [ys]) := fun w' A' c' x y z => by
    have e : (rows ++ [ys]).flatten = rows.flatten ++ ys := by simp
    have e2 : (rows ++ [ys]).flatten.length = rows.flatten.length + ys.length := by rw [e, List.length_append]
    refine ⟨h1, h2, ?_, by simp; omega, A', c', by rw [e2]; exact x, by rw [e2, e]; exact y, by rw [e2]; exact z⟩
    intro r hr
    rcases List.mem_append.1 hr with hr | hr
    · exact h3 r hr
    · simp at hr; rw [hr]; exact hyl
  have HFIN := Lib.hid hfin
  obtain ⟨L, hL⟩ : ∃ L, rows.flatten = L := ⟨_, rfl⟩
  obtain ⟨n, hnn⟩ : ∃ n, rows.length = n := ⟨_, rfl⟩
  rw [hL] at h5 h6 h7 hfb HFIN
  rw [hnn] at hlen hn ⊢
  have hc0 : w.cell? ⟨b, 0, none⟩ = some (.int .i64 dim) := by simp [World.cell?, h5]
  have hc1 : w.cell? ⟨b, 1, none⟩ = some (.slice A L.length c) := by simp [World.cell?, h5]
  have hn' : decide ((1048576 : Int) ≤ (n : Int)) = false := decide_eq_false (by omega)
  have KB := Lib.hid hb
  have HF := Lib.hid hf
  have H5 := Lib.hid h5
  have H6 := Lib.hid h6
  have hyb : ys.length ≤ 1024 := by omega
  clear h5 h6 hb hf hL hnn hfin hfl h3 hyl hn
  go_enter Tryz.func83, Tryz.ntmps83
  go_wp2_with fail
  refine (Check_calls B d ys dim _ KB.out).mono ?_
  rintro e _ ⟨he, rfl⟩
  rw [HF.out] at he
  subst he
  go_wp2_with fail
  refine hlen.out.mono ?_
  rintro e w1 ⟨he, m, rfl⟩
  subst he
  have hc1' : (w.drewN m).cell? ⟨b, 1, none⟩ = some (.slice A L.length c) := hc1
  go_wp2_with (at_builtin; refine wpList_appI _ rfl (.tmp 25) (.tmp 26) 29 21 rfl .i32 4 Tryz.underlying29 info_i32 (by omega) (b + 1) (.slice A L.length c) L rfl B d ys rfl (H6.out.keep (below_drewN_self w m)) w (below_drewN (Below.refl _ _) m) (by show b + 1 ≤ w.heap.size; omega) (KB.out.drewN _) (by omega) ?_; intro v1 w2 ho hgrow hbel hat hnil; obtain ⟨A1, c1, rfl, hcc, _⟩ := ho.shape; have hob := hgrow.obj (b := b) H5.out (fun hk => by have := own_base (H6.out) b hk; omega); rw [List.length_append] at ho hcc ⊢; have hcb : w2.cell? ⟨b, 1, none⟩ = some (.slice A L.length c) := (by simp [World.cell?, hob]); have hfb2 : w2.frozen? ⟨b, 1, none⟩ = false := (by simp [World.frozen?, hob]); have HOB := Lib.hid hob; have HO := Lib.hid ho; clear ho hob hat hnil hgrow)
  go_ret2
  exact ⟨rfl, HFIN.out _ A1 c1 (set_blk (cs := [_, _]) HOB.out 1 _) (HO.out.only (only_set _ _ _ _) fun k hk e => by have := (HO.out.lt k hk).1; omega) hcc, below_set (hbel.mono (by omega)) (Nat.le_refl _) _ _⟩
end Go.Proofs.YticdmglondpgaaaGreat

/-! ## Data: Items made at once (data.Of), and what the statements of layer 10 share. Condition of each: the lists are in memory as the word says. -/
namespace Go.Proofs.YticdmglondpgaaaGreat
open Go.RowKit
set_option linter.unusedVariables false
set_option maxRecDepth 100000
set_option linter.unusedSimpArgs false

/-! ### the first error of many -/
def chkL (dim : Int) : List (List Int) → Int
  | [] => 0
  | x :: xs => if checkV x dim ≠ 0 then checkV x dim else chkL dim xs
def chkV (dim : Int) (ls : List (List Int)) : Int := if dim < 1 ∨ 1024 < dim then 1 else chkL dim ls
theorem chkL_bad {dim : Int} {ls : List (List Int)} (i : Nat) (hi : i < ls.length) (h : ∀ j, j < i → checkV (ls.getD j []) dim = 0) (hb : checkV (ls.getD i []) dim ≠ 0) : chkL dim ls = checkV (ls.getD i []) dim := by
  induction ls generalizing i with
  | nil => simp at hi
  | cons x xs ih =>
    unfold chkL
    cases i with
    | zero =>
      have e : (x :: xs).getD 0 [] = x := rfl
      rw [e] at hb ⊢
      rw [if_pos hb]
    | succ i =>
      have h0 := h 0 (by omega)
      have e0 : (x :: xs).getD 0 [] = x := rfl
      have e : ∀ j, (x :: xs).getD (j + 1) [] = xs.getD j [] := fun j => by simp [List.getD]
      rw [e0] at h0
      rw [e] at hb ⊢
      rw [if_neg (by simp [h0])]
      exact ih i (by simpa using hi) (fun j hj => by have := h (j + 1) (by omega); rwa [e] at this) hb
theorem chkL_good {dim : Int} {ls : List (List Int)} (h : ∀ j, j < ls.length → checkV (ls.getD j []) dim = 0) : chkL dim ls = 0 := by
  induction ls with
  | nil => rfl
  | cons x xs ih =>
    unfold chkL
    have h0 := h 0 (by simp)
    have e0 : (x :: xs).getD 0 [] = x := rfl
    rw [e0] at h0
    rw [if_neg (by simp [h0])]
    exact ih fun j hj => by
      have := h (j + 1) (by simpa using hj)
      simpa [List.getD] using this
theorem take_snoc (ls : List (List Int)) (i : Nat) (hi : i < ls.length) : ls.take (i + 1) = ls.take i ++ [ls.getD i []] := by
  rw [List.take_add_one]
  simp [List.getD, hi]

def OfPost (w : World) (dim : Int) (ls : List (List Int)) (e : Ending) (w' : World) : Prop :=
  ∃ v f, e = .returned (.tuple #[v, .int .i64 f]) ∧ chkV dim ls = f ∧ (f ≠ 0 → v = .pointer none) ∧ (f = 0 → ∃ b, v = .pointer (some ⟨b, 0, none⟩) ∧ w.heap.size ≤ b ∧ It w' b dim.toNat ls) ∧ Below w.heap.size w w'
set_option maxHeartbeats 1600000 in
theorem Of_calls (dim : Int) (A : Option Addr) (c : Nat) (ls : List (List Int)) (w : World) (ha : Rows w .i32 A ls) (hl : ls.length ≤ 1000) :
    Calls Tryz.prog 44 #[.int .i64 dim, .slice A ls.length c] w (OfPost w dim ls) := by
  have KA := Lib.hid ha
  clear ha
  by_cases hd : dim < 1 ∨ 1024 < dim
  · have e1 : chkV dim ls = 1 := by unfold chkV; rw [if_pos hd]
    have HE := Lib.hid e1
    have HD := Lib.hid hd
    clear e1 hd
    go_enter Tryz.func44, Tryz.ntmps44
    go_wp2_with fail
    refine (New_none dim _ HD.out).mono ?_
    rintro e _ ⟨he, rfl⟩
    subst he
    go_wp2_with fail
    go_ret2
    exact ⟨_, _, rfl, HE.out, fun _ => rfl, fun h => by omega, Below.refl _ _⟩
  · obtain ⟨D, rfl⟩ : ∃ k : Nat, dim = k := ⟨dim.toNat, by omega⟩
    have hd1 : 1 ≤ D := by omega
    have hd2 : D ≤ 1024 := by omega
    have e1 : chkV D ls = chkL D ls := by unfold chkV; rw [if_neg hd]
    obtain ⟨F, hF⟩ : ∃ f, chkL D ls = f := ⟨_, rfl⟩
    have e2 : chkV D ls = F := e1.trans hF
    have HE := Lib.hid e2
    have HF := Lib.hid hF
    clear e1 e2 hd hF
    go_enter Tryz.func44, Tryz.ntmps44
    go_wp2_with fail
    refine (New_calls D _ hd1 hd2).mono ?_
    rintro e w1 ⟨he, hit, hb1⟩
    subst he
    have HI := Lib.hid hit
    have hz1 : w.heap.size < w1.heap.size := hit.lt
    clear hit
    go_wp2_with fail
    go_loopg [22] ls.length (fun kq v22 w' => kq ≤ ls.length ∧ v22 = .int .i64 ((ls.length - kq : Nat)) ∧ It w' w.heap.size D (ls.take (ls.length - kq)) ∧ (∀ j, j < ls.length - kq → checkV (ls.getD j []) D = 0) ∧ Below w.heap.size w w')
    case atStart => exact ⟨Nat.le_refl _, by simp, by rw [Nat.sub_self]; exact HI.out, fun j hj => by omega, hb1⟩
    case round =>
      obtain ⟨hk, rfl, hit, hall, hb⟩ := hrel
      have HIT := Lib.hid hit
      have HALL := Lib.hid hall
      have HB := Lib.hid hb
      have hzr := hb.size
      clear hit hall hb HI
      cases gk with
      | zero =>
        simp only [Nat.sub_zero] at HIT HALL ⊢
        have hF0 : F = 0 := by rw [← HF.out]; exact chkL_good HALL.out
        rw [List.take_length] at HIT
        go_wp2_with fail
        go_ret2
        exact ⟨_, _, rfl, by rw [HE.out, hF0], fun h => by omega, fun _ => ⟨w.heap.size, rfl, Nat.le_refl _, HIT.out⟩, HB.out⟩
      | succ k1 =>
        obtain ⟨i, hi⟩ : ∃ i, ls.length - (k1 + 1) = i := ⟨_, rfl⟩
        have hi2 : ls.length - k1 = i + 1 := by omega
        have HI2 := Lib.hid hi2
        have hlt : i < ls.length := by omega
        rw [hi] at HIT HALL ⊢
        obtain ⟨ad, B, cB, rfl, hcell, hcB, hrd⟩ := (KA.out.below HB.out).2 i hlt
        obtain ⟨xs, hxs⟩ : ∃ xs, ls.getD i [] = xs := ⟨_, rfl⟩
        rw [hxs] at hcell hcB hrd
        have HXS := Lib.hid hxs
        have HRD := Lib.hid hrd
        obtain ⟨f, hf⟩ : ∃ f, checkV xs D = f := ⟨_, rfl⟩
        have HFF := Lib.hid hf
        have htl : (ls.take i).length = i := by simp; omega
        have HTL := Lib.hid htl
        clear hi hi2 hxs hrd hf htl
        by_cases hf0 : f = 0
        · subst hf0
          go_wp2_with fail
          refine (Add_calls w.heap.size D (ls.take i) B cB xs _ HIT.out HRD.out HFF.out (by rw [HTL.out]; omega)).mono ?_
          rintro e w2 ⟨he, hit, hb⟩
          rw [HTL.out] at he
          subst he
          have HIT2 := Lib.hid hit
          have HB2 := Lib.hid (HB.out.trans hb)
          clear hit hb
          go_wp2_with fail
          go_roundg k1
          case measure => omega
          case rel =>
            rw [HI2.out]
            refine ⟨by omega, rfl, by rw [take_snoc _ _ hlt, HXS.out]; exact HIT2.out, fun j hj => ?_, HB2.out⟩
            by_cases hji : j = i
            · subst hji; rw [HXS.out]; exact HFF.out
            · exact HALL.out j (by omega)
        · have hf1 : (f != 0) = true := by simp [hf0]
          have hFf : F = f := by rw [← HF.out, chkL_bad i hlt HALL.out (by rw [HXS.out, HFF.out]; exact hf0), HXS.out, HFF.out]
          have HG := Lib.hid hFf
          have HN0 := Lib.hid hf0
          clear hFf hf0
          go_wp2_with fail
          refine (Add_bad w.heap.size D (ls.take i) B cB xs f _ HIT.out HRD.out HFF.out HN0.out).mono ?_
          rintro e _ ⟨he, rfl⟩
          subst he
          go_wp2_with fail
          go_ret2
          exact ⟨_, _, rfl, by rw [HE.out, HG.out], fun _ => rfl, fun h => absurd h HN0.out, HB.out⟩

theorem refCheckL_calls (dim : Int) (A : Option Addr) (c : Nat) (ls : List (List Int)) (w : World) (ha : Rows w .i32 A ls) (hl : ls.length ≤ 1000) :
    Calls Tryz.prog 38 #[.int .i64 dim, .slice A ls.length c] w fun e w' => e = .returned (.int .i64 (chkV dim ls)) ∧ w = w' := by
  have KA := Lib.hid ha
  clear ha
  by_cases h1 : dim < 1
  · have e1 : chkV dim ls = 1 := by unfold chkV; rw [if_pos (.inl h1)]
    rw [e1]
    have h1' : decide (dim < 1) = true := decide_eq_true h1
    go_enter Tryz.func38, Tryz.ntmps38
    go_wp2_with fail
    go_ret
    exact ⟨rfl, rfl⟩
  have h1' : decide (dim < 1) = false := decide_eq_false h1
  by_cases h2 : 1024 < dim
  · have e1 : chkV dim ls = 1 := by unfold chkV; rw [if_pos (.inr h2)]
    rw [e1]
    have h2' : decide (1024 < dim) = true := decide_eq_true h2
    go_enter Tryz.func38, Tryz.ntmps38
    go_wp2_with fail
    go_ret
    exact ⟨rfl, rfl⟩
  have h2' : decide (1024 < dim) = false := decide_eq_false h2
  have e1 : chkV dim ls = chkL dim ls := by unfold chkV; rw [if_neg (by omega)]
  rw [e1]
  obtain ⟨F, hF⟩ : ∃ f, chkL dim ls = f := ⟨_, rfl⟩
  rw [hF]
  have HF := Lib.hid hF
  clear e1 hF
  go_enter Tryz.func38, Tryz.ntmps38
  go_wp2_with fail
  go_loopg [5] ls.length (fun kq v5 w' => kq ≤ ls.length ∧ v5 = .int .i64 ((ls.length - kq : Nat)) ∧ (∀ j, j < ls.length - kq → checkV (ls.getD j []) dim = 0) ∧ w' = w)
  case atStart => exact ⟨Nat.le_refl _, by simp, fun j hj => by omega, rfl⟩
  case round =>
    obtain ⟨hk, rfl, hall, rfl⟩ := hrel
    have HALL := Lib.hid hall
    clear hall
    cases gk with
    | zero =>
      simp only [Nat.sub_zero] at HALL ⊢
      obtain rfl : F = 0 := by rw [← HF.out]; exact chkL_good HALL.out
      go_wp2_with fail
      go_ret
      exact ⟨rfl, rfl⟩
    | succ k1 =>
      obtain ⟨i, hi⟩ : ∃ i, ls.length - (k1 + 1) = i := ⟨_, rfl⟩
      have hi2 : ls.length - k1 = i + 1 := by omega
      have HI2 := Lib.hid hi2
      have hlt : i < ls.length := by omega
      rw [hi] at HALL ⊢
      obtain ⟨ad, B, cB, rfl, hcell, hcB, hrd⟩ := KA.out.2 i hlt
      obtain ⟨xs, hxs⟩ : ∃ xs, ls.getD i [] = xs := ⟨_, rfl⟩
      rw [hxs] at hcell hcB hrd
      have HXS := Lib.hid hxs
      have HRD := Lib.hid hrd
      obtain ⟨f, hf⟩ : ∃ f, checkV xs dim = f := ⟨_, rfl⟩
      have HFF := Lib.hid hf
      clear hi hi2 hxs hrd hf
      by_cases hf0 : f = 0
      · subst hf0
        go_wp2_with fail
        refine (refCheck_calls B cB xs dim _ HRD.out).mono ?_
        rintro e _ ⟨he, rfl⟩
        rw [HFF.out] at he
        subst he
        go_wp2_with fail
        go_roundg k1
        case measure => omega
        case rel =>
          rw [HI2.out]
          refine ⟨by omega, rfl, fun j hj => ?_, rfl⟩
          by_cases hji : j = i
          · subst hji; rw [HXS.out]; exact HFF.out
          · exact HALL.out j (by omega)
      · have hf1 : (f != 0) = true := by simp [hf0]
        have hFf : F = f := by rw [← HF.out, chkL_bad i hlt HALL.out (by rw [HXS.out, HFF.out]; exact hf0), HXS.out, HFF.out]
        have HG := Lib.hid hFf
        clear hFf hf0
        go_wp2_with fail
        refine (refCheck_calls B cB xs dim _ HRD.out).mono ?_
        rintro e _ ⟨he, rfl⟩
        rw [HFF.out] at he
        subst he
        go_wp2_with fail
        go_ret
        refine ⟨?_, rfl⟩
        rw [HG.out]
        rfl
def FewPost (w : World) (ls : List (List Int)) (e : Ending) (w' : World) : Prop := ∃ b, e = .returned (.bool b) ∧ (b = true → ls.length ≤ 301) ∧ w = w'
theorem Few_calls (A : Option Addr) (c : Nat) (ls : List (List Int)) (w : World) (ha : Rows w .i32 A ls) :
    Calls Tryz.prog 72 #[.slice A ls.length c] w (FewPost w ls) := by
  have KA := Lib.hid ha
  have hl := ha.1
  clear ha
  go_enter Tryz.func72, Tryz.ntmps72
  go_wp2_with fail
  go_loopg [3, 4] ls.length (fun kq v3 v4 w' => kq ≤ ls.length ∧ (∃ n, v3 = .int .i64 n) ∧ v4 = .int .i64 ((ls.length - kq : Nat)) ∧ ls.length - kq ≤ 301 ∧ w' = w)
  case atStart => exact ⟨Nat.le_refl _, ⟨_, rfl⟩, by simp, by omega, rfl⟩
  case round =>
    obtain ⟨hk, ⟨n, rfl⟩, rfl, hi3, rfl⟩ := hrel
    cases gk with
    | zero =>
      simp only [Nat.sub_zero] at hi3 ⊢
      go_wp2_with fail
      go_ret
      exact ⟨true, rfl, fun _ => (by omega), rfl⟩
    | succ k1 =>
      obtain ⟨i, hi⟩ : ∃ i, ls.length - (k1 + 1) = i := ⟨_, rfl⟩
      have hi2 : ls.length - k1 = i + 1 := by omega
      have HI2 := Lib.hid hi2
      have hlt : i < ls.length := by omega
      rw [hi] at hi3 ⊢
      obtain ⟨ad, B, cB, rfl, hcell, hcB, hrd⟩ := KA.out.2 i hlt
      obtain ⟨m, hm⟩ : ∃ m, (ls.getD i []).length = m := ⟨_, rfl⟩
      rw [hm] at hcell
      obtain ⟨q, hq⟩ : ∃ q, IntKind.i64.wrap (n + (m : Int)) = q := ⟨_, rfl⟩
      clear hi hi2 hrd hm hcB
      by_cases h1 : 6000 < q
      · have h1' : decide (6000 < q) = true := decide_eq_true h1
        go_wp2_with fail
        go_ret
        exact ⟨false, rfl, fun h => (by cases h), rfl⟩
      have h1' : decide (6000 < q) = false := decide_eq_false h1
      by_cases h2 : 300 < i
      · have h2' : decide (300 < i) = true := decide_eq_true h2
        go_wp2_with fail
        go_ret
        exact ⟨false, rfl, fun h => (by cases h), rfl⟩
      have h2' : decide (300 < i) = false := decide_eq_false h2
      go_wp2_with fail
      go_roundg k1
      case measure => omega
      case rel =>
        rw [HI2.out]
        exact ⟨by omega, ⟨_, rfl⟩, rfl, by omega, rfl⟩
end Go.Proofs.YticdmglondpgaaaGreat

/-! ## Law10: What the statements of layer 10 (data) share: the document's example answers true. No condition. -/
namespace Go.Proofs.YticdmglondpgaaaGreat
open Go.RowKit
set_option linter.unusedVariables false
set_option maxRecDepth 100000
set_option linter.unusedSimpArgs false

theorem rows_two (w : World) (t1 t2 : TypeId) : Rows (((w.alloc (.cells #[.int .i32 1, .int .i32 2] t1)).alloc (.cells #[.int .i32 3, .int .i32 4] t1)).alloc (.cells #[.slice (some ⟨w.heap.size, 0, none⟩) 2 2, .slice (some ⟨w.heap.size + 1, 0, none⟩) 2 2] t2)) .i32 (some ⟨w.heap.size + 2, 0, none⟩) [[1, 2], [3, 4]] := by
  have r1 : Rd (((w.alloc (.cells #[.int .i32 1, .int .i32 2] t1)).alloc (.cells #[.int .i32 3, .int .i32 4] t1)).alloc (.cells #[.slice (some ⟨w.heap.size, 0, none⟩) 2 2, .slice (some ⟨w.heap.size + 1, 0, none⟩) 2 2] t2)) .i32 (some ⟨w.heap.size, 0, none⟩) [1, 2] :=
    ((Rd.new w .i32 [1, 2] t1 (by simp)).alloc _).alloc _
  have r2 : Rd (((w.alloc (.cells #[.int .i32 1, .int .i32 2] t1)).alloc (.cells #[.int .i32 3, .int .i32 4] t1)).alloc (.cells #[.slice (some ⟨w.heap.size, 0, none⟩) 2 2, .slice (some ⟨w.heap.size + 1, 0, none⟩) 2 2] t2)) .i32 (some ⟨w.heap.size + 1, 0, none⟩) [3, 4] := by
    have h := (Rd.new (w.alloc (.cells #[.int .i32 1, .int .i32 2] t1)) .i32 [3, 4] t1 (by simp)).alloc (.cells #[.slice (some ⟨w.heap.size, 0, none⟩) 2 2, .slice (some ⟨w.heap.size + 1, 0, none⟩) 2 2] t2)
    rw [World.size_alloc] at h
    exact h
  have hb := heap_alloc_new ((w.alloc (.cells #[.int .i32 1, .int .i32 2] t1)).alloc (.cells #[.int .i32 3, .int .i32 4] t1)) (.cells #[.slice (some ⟨w.heap.size, 0, none⟩) 2 2, .slice (some ⟨w.heap.size + 1, 0, none⟩) 2 2] t2)
  rw [World.size_alloc, World.size_alloc] at hb
  refine ⟨by simp, fun j hj => ?_⟩
  simp at hj
  rcases (by omega : j = 0 ∨ j = 1) with rfl | rfl
  · exact ⟨_, _, 2, rfl, by rw [add_plain]; exact cell_blk (cs := [_, _]) hb 0, by simp, r1⟩
  · exact ⟨_, _, 2, rfl, by rw [add_plain]; exact cell_blk (cs := [_, _]) hb 1, by simp, r2⟩
theorem chk_two : chkV 2 [[1, 2], [3, 4]] = 0 := by decide
end Go.Proofs.YticdmglondpgaaaGreat

/-! ## Exact1: Package exact: Check. Condition: there is an item. -/
namespace Go.Proofs.YticdmglondpgaaaGreat
open Go.RowKit
set_option linter.unusedVariables false
set_option maxRecDepth 100000
set_option linter.unusedSimpArgs false

attribute [local go_sem] Oper.semAt_some

/-- What exact.Check answers. -/
def exactE (ys : List Int) (dim k : Int) : Int := if checkV ys dim ≠ 0 then checkV ys dim else if k < 0 ∨ 1048576 < k then 1 else 0
theorem ECheck_calls (b dim : Nat) (rows : List (List Int)) (A : Option Addr) (c : Nat) (ys : List Int) (k : Int) (w : World) (hI : It w b dim rows) (h1 : 1 ≤ rows.length) (hV : Rd w .i32 A ys) :
    Calls Tryz.prog 45 #[.pointer (some ⟨b, 0, none⟩), .slice A ys.length c, .int .i64 k] w fun e w' => e = .returned (.int .i64 (exactE ys dim k)) ∧ Below w.heap.size w w' := by
  obtain ⟨n, hn⟩ : ∃ n, rows.length = n := ⟨_, rfl⟩
  have HLN := Lib.hid (hn ▸ Len_calls b dim rows w hI)
  have HI := Lib.hid hI
  have HV := Lib.hid hV
  rw [hn] at h1
  have hz : ((n : Int) == 0) = false := by simp; omega
  have hz2 : ¬ (n : Int) = 0 := by omega
  have hz3 : ¬ n = 0 := by omega
  obtain ⟨f, hf⟩ : ∃ f, checkV ys dim = f := ⟨_, rfl⟩
  have HF := Lib.hid hf
  clear hI hV hn hf
  go_enter Tryz.func45, Tryz.ntmps45
  go_wp2_with fail
  refine HLN.out.mono ?_
  rintro e w1 ⟨he, nq, hw1⟩
  subst he
  have hb1 : Below w.heap.size w w1 := by rw [hw1]; exact below_drewN_self _ _
  have HB1 := Lib.hid hb1
  have HDI := Lib.hid (Dim_calls b dim rows w1 (HI.out.below hb1))
  have HCK := Lib.hid (Check_calls A c ys dim w1 (HV.out.below hb1))
  clear hb1 hw1
  go_wp2_with fail
  refine HDI.out.mono ?_
  rintro e w2 ⟨he, hw2⟩
  subst he hw2
  go_wp2_with fail
  refine HCK.out.mono ?_
  rintro e w2 ⟨he, hw2⟩
  rw [HF.out] at he
  subst he hw2
  by_cases hfz : f = 0
  · subst hfz
    by_cases hk : k < 0
    · have hk' : decide (k < 0) = true := decide_eq_true hk
      go_wp2_with fail
      go_ret
      exact ⟨by unfold exactE; rw [if_neg (by rw [HF.out]; simp), if_pos (.inl hk)]; rfl, HB1.out⟩
    · have hk' : decide (k < 0) = false := decide_eq_false hk
      by_cases hk2 : 1048576 < k
      · have hk2' : decide (1048576 < k) = true := decide_eq_true hk2
        go_wp2_with fail
        go_ret
        exact ⟨by unfold exactE; rw [if_neg (by rw [HF.out]; simp), if_pos (.inr hk2)]; rfl, HB1.out⟩
      · have hk2' : decide (1048576 < k) = false := decide_eq_false hk2
        go_wp2_with fail
        go_ret
        exact ⟨by unfold exactE; rw [if_neg (by rw [HF.out]; simp), if_neg (by omega)]; rfl, HB1.out⟩
  · have hfz' : (f != 0) = true := by simp [hfz]
    go_wp2_with fail
    go_ret
    exact ⟨by unfold exactE; rw [HF.out, if_pos hfz]; rfl, HB1.out⟩
end Go.Proofs.YticdmglondpgaaaGreat
