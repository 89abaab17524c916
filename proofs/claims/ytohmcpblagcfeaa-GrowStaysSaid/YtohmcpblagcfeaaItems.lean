
/-
  The items (package data): what they hold in memory, and the contract of each method. Condition of each: the items' blocks are as the word says.
-/
import Derived.Test.YtohmcpblagcfeaaMat
import Derived.Test.YtohmcpblagcfeaaVec
namespace Go.Proofs.Ytohmcpblagcfeaa
open Go.RowKit
set_option linter.unusedVariables false
set_option maxRecDepth 100000
set_option linter.unusedSimpArgs false

theorem flat_length {rows : List (List Int)} {dim : Nat} (h : ∀ r ∈ rows, r.length = dim) : rows.flatten.length = rows.length * dim := by
  induction rows with
  | nil => simp
  | cons r rs ih =>
    rw [List.flatten_cons, List.length_append, ih fun x hx => h x (List.mem_cons_of_mem _ hx), h r (List.mem_cons_self), List.length_cons, Nat.succ_mul]
    omega
theorem flat_get {rows : List (List Int)} {dim : Nat} (h : ∀ r ∈ rows, r.length = dim) (i j : Nat) (hi : i < rows.length) (hj : j < dim) : rows.flatten.getD (i * dim + j) 0 = (rows.getD i []).getD j 0 := by
  induction rows generalizing i with
  | nil => simp at hi
  | cons r rs ih =>
    have hr := h r (List.mem_cons_self)
    rw [List.flatten_cons]
    cases i with
    | zero =>
      simp only [List.getD]
      rw [Nat.zero_mul, Nat.zero_add, List.getElem?_append_left (by omega)]
      simp
    | succ i =>
      have h2 := ih (fun x hx => h x (List.mem_cons_of_mem _ hx)) i (by simpa using hi)
      simp only [List.getD] at h2 ⊢
      rw [Nat.succ_mul, List.getElem?_append_right (by omega), show i * dim + dim + j - r.length = i * dim + j by omega, h2]
      simp
theorem row_length {rows : List (List Int)} {dim : Nat} (h : ∀ r ∈ rows, r.length = dim) (i : Nat) (hi : i < rows.length) : (rows.getD i []).length = dim := h _ (by simp [List.getD, hi])

def It (w : World) (b dim : Nat) (rows : List (List Int)) : Prop :=
  1 ≤ dim ∧ dim ≤ 1024 ∧ (∀ r ∈ rows, r.length = dim) ∧ rows.length ≤ 1048576 ∧ ∃ A c, w.heap[b]? = some (.cells #[.int .i64 dim, .slice A rows.flatten.length c] 120 (0, 0)) ∧ Own w (b + 1) 21 .i32 (.slice A rows.flatten.length c) rows.flatten ∧ rows.flatten.length ≤ c
theorem It.drewN {w : World} {b dim : Nat} {rows : List (List Int)} (h : It w b dim rows) (n : Nat) : It (w.drewN n) b dim rows := by
  obtain ⟨h1, h2, h3, h4, A, c, h5, h6, h7⟩ := h
  exact ⟨h1, h2, h3, h4, A, c, h5, h6.keep (below_drewN_self w n), h7⟩
theorem It.below {w w1 : World} {b dim : Nat} {rows : List (List Int)} (h : It w b dim rows) (hb : Below w.heap.size w w1) : It w1 b dim rows := by
  obtain ⟨h1, h2, h3, h4, A, c, h5, h6, h7⟩ := h
  exact ⟨h1, h2, h3, h4, A, c, obj_below hb h5 (obj_lt h5), h6.keep hb, h7⟩
theorem It.lt {w : World} {b dim : Nat} {rows : List (List Int)} (h : It w b dim rows) : b < w.heap.size := by
  obtain ⟨_, _, _, _, A, c, h5, _⟩ := h
  exact obj_lt h5
theorem It.rowlen {w : World} {b dim : Nat} {rows : List (List Int)} (h : It w b dim rows) (i : Nat) (hi : i < rows.length) : (rows.getD i []).length = dim := row_length h.2.2.1 i hi

theorem New_none (dim : Int) (w : World) (h : dim < 1 ∨ 1024 < dim) :
    Calls Try.prog 48 #[.int .i64 dim] w fun e w' => e = .returned (.tuple #[.pointer none, .int .i64 1]) ∧ w = w' := by
  by_cases h1 : dim < 1
  · have h1' : decide (dim < 1) = true := decide_eq_true h1
    go_enter Try.func48, Try.ntmps48
    go_wp2_with fail
    go_ret2
    exact ⟨rfl, rfl⟩
  · have h1' : decide (dim < 1) = false := decide_eq_false h1
    have h2' : decide (1024 < dim) = true := decide_eq_true (by omega)
    go_enter Try.func48, Try.ntmps48
    go_wp2_with fail
    go_ret2
    exact ⟨rfl, rfl⟩
theorem New_calls (dim : Nat) (w : World) (h1 : 1 ≤ dim) (h2 : dim ≤ 1024) :
    Calls Try.prog 48 #[.int .i64 dim] w fun e w' => e = .returned (.tuple #[.pointer (some ⟨w.heap.size, 0, none⟩), .int .i64 0]) ∧ It w' w.heap.size dim [] ∧ Below w.heap.size w w' := by
  have h1' : decide ((dim : Int) < 1) = false := decide_eq_false (by omega)
  have h2' : decide (1024 < (dim : Int)) = false := decide_eq_false (by omega)
  go_enter Try.func48, Try.ntmps48
  go_wp2_with fail
  go_ret2
  exact ⟨rfl, ⟨h1, h2, by simp, by simp, none, 0, heap_alloc_new _ _, World.ownsRow_nil _ _ _ _, by simp⟩, below_alloc1 (Below.refl _ _) _⟩
theorem Dim_calls (b dim : Nat) (rows : List (List Int)) (w : World) (h : It w b dim rows) :
    Calls Try.prog 53 #[.pointer (some ⟨b, 0, none⟩)] w fun e w' => e = .returned (.int .i64 dim) ∧ w = w' := by
  obtain ⟨h1, h2, h3, h4, A, c, h5, h6, h7⟩ := h
  have hc0 : w.cell? ⟨b, 0, none⟩ = some (.int .i64 dim) := by simp [World.cell?, h5]
  clear h5 h6
  go_enter Try.func53, Try.ntmps53
  go_wp2_with fail
  go_ret
  exact ⟨rfl, rfl⟩
theorem Len_calls (b dim : Nat) (rows : List (List Int)) (w : World) (h : It w b dim rows) :
    Calls Try.prog 39 #[.pointer (some ⟨b, 0, none⟩)] w fun e w' => e = .returned (.int .i64 rows.length) ∧ ∃ n, w' = w.drewN n := by
  obtain ⟨h1, h2, h3, h4, A, c, h5, h6, h7⟩ := h
  have hl := flat_length h3
  obtain ⟨N, hN⟩ : ∃ N, rows.flatten.length = N := ⟨_, rfl⟩
  obtain ⟨n, hn⟩ : ∃ n, rows.length = n := ⟨_, rfl⟩
  rw [hN] at hl h5
  rw [hn] at hl h4 ⊢
  have hc0 : w.cell? ⟨b, 0, none⟩ = some (.int .i64 dim) := by simp [World.cell?, h5]
  have hc1 : w.cell? ⟨b, 1, none⟩ = some (.slice A N c) := by simp [World.cell?, h5]
  have hd : (N : Int).tdiv (dim : Int) = (n : Int) := by
    rw [Int.tdiv_eq_ediv_of_nonneg (by omega), hl, Int.natCast_mul]
    exact Int.mul_ediv_cancel _ (by omega)
  have hw : IntKind.i64.wrap (n : Int) = (n : Int) := by rw [i64_w]; exact wrap64_id _ (by omega)
  have hd0 : ¬ (dim : Int) = 0 := by omega
  clear h5 h6 h7 hl hN hn h3
  go_enter Try.func39, Try.ntmps39
  go_wp2_with fail
  go_quiet (fail)
  go_wp2_with fail
  go_ret
  exact ⟨rfl, _, rfl⟩
theorem row_none (b dim : Nat) (rows : List (List Int)) (id : Int) (w : World) (h : It w b dim rows) (hid : id < 0 ∨ (rows.length : Int) ≤ id) :
    Calls Try.prog 62 #[.pointer (some ⟨b, 0, none⟩), .int .i64 id] w fun e w' => e = .returned (.slice none 0 0) ∧ ∃ n, w' = w.drewN n := by
  by_cases h1 : id < 0
  · have h1' : decide (id < 0) = true := decide_eq_true h1
    go_enter Try.func62, Try.ntmps62
    go_wp2_with fail
    go_ret
    exact ⟨rfl, 0, rfl⟩
  · have h1' : decide (id < 0) = false := decide_eq_false h1
    obtain ⟨n, hn⟩ : ∃ n, rows.length = n := ⟨_, rfl⟩
    have hl := Len_calls b dim rows w h
    rw [hn] at hl hid
    have h2' : decide ((n : Int) ≤ id) = true := decide_eq_true (by omega)
    have HL := Lib.hid hl
    clear hn hl h
    go_enter Try.func62, Try.ntmps62
    go_wp2_with fail
    refine HL.out.mono ?_
    rintro e w1 ⟨he, m, rfl⟩
    subst he
    go_wp2_with fail
    go_ret
    exact ⟨rfl, m, rfl⟩
theorem row_calls (b dim : Nat) (rows : List (List Int)) (id : Nat) (w : World) (h : It w b dim rows) (hid : id < rows.length) :
    Calls Try.prog 62 #[.pointer (some ⟨b, 0, none⟩), .int .i64 id] w fun e w' => ∃ ad c, e = .returned (.slice (some ad) (rows.getD id []).length c) ∧ (rows.getD id []).length ≤ c ∧ Rd w' .i32 (some ad) (rows.getD id []) ∧ ∃ n, w' = w.drewN n := by
  have hlen := Lib.hid (Len_calls b dim rows w h)
  have hrl := Lib.hid (h.rowlen id hid)
  obtain ⟨h1, h2, h3, h4, A, c, h5, h6, h7⟩ := h
  have hfl := flat_length h3
  have hle : id * dim + dim ≤ rows.flatten.length := by
    rw [hfl, ← Nat.succ_mul]
    exact Nat.mul_le_mul_right _ hid
  obtain ⟨g, rfl, hg1, hg2, hcell, _⟩ := h6.at_ 0 (by omega)
  have hget : ∀ j, j < dim → w.cell? ⟨g, id * dim + j, none⟩ = some (.int .i32 ((rows.getD id []).getD j 0)) := fun j hj => by
    obtain ⟨g', e, _, _, hc, _⟩ := h6.at_ (id * dim + j) (by omega)
    injection e with e
    injection e with e
    subst e
    rw [hc, flat_get h3 id j hid hj]
  have HG := Lib.hid hget
  obtain ⟨N, hN⟩ : ∃ N, rows.flatten.length = N := ⟨_, rfl⟩
  obtain ⟨n, hn⟩ : ∃ n, rows.length = n := ⟨_, rfl⟩
  rw [hN] at hle h5 h7
  rw [hn] at h4 hid hlen
  obtain ⟨lo, hlo⟩ : ∃ lo, id * dim = lo := ⟨_, rfl⟩
  rw [hlo] at hle
  have HLO := Lib.hid hlo
  have hc0 : w.cell? ⟨b, 0, none⟩ = some (.int .i64 dim) := by simp [World.cell?, h5]
  have hc1 : w.cell? ⟨b, 1, none⟩ = some (.slice (some ⟨g, 0, none⟩) N c) := by simp [World.cell?, h5]
  have hlob : lo ≤ 1073741824 := by
    rw [← hlo]
    exact Nat.le_trans (Nat.mul_le_mul (show id ≤ 1048576 by omega) h2) (by omega)
  have m1 : IntKind.i64.wrap ((id : Int) * (dim : Int)) = (lo : Int) := by
    rw [i64_w, ← Int.natCast_mul, hlo]
    exact wrap64_id _ (by omega)
  have m0 : IntKind.i64.wrap ((id : Int) + 1) = (id : Int) + 1 := by
    rw [i64_w]
    exact wrap64_id _ (by omega)
  have m2 : IntKind.i64.wrap (((id : Int) + 1) * (dim : Int)) = ((lo + dim : Nat) : Int) := by
    rw [i64_w, show (id : Int) + 1 = ((id + 1 : Nat) : Int) by omega, ← Int.natCast_mul, Nat.succ_mul, hlo]
    exact wrap64_id _ (by omega)
  have h1' : decide ((id : Int) < 0) = false := decide_eq_false (by omega)
  have h2' : decide (n ≤ id) = false := decide_eq_false (by omega)
  clear h5 h6 hcell hget hN hn hlo h3 hfl
  go_enter Try.func62, Try.ntmps62
  go_wp2_with fail
  refine hlen.out.mono ?_
  rintro e w1 ⟨he, m, rfl⟩
  subst he
  go_wp2_with fail
  go_quiet (fail)
  go_wp2_with fail
  go_ret
  have e9 : lo + dim - lo = (rows.getD id []).length := by rw [hrl.out]; omega
  rw [e9]
  refine ⟨⟨g, lo, none⟩, c - lo, rfl, by rw [hrl.out]; omega, ⟨by rw [hrl.out]; omega, fun j hj => ⟨_, rfl, ?_⟩⟩, m + nq, by first | rfl | simp⟩
  rw [hrl.out] at hj
  have e : (⟨g, lo, none⟩ : Addr).add j = ⟨g, lo + j, none⟩ := by unfold Addr.add; split <;> simp_all
  rw [e]
  have := HG.out j hj
  rw [HLO.out] at this
  exact this
theorem At_none (b dim : Nat) (rows : List (List Int)) (id : Int) (w : World) (h : It w b dim rows) (hid : id < 0 ∨ (rows.length : Int) ≤ id) :
    Calls Try.prog 44 #[.pointer (some ⟨b, 0, none⟩), .int .i64 id] w fun e w' => e = .returned (.tuple #[.slice none 0 0, .bool false]) ∧ Below w.heap.size w w' := by
  have hr := Lib.hid (row_none b dim rows id w h hid)
  clear h
  go_enter Try.func44, Try.ntmps44
  go_wp2_with fail
  refine hr.out.mono ?_
  rintro e w1 ⟨he, m, rfl⟩
  subst he
  go_wp2_with fail
  refine (Clone_calls none 0 [] _ (Rd.nil _ _ _) (by simp)).mono ?_
  rintro e w2 ⟨v, he, _, hv, hb⟩
  obtain rfl := hv.2 (by simp)
  subst he
  have hb2 : Below w.heap.size w w2 := (below_drewN_self w m).trans hb
  go_wp2_with fail
  go_ret2
  exact ⟨rfl, hb2⟩
theorem At_calls (b dim : Nat) (rows : List (List Int)) (id : Nat) (w : World) (h : It w b dim rows) (hid : id < rows.length) :
    Calls Try.prog 44 #[.pointer (some ⟨b, 0, none⟩), .int .i64 id] w fun e w' => ∃ v, e = .returned (.tuple #[v, .bool true]) ∧ Own w' w.heap.size 21 .i32 v (rows.getD id []) ∧ Below w.heap.size w w' := by
  have hr := Lib.hid (row_calls b dim rows id w h hid)
  have hl : (rows.getD id []).length ≤ 1024 := by rw [h.rowlen id hid]; exact h.2.1
  obtain ⟨xs, hx⟩ : ∃ xs, rows.getD id [] = xs := ⟨_, rfl⟩
  rw [hx] at hr hl ⊢
  clear h hx
  go_enter Try.func44, Try.ntmps44
  go_wp2_with fail
  refine hr.out.mono ?_
  rintro e w1 ⟨ad, c, he, hc, hrd, m, rfl⟩
  subst he
  have HRD := Lib.hid hrd
  clear hrd
  go_wp2_with fail
  refine (Clone_calls (some ad) c xs _ HRD.out (by omega)).mono ?_
  rintro e w2 ⟨v, he, ho, hv, hb⟩
  subst he
  have hb2 : Below w.heap.size w w2 := (below_drewN_self w m).trans hb
  have HO := Lib.hid (show Own w2 w.heap.size 21 .i32 v xs from ho)
  clear ho hv
  go_wp2_with fail
  go_ret2
  exact ⟨_, rfl, HO.out, hb2⟩
theorem far_nil (ys : List Int) : far [] ys = 0 := by simp [far, farN, sumTo]
theorem Add_bad (b dim : Nat) (rows : List (List Int)) (B : Option Addr) (d : Nat) (ys : List Int) (f : Int) (w : World) (h : It w b dim rows) (hb : Rd w .i32 B ys) (hf : checkV ys dim = f) (hf0 : f ≠ 0) :
    Calls Try.prog 49 #[.pointer (some ⟨b, 0, none⟩), .slice B ys.length d] w fun e w' => e = .returned (.tuple #[.int .i64 0, .int .i64 f]) ∧ w = w' := by
  obtain ⟨h1, h2, h3, h4, A, c, h5, h6, h7⟩ := h
  have hc0 : w.cell? ⟨b, 0, none⟩ = some (.int .i64 dim) := by simp [World.cell?, h5]
  have KB := Lib.hid hb
  have HF := Lib.hid hf
  have hf1 : (f != 0) = true := by simp [hf0]
  clear h5 h6 hb hf hf0
  go_enter Try.func49, Try.ntmps49
  go_wp2_with fail
  refine (Check_calls B d ys dim _ KB.out).mono ?_
  rintro e _ ⟨he, rfl⟩
  rw [HF.out] at he
  subst he
  go_wp2_with fail
  go_ret2
  exact ⟨rfl, rfl⟩
set_option maxRecDepth 100000 in
theorem Add_calls (b dim : Nat) (rows : List (List Int)) (B : Option Addr) (d : Nat) (ys : List Int) (w : World) (h : It w b dim rows) (hb : Rd w .i32 B ys) (hf : checkV ys dim = 0) (hn : rows.length < 1048576) :
    Calls Try.prog 49 #[.pointer (some ⟨b, 0, none⟩), .slice B ys.length d] w fun e w' => e = .returned (.tuple #[.int .i64 rows.length, .int .i64 0]) ∧ It w' b dim (rows ++ [ys]) ∧ Below b w w' := by
  have hlen := Lib.hid (Len_calls b dim rows w h)
  have hlt := h.lt
  obtain ⟨h1, h2, h3, h4, A, c, h5, h6, h7⟩ := h
  have hyl : ys.length = dim := by
    unfold checkV at hf
    split at hf
    · cases hf
    · split at hf
      · cases hf
      · omega
  have hfl := flat_length h3
  have hfb : rows.flatten.length ≤ 1073741824 := by rw [hfl]; exact Nat.le_trans (Nat.mul_le_mul h4 h2) (by omega)
  have hfin : ∀ w' A' c', w'.heap[b]? = some (.cells #[.int .i64 dim, .slice A' (rows.flatten.length + ys.length) c'] 120 (0, 0)) → Own w' (b + 1) 21 .i32 (.slice A' (rows.flatten.length + ys.length) c') (rows.flatten ++ ys) → rows.flatten.length + ys.length ≤ c' → It w' b dim (rows ++ [ys]) := fun w' A' c' x y z => by
    have e : (rows ++ [ys]).flatten = rows.flatten ++ ys := by simp
    have e2 : (rows ++ [ys]).flatten.length = rows.flatten.length + ys.length := by rw [e, List.length_append]
    refine ⟨h1, h2, ?_, by simp; omega, A', c', by rw [e2]; exact x, by rw [e2, e]; exact y, by rw [e2]; exact z⟩
    intro r hr
    rcases List.mem_append.1 hr with hr | hr
    · exact h3 r hr
    · simp at hr; rw [hr]; exact hyl
  have HFIN := Lib.hid hfin
  obtain ⟨L, hL⟩ : ∃ L, rows.flatten = L := ⟨_, rfl⟩
  obtain ⟨n, hnn⟩ : ∃ n, rows.length = n := ⟨_, rfl⟩
  rw [hL] at h5 h6 h7 hfb HFIN
  rw [hnn] at hlen hn ⊢
  have hc0 : w.cell? ⟨b, 0, none⟩ = some (.int .i64 dim) := by simp [World.cell?, h5]
  have hc1 : w.cell? ⟨b, 1, none⟩ = some (.slice A L.length c) := by simp [World.cell?, h5]
  have hn' : decide ((1048576 : Int) ≤ (n : Int)) = false := decide_eq_false (by omega)
  have KB := Lib.hid hb
  have HF := Lib.hid hf
  have H5 := Lib.hid h5
  have H6 := Lib.hid h6
  have hyb : ys.length ≤ 1024 := by omega
  clear h5 h6 hb hf hL hnn hfin hfl h3 hyl hn
  go_enter Try.func49, Try.ntmps49
  go_wp2_with fail
  refine (Check_calls B d ys dim _ KB.out).mono ?_
  rintro e _ ⟨he, rfl⟩
  rw [HF.out] at he
  subst he
  go_wp2_with fail
  refine hlen.out.mono ?_
  rintro e w1 ⟨he, m, rfl⟩
  subst he
  have hc1' : (w.drewN m).cell? ⟨b, 1, none⟩ = some (.slice A L.length c) := hc1
  go_wp2_with (at_builtin; refine wpList_appI _ rfl (.tmp 25) (.tmp 26) 24 21 rfl .i32 4 Try.underlying24 info_i32 (by omega) (b + 1) (.slice A L.length c) L rfl B d ys rfl (H6.out.keep (below_drewN_self w m)) w (below_drewN (Below.refl _ _) m) (by show b + 1 ≤ w.heap.size; omega) (KB.out.drewN _) (by omega) ?_; intro v1 w2 ho hgrow hbel hat hnil; obtain ⟨A1, c1, rfl, hcc, _⟩ := ho.shape; have hob := hgrow.obj (b := b) H5.out (fun hk => by have := own_base (H6.out) b hk; omega); rw [List.length_append] at ho hcc ⊢; have hcb : w2.cell? ⟨b, 1, none⟩ = some (.slice A L.length c) := (by simp [World.cell?, hob]); have hfb2 : w2.frozen? ⟨b, 1, none⟩ = false := (by simp [World.frozen?, hob]); have HOB := Lib.hid hob; have HO := Lib.hid ho; clear ho hob hat hnil hgrow)
  go_ret2
  exact ⟨rfl, HFIN.out _ A1 c1 (set_blk (cs := [_, _]) HOB.out 1 _) (HO.out.only (only_set _ _ _ _) fun k hk e => by have := (HO.out.lt k hk).1; omega) hcc, below_set (hbel.mono (by omega)) (Nat.le_refl _) _ _⟩
end Go.Proofs.Ytohmcpblagcfeaa
