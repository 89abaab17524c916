
/-
  within, walked: what it tells of a tree. Conditions: those of the theorem's head.
-/
import Derived.Test.YtohmcpblagcfeaaAwake13
namespace Go.Proofs.Ytohmcpblagcfeaa
open Go.RowKit
set_option linter.unusedVariables false
set_option maxRecDepth 100000
set_option linter.unusedSimpArgs false

def bumps (S xs : List Int) : List Int := xs.foldl (fun S id => S.set id.toNat (S.getD id.toNat 0 + 1)) S
theorem bumps_append (S xs ys : List Int) : bumps S (xs ++ ys) = bumps (bumps S xs) ys := by simp [bumps]
theorem bumps_snoc (S ids : List Int) (i : Nat) (h : i < ids.length) : bumps S (ids.take (i + 1)) = (bumps S (ids.take i)).set (ids.getD i 0).toNat ((bumps S (ids.take i)).getD (ids.getD i 0).toNat 0 + 1) := by
  rw [List.take_succ_eq_append_getElem h, bumps_append]
  have : ids.getD i 0 = ids[i] := by simp [List.getD, h]
  rw [this]
  rfl
theorem bumps_length (S xs : List Int) : (bumps S xs).length = S.length := by
  induction xs generalizing S with
  | nil => rfl
  | cons x xs ih =>
    show (bumps (S.set x.toNat (S.getD x.toNat 0 + 1)) xs).length = S.length
    rw [ih, List.length_set]
theorem set_getD (S : List Int) (a j : Nat) (y : Int) : (S.set a y).getD j 0 = if a = j ∧ j < S.length then y else S.getD j 0 := by
  simp only [List.getD, List.getElem?_set]
  by_cases h : a = j
  · subst h
    by_cases h2 : a < S.length
    · simp [h2]
    · simp [h2]
  · simp [h]
theorem bumps_bd (S xs : List Int) : ∀ j, S.getD j 0 ≤ (bumps S xs).getD j 0 ∧ (bumps S xs).getD j 0 ≤ S.getD j 0 + xs.length := by
  induction xs generalizing S with
  | nil => intro j; exact ⟨Int.le_refl _, by simp [bumps]⟩
  | cons x xs ih =>
    intro j
    have h := ih (S.set x.toNat (S.getD x.toNat 0 + 1)) j
    rw [set_getD] at h
    show S.getD j 0 ≤ (bumps (S.set x.toNat (S.getD x.toNat 0 + 1)) xs).getD j 0 ∧ (bumps (S.set x.toNat (S.getD x.toNat 0 + 1)) xs).getD j 0 ≤ S.getD j 0 + ((x :: xs).length : Nat)
    rw [List.length_cons]
    split at h
    · rename_i hh; obtain ⟨rfl, _⟩ := hh; omega
    · omega
theorem bumps_count (S xs : List Int) (h : ∀ x ∈ xs, 0 ≤ x ∧ x < S.length) : ∀ j : Nat, (bumps S xs).getD j 0 = S.getD j 0 + (xs.count (j : Int) : Nat) := by
  induction xs generalizing S with
  | nil => intro j; simp [bumps]
  | cons x xs ih =>
    intro j
    have hx := h x (List.mem_cons_self)
    have h' := ih (S.set x.toNat (S.getD x.toNat 0 + 1)) (fun y hy => by rw [List.length_set]; exact h y (List.mem_cons_of_mem _ hy)) j
    show (bumps (S.set x.toNat (S.getD x.toNat 0 + 1)) xs).getD j 0 = _
    rw [h', set_getD, List.count_cons]
    by_cases hj : x.toNat = j
    · have : x = (j : Int) := by omega
      subst this
      rw [if_pos ⟨hj, by omega⟩, hj]
      simp
      omega
    · have hne : ¬ x = (j : Int) := by omega
      rw [if_neg (fun h => hj h.1)]
      simp [hne]
theorem growF_ids (rows : List (List Int)) (dim leaf : Nat) (s : Nat → Int) : ∀ (f : Nat) (ids : List Int) (at_ k : Nat), ((growF rows dim leaf s f ids at_ k).1.flatMap NodeV.ids).Perm ids := fun f => by
  induction f with
  | zero => intro ids at_ k; simp [growF, leafN]
  | succ f ih =>
    intro ids at_ k
    rcases Nat.lt_or_ge leaf ids.length with hh | hh
    · rw [growF_split at_ k hh rfl rfl rfl]
      simp only [List.flatMap_cons, List.flatMap_append, List.nil_append]
      exact ((ih _ _ _).append (ih _ _ _)).trans (choose_perm rows dim ids s k)
    · rw [growF_leaf at_ k (.inl hh)]; simp [leafN]
def Seen (w : World) (g n : Nat) (S : List Int) : Prop := w.heap[g]? = some (.cells (nums .i64 S).toArray 3 (0, 0)) ∧ S.length = n
theorem results_tmp4 {fn : Func} {t u v x : Tmp} (h : fn.results = #[.tmp t, .tmp u, .tmp v, .tmp x]) (tmps : Array Value) (P : Program) (w : World) :
    (results fn tmps).run P w = .ok (.tuple #[tmps.getD t undef, tmps.getD u undef, tmps.getD v undef, tmps.getD x undef]) w := by
  simp [results, h]
def WPost (w : World) (g n leaf f at_ depth : Nat) (S : List Int) (T : List NodeV) (e : Ending) (w' : World) : Prop :=
  ∃ lv dp : Nat, e = .returned (.tuple #[.int .i64 ((at_ + T.length : Nat) : Int), .int .i64 (lv : Int), .int .i64 (dp : Int), .bool true]) ∧ T.length + 1 = 2 * lv ∧ dp ≤ depth + f ∧ depth ≤ dp ∧
    (∀ x ∈ T, x.leaf = true → 1 ≤ x.ids.length ∧ (leaf < x.ids.length → dp = depth + f)) ∧ Seen w' g n (bumps S (T.flatMap NodeV.ids)) ∧ Only (· = g) w w'
set_option maxHeartbeats 6400000 in
set_option maxRecDepth 100000 in
theorem Within_calls (rows : List (List Int)) (dim leaf : Nat) (s : Nat → Int) (g n : Nat) (NA : Option Addr) (nc : Nat) (N : List NodeV) (P : Nat → Prop) (hP : P g) (h2 : 1 ≤ leaf) (hNl : N.length ≤ 1000000) :
    ∀ (f : Nat) (ids : List Int) (at_ k depth : Nat) (w : World) (S : List Int), RdN w P (.slice NA N.length nc) N → (∀ i x, (growF rows dim leaf s f ids at_ k).1[i]? = some x → N[at_ + i]? = some x) → (∀ id ∈ ids, 0 ≤ id ∧ id < n) → 1 ≤ ids.length → ids.length ≤ 1000 → depth + f ≤ 64 → Seen w g n S → (∀ j, 0 ≤ S.getD j 0 ∧ S.getD j 0 + ids.length ≤ 1000000) →
    Calls Try.prog 37 #[.slice NA N.length nc, .int .i64 (at_ : Int), .int .i64 (depth : Int), .int .i64 (n : Int), .slice (some ⟨g, 0, none⟩) n n] w (WPost w g n leaf f at_ depth S (growF rows dim leaf s f ids at_ k).1) := by
  have HPg := Lib.hid hP
  clear hP
  intro f
  induction f with
  | zero =>
    intro ids at_ k depth w S hrd htn hin h1 h3 hdf hse hsb
    have HRD := Lib.hid hrd
    have HIN := Lib.hid hin
    have HSE := Lib.hid hse
    have HSB := Lib.hid hsb
    obtain ⟨nj, hnj⟩ : ∃ x, ids.length = x := ⟨_, rfl⟩
    have HNJ := Lib.hid hnj
    rw [hnj] at h1 h3 HSB
    clear hrd hin hse hsb hnj
    have hlt : at_ < N.length := by
      have h := htn 0 (leafN ids) rfl
      rw [Nat.add_zero] at h
      rcases Nat.lt_or_ge at_ N.length with h4 | h4
      · exact h4
      · rw [List.getElem?_eq_none h4] at h; cases h
    have t1 : decide ((at_ : Int) < 0) = false := decide_eq_false (by omega)
    have t2' : decide (N.length ≤ at_) = false := decide_eq_false (by omega)
    have t3' : decide (64 < depth) = false := decide_eq_false (by omega)
    have t3 : decide ((64 : Int) < (depth : Int)) = false := decide_eq_false (by omega)
    have hg := growF_leaf (f := 0) (ids := ids) (leaf := leaf) (rows := rows) (dim := dim) (s := s) at_ k (.inr rfl)
    rw [hg] at htn ⊢
    have hx := htn 0 _ rfl
    rw [Nat.add_zero] at hx
    obtain ⟨gN, _, _, _, _, rfl, _, q0, _⟩ := HRD.out.at_ at_ hx
    simp only [leafN] at q0
    have HX := Lib.hid hx
    clear htn hg hx
    go_enter Try.func37, Try.ntmps37
    go_wp2_with fail
    go_loopg [14, 15] nj (fun kq v14 v15 w' => kq ≤ nj ∧ v14 = .int .i64 ((nj - kq : Nat)) ∧ Seen w' g n (bumps S (ids.take (nj - kq))) ∧ Only (· = g) w w')
    case atStart => exact ⟨Nat.le_refl _, by simp, by rw [Nat.sub_self]; exact HSE.out, Only.refl _ _⟩
    case round =>
      obtain ⟨hkq, rfl, hse, hon⟩ := hrel
      rename World => wr
      have hrd := HRD.out.only hon (fun b h => by have h' : b = g := h; rw [h']; exact HPg.out)
      obtain ⟨gN', B1, c1, B2, c2, e1, _, q0, q1, _, _, _, _, hl1, _⟩ := hrd.at_ at_ HX.out
      injection e1 with e1; injection e1 with e1; subst e1
      have HRI := Lib.hid hl1.2.1
      simp only [leafN] at q0 q1 HRI
      rw [HNJ.out] at q1
      have HON := Lib.hid hon
      have HSE' := Lib.hid hse
      clear hse hon hrd hl1
      cases gk with
      | zero =>
        simp only [Nat.sub_zero] at HSE' ⊢
        go_wp2_with fail
        (try simp only [Exit.inBlock, Exit.then])
        refine bodyPost_ret (results_tmp4 rfl _ _ _) rfl ?_
        refine ⟨1, depth, by rw [List.length_singleton]; rfl, rfl, by omega, Nat.le_refl _, fun x hx _ => ?_, ?_, HON.out⟩
        · rw [List.mem_singleton] at hx
          subst hx
          simp only [leafN]
          rw [HNJ.out]
          exact ⟨h1, fun h => by omega⟩
        · have h := HSE'.out
          rw [← HNJ.out, List.take_length] at h
          simpa [leafN] using h
      | succ k1 =>
        obtain ⟨i, hi⟩ : ∃ i, nj - (k1 + 1) = i := ⟨_, rfl⟩
        have hi2 : nj - k1 = i + 1 := by omega
        have HI := Lib.hid hi2
        have hlt : i < nj := by omega
        rw [hi] at HSE' ⊢
        clear hi hi2
        have hil : i < ids.length := by rw [HNJ.out]; exact hlt
        obtain ⟨ad, rfl, hcx⟩ := HRI.out.2 i hil
        have hr := HIN.out (ids.getD i 0) (by simp [List.getD, hil])
        have hbs := bumps_snoc S ids i hil
        have hbb := bumps_bd S (ids.take i)
        obtain ⟨x, hxx⟩ : ∃ x, ids.getD i 0 = x := ⟨_, rfl⟩
        rw [hxx] at hcx hr hbs
        clear hxx
        obtain ⟨j, rfl⟩ : ∃ j : Nat, x = (j : Int) := ⟨x.toNat, by omega⟩
        have hjn : j < n := by omega
        have hx0 : decide ((j : Int) < 0) = false := decide_eq_false (by omega)
        have hxn : decide ((n : Int) ≤ (j : Int)) = false := decide_eq_false (by omega)
        have hxn' : decide (n ≤ j) = false := decide_eq_false (by omega)
        obtain ⟨hsb, hsl⟩ := HSE'.out
        have hcs : wr.cell? ⟨g, j, none⟩ = some (.int .i64 ((bumps S (ids.take i)).getD j 0)) := by
          rw [cell_blk hsb, nums_get _ _ _ (by rw [hsl]; exact hjn)]
        have hfz := free_blk hsb j
        have hb1 := hbb j
        have hb2 := HSB.out j
        rw [List.length_take] at hb1
        obtain ⟨y, hy⟩ : ∃ y, (bumps S (ids.take i)).getD j 0 = y := ⟨_, rfl⟩
        rw [hy] at hcs hb1
        have hw1 : IntKind.i64.wrap (y + 1) = y + 1 := by rw [i64_w]; exact wrap64_id _ (by omega)
        have hst := set_blk hsb j (.int .i64 (y + 1))
        have hSN := Lib.hid (show Seen (wr.setCell ⟨g, j, none⟩ (.int .i64 (y + 1))) g n (bumps S (ids.take (i + 1))) by
          rw [hbs]
          refine ⟨?_, by rw [Int.toNat_natCast, List.length_set]; exact hsl⟩
          rw [hst, Int.toNat_natCast, hy]
          congr 2
          simp only [nums, List.map_set])
        have HOS := Lib.hid (HON.out.trans ((only_set wr g j (.int .i64 (y + 1))).mono fun _ _ h => h))
        clear hsb hsl hbs hbb hb1 hb2 hst hy
        go_wp2_with fail
        go_roundg k1
        case measure => omega
        case rel =>
          rw [HI.out]
          exact ⟨by omega, rfl, hSN.out, HOS.out⟩
  | succ f ih =>
    intro ids at_ k depth w S hrd htn hin h1 h3 hdf hse hsb
    have IH := Lib.hid ih
    clear ih
    have HRD := Lib.hid hrd
    have HIN := Lib.hid hin
    have HSE := Lib.hid hse
    have HSB := Lib.hid hsb
    obtain ⟨nj, hnj⟩ : ∃ x, ids.length = x := ⟨_, rfl⟩
    have HNJ := Lib.hid hnj
    rw [hnj] at h1 h3 HSB
    clear hrd hin hse hsb hnj
    have hlt : at_ < N.length := by
      have h : ∃ x, N[at_]? = some x := by
        rcases Nat.lt_or_ge leaf ids.length with hh | hh
        · rw [growF_split at_ k hh rfl rfl rfl] at htn
          have := htn 0 _ rfl
          exact ⟨_, this⟩
        · rw [growF_leaf at_ k (.inl hh)] at htn
          have := htn 0 _ rfl
          exact ⟨_, this⟩
      obtain ⟨x, h⟩ := h
      rcases Nat.lt_or_ge at_ N.length with h4 | h4
      · exact h4
      · rw [List.getElem?_eq_none h4] at h; cases h
    have t1 : decide ((at_ : Int) < 0) = false := decide_eq_false (by omega)
    have t2' : decide (N.length ≤ at_) = false := decide_eq_false (by omega)
    have t3' : decide (64 < depth) = false := decide_eq_false (by omega)
    have t3 : decide ((64 : Int) < (depth : Int)) = false := decide_eq_false (by omega)
    by_cases hle : nj ≤ leaf
    · skip
      have hg := growF_leaf (f := (f + 1)) (ids := ids) (leaf := leaf) (rows := rows) (dim := dim) (s := s) at_ k (.inl (by rw [HNJ.out]; exact hle))
      rw [hg] at htn ⊢
      have hx := htn 0 _ rfl
      rw [Nat.add_zero] at hx
      obtain ⟨gN, _, _, _, _, rfl, _, q0, _⟩ := HRD.out.at_ at_ hx
      simp only [leafN] at q0
      have HX := Lib.hid hx
      clear htn hg hx
      go_enter Try.func37, Try.ntmps37
      go_wp2_with fail
      go_loopg [14, 15] nj (fun kq v14 v15 w' => kq ≤ nj ∧ v14 = .int .i64 ((nj - kq : Nat)) ∧ Seen w' g n (bumps S (ids.take (nj - kq))) ∧ Only (· = g) w w')
      case atStart => exact ⟨Nat.le_refl _, by simp, by rw [Nat.sub_self]; exact HSE.out, Only.refl _ _⟩
      case round =>
        obtain ⟨hkq, rfl, hse, hon⟩ := hrel
        rename World => wr
        have hrd := HRD.out.only hon (fun b h => by have h' : b = g := h; rw [h']; exact HPg.out)
        obtain ⟨gN', B1, c1, B2, c2, e1, _, q0, q1, _, _, _, _, hl1, _⟩ := hrd.at_ at_ HX.out
        injection e1 with e1; injection e1 with e1; subst e1
        have HRI := Lib.hid hl1.2.1
        simp only [leafN] at q0 q1 HRI
        rw [HNJ.out] at q1
        have HON := Lib.hid hon
        have HSE' := Lib.hid hse
        clear hse hon hrd hl1
        cases gk with
        | zero =>
          simp only [Nat.sub_zero] at HSE' ⊢
          go_wp2_with fail
          (try simp only [Exit.inBlock, Exit.then])
          refine bodyPost_ret (results_tmp4 rfl _ _ _) rfl ?_
          refine ⟨1, depth, by rw [List.length_singleton]; rfl, rfl, by omega, Nat.le_refl _, fun x hx _ => ?_, ?_, HON.out⟩
          · rw [List.mem_singleton] at hx
            subst hx
            simp only [leafN]
            rw [HNJ.out]
            exact ⟨h1, fun h => by omega⟩
          · have h := HSE'.out
            rw [← HNJ.out, List.take_length] at h
            simpa [leafN] using h
        | succ k1 =>
          obtain ⟨i, hi⟩ : ∃ i, nj - (k1 + 1) = i := ⟨_, rfl⟩
          have hi2 : nj - k1 = i + 1 := by omega
          have HI := Lib.hid hi2
          have hlt : i < nj := by omega
          rw [hi] at HSE' ⊢
          clear hi hi2
          have hil : i < ids.length := by rw [HNJ.out]; exact hlt
          obtain ⟨ad, rfl, hcx⟩ := HRI.out.2 i hil
          have hr := HIN.out (ids.getD i 0) (by simp [List.getD, hil])
          have hbs := bumps_snoc S ids i hil
          have hbb := bumps_bd S (ids.take i)
          obtain ⟨x, hxx⟩ : ∃ x, ids.getD i 0 = x := ⟨_, rfl⟩
          rw [hxx] at hcx hr hbs
          clear hxx
          obtain ⟨j, rfl⟩ : ∃ j : Nat, x = (j : Int) := ⟨x.toNat, by omega⟩
          have hjn : j < n := by omega
          have hx0 : decide ((j : Int) < 0) = false := decide_eq_false (by omega)
          have hxn : decide ((n : Int) ≤ (j : Int)) = false := decide_eq_false (by omega)
          have hxn' : decide (n ≤ j) = false := decide_eq_false (by omega)
          obtain ⟨hsb, hsl⟩ := HSE'.out
          have hcs : wr.cell? ⟨g, j, none⟩ = some (.int .i64 ((bumps S (ids.take i)).getD j 0)) := by
            rw [cell_blk hsb, nums_get _ _ _ (by rw [hsl]; exact hjn)]
          have hfz := free_blk hsb j
          have hb1 := hbb j
          have hb2 := HSB.out j
          rw [List.length_take] at hb1
          obtain ⟨y, hy⟩ : ∃ y, (bumps S (ids.take i)).getD j 0 = y := ⟨_, rfl⟩
          rw [hy] at hcs hb1
          have hw1 : IntKind.i64.wrap (y + 1) = y + 1 := by rw [i64_w]; exact wrap64_id _ (by omega)
          have hst := set_blk hsb j (.int .i64 (y + 1))
          have hSN := Lib.hid (show Seen (wr.setCell ⟨g, j, none⟩ (.int .i64 (y + 1))) g n (bumps S (ids.take (i + 1))) by
            rw [hbs]
            refine ⟨?_, by rw [Int.toNat_natCast, List.length_set]; exact hsl⟩
            rw [hst, Int.toNat_natCast, hy]
            congr 2
            simp only [nums, List.map_set])
          have HOS := Lib.hid (HON.out.trans ((only_set wr g j (.int .i64 (y + 1))).mono fun _ _ h => h))
          clear hsb hsl hbs hbb hb1 hb2 hst hy
          go_wp2_with fail
          go_roundg k1
          case measure => omega
          case rel =>
            rw [HI.out]
            exact ⟨by omega, rfl, hSN.out, HOS.out⟩
    have hle2 : leaf < ids.length := by rw [HNJ.out]; omega
    have hC1 := choose_len rows dim ids s k
    have hC2 := choose_parts rows dim ids s k (by omega)
    have hC0 := choose_perm rows dim ids s k
    obtain ⟨C, hC⟩ : ∃ C, choose rows dim ids s k = C := ⟨_, rfl⟩
    obtain ⟨L, hL⟩ : ∃ L, growF rows dim leaf s f C.left (at_ + 1) (k + 2 * C.tries) = L := ⟨_, rfl⟩
    obtain ⟨R, hR⟩ : ∃ R, growF rows dim leaf s f C.right (at_ + 1 + L.1.length) L.2 = R := ⟨_, rfl⟩
    rw [hC] at hC0 hC1 hC2
    rw [HNJ.out] at hC1
    have hsl := growF_size rows dim s h2 f C.left (at_ + 1) (k + 2 * C.tries) (by omega)
    have hsr := growF_size rows dim s h2 f C.right (at_ + 1 + L.1.length) L.2 (by omega)
    have hpl := growF_ids rows dim leaf s f C.left (at_ + 1) (k + 2 * C.tries)
    have hpr := growF_ids rows dim leaf s f C.right (at_ + 1 + L.1.length) L.2
    rw [hL] at hsl hpl
    rw [hR] at hsr hpr
    have hg := growF_split at_ k hle2 hC hL hR
    rw [hg] at htn ⊢
    simp only at htn
    have hx := htn 0 _ rfl
    rw [Nat.add_zero] at hx
    have hnl : ∀ i x, L.1[i]? = some x → N[at_ + 1 + i]? = some x := fun i x h => by
      have h3 : i < L.1.length := by
        rcases Nat.lt_or_ge i L.1.length with h4 | h4
        · exact h4
        · rw [List.getElem?_eq_none h4] at h; cases h
      have := htn (i + 1) x (by rw [List.getElem?_cons_succ, List.getElem?_append_left h3]; exact h)
      rwa [show at_ + (i + 1) = at_ + 1 + i by omega] at this
    have hnr : ∀ i x, R.1[i]? = some x → N[at_ + 1 + L.1.length + i]? = some x := fun i x h => by
      have := htn (L.1.length + i + 1) x (by rw [List.getElem?_cons_succ, List.getElem?_append_right (by omega), Nat.add_sub_cancel_left]; exact h)
      rwa [show at_ + (L.1.length + i + 1) = at_ + 1 + L.1.length + i by omega] at this
    obtain ⟨gN, _, _, _, _, rfl, _, q0, _, _, _, q4, q5, _⟩ := HRD.out.at_ at_ hx
    simp only at q0 q4 q5
    have hll : L.1.length + at_ + 1 ≤ 1000000 := by
      have : at_ + 1 + (L.1.length - 1) < N.length := by
        have h3 := hnl (L.1.length - 1) (L.1[L.1.length - 1]'(by omega)) (List.getElem?_eq_getElem _)
        rcases Nat.lt_or_ge (at_ + 1 + (L.1.length - 1)) N.length with h4 | h4
        · exact h4
        · rw [List.getElem?_eq_none h4] at h3; cases h3
      omega
    have hpll := hpl.length_eq
    have hprl := hpr.length_eq
    obtain ⟨nL, hnL⟩ : ∃ x, L.1.length = x := ⟨_, rfl⟩
    have ih1 := IH.out C.left (at_ + 1) (k + 2 * C.tries) (depth + 1) w S HRD.out (by rw [hL]; exact hnl) (fun id hid => HIN.out id (hC0.mem_iff.1 (List.mem_append_left _ hid))) (by omega) (by omega) (by omega) HSE.out (fun j => by have := HSB.out j; omega)
    rw [hL] at ih1
    rw [hnL] at hnr q5 hll hR hsl
    have HL := Lib.hid hL
    have EL := Lib.hid hnL
    have HNR := Lib.hid hnr
    have HRr := Lib.hid hR
    have hIDR := Lib.hid (fun id (hid : id ∈ C.right) => HIN.out id (hC0.mem_iff.1 (List.mem_append_right _ hid)))
    have HPLL := Lib.hid hpll
    have hw3 : IntKind.i64.wrap ((at_ : Int) + 1) = (at_ : Int) + 1 := by rw [i64_w]; exact wrap64_id _ (by omega)
    have hw4 : IntKind.i64.wrap ((depth : Int) + 1) = (depth : Int) + 1 := by rw [i64_w]; exact wrap64_id _ (by omega)
    have HC1 := Lib.hid hC1
    have hnl1 : 1 ≤ C.left.length := by omega
    have hnr1 : 1 ≤ C.right.length := by omega
    have HC11 := Lib.hid (And.intro hnl1 hnr1)
    have HSZZ := Lib.hid (And.intro hsl hsr)
    simp only [Int.natCast_add, Int.natCast_succ, Int.natCast_one] at ih1 q4 q5
    have HX := Lib.hid hx
    clear hnl hnr htn hg hx hpl hpr hpll hprl hL hR hC hC0 hC1 hC2 hnl1 hnr1 hsl hsr hnL
    go_enter Try.func37, Try.ntmps37
    go_wp2_with fail
    refine ih1.mono ?_
    rintro e w2 ⟨l1, d1, he, hl1, hd1, hd1', hlf1, hse1, hon1⟩
    simp only [EL.out, Int.natCast_add, Int.natCast_succ, Int.natCast_one] at he
    subst he
    have HRD2 := Lib.hid (HRD.out.only hon1 (fun b h => by have h' : b = g := h; rw [h']; exact HPg.out))
    have HSE1 := Lib.hid hse1
    have HON1 := Lib.hid hon1
    have HLF1 := Lib.hid hlf1
    have HLF := Lib.hid hl1
    obtain ⟨gN', _, _, _, _, e1, _, q0', _, _, _, q4', q5', _⟩ := HRD2.out.at_ at_ HX.out
    injection e1 with e1; injection e1 with e1; subst e1
    simp only [EL.out, Int.natCast_add, Int.natCast_succ, Int.natCast_one] at q5' 
    clear ih1 hse1 hon1 hlf1 q0 q4 q5 q0' q4'
    have ih2 := IH.out C.right (at_ + 1 + nL) L.2 (depth + 1) w2 (bumps S (L.1.flatMap NodeV.ids)) HRD2.out (by rw [HRr.out]; exact HNR.out) hIDR.out HC11.out.2 (by have := HC1.out; omega) (by omega) HSE1.out (fun j => by have h3 := bumps_bd S (L.1.flatMap NodeV.ids) j; have h4 := HSB.out j; have h5 := HPLL.out; have h6 := HC1.out; omega)
    rw [HRr.out] at ih2
    simp only [Int.natCast_add, Int.natCast_succ, Int.natCast_one] at ih2
    go_wp2_with fail
    refine ih2.mono ?_
    rintro e w3 ⟨l2, d2, he, hl2, hd2, hd2', hlf2, hse2, hon2⟩
    simp only [Int.natCast_add, Int.natCast_succ, Int.natCast_one] at he
    subst he
    have HSE2 := Lib.hid hse2
    have HON2 := Lib.hid (HON1.out.trans hon2)
    have HLF2 := Lib.hid hlf2
    have HLE2 := Lib.hid hl2
    have hls : l1 + l2 ≤ 4000000 := by have h3 := HLF.out; have h4 := HLE2.out; have h5 := HSZZ.out; have h6 := EL.out; have h7 := HC1.out; omega
    have hw5 : IntKind.i64.wrap ((l1 : Int) + (l2 : Int)) = (l1 : Int) + (l2 : Int) := by rw [i64_w]; exact wrap64_id _ (by omega)
    clear ih2 hse2 hon2 hlf2 hl1 hl2
    rcases (by omega : d1 < d2 ∨ ¬ d1 < d2) with hmx | hmx
    · have hm1 : (d1 : Int) < (d2 : Int) := by omega
      go_wp2_with fail
      (try simp only [Exit.inBlock, Exit.then])
      refine bodyPost_ret (results_tmp4 rfl _ _ _) rfl ?_
      refine ⟨l1 + l2, d2, ?_, ?_, by omega, by omega, fun x hx hxl => ?_, ?_, HON2.out⟩
      · simp only [List.length_cons, List.length_append, EL.out, Int.natCast_add, Int.natCast_succ, Int.natCast_one]
        congr 3
        first | rfl | (simp; omega)
      · simp only [List.length_cons, List.length_append]
        have h3 := HLF.out
        have h4 := HLE2.out
        omega
      · rcases List.mem_cons.1 hx with hx | hx
        · subst hx; simp at hxl
        · rcases List.mem_append.1 hx with hx | hx
          · obtain ⟨b1, b2⟩ := HLF1.out x hx hxl
            exact ⟨b1, fun h => by have := b2 h; omega⟩
          · obtain ⟨b1, b2⟩ := HLF2.out x hx hxl
            exact ⟨b1, fun h => by have := b2 h; omega⟩
      · have h := HSE2.out
        rw [List.flatMap_cons, List.flatMap_append, List.nil_append, bumps_append]
        exact h
    · have hm1 : ¬ (d1 : Int) < (d2 : Int) := by omega
      go_wp2_with fail
      (try simp only [Exit.inBlock, Exit.then])
      refine bodyPost_ret (results_tmp4 rfl _ _ _) rfl ?_
      refine ⟨l1 + l2, d1, ?_, ?_, by omega, by omega, fun x hx hxl => ?_, ?_, HON2.out⟩
      · simp only [List.length_cons, List.length_append, EL.out, Int.natCast_add, Int.natCast_succ, Int.natCast_one]
        congr 3
        first | rfl | (simp; omega)
      · simp only [List.length_cons, List.length_append]
        have h3 := HLF.out
        have h4 := HLE2.out
        omega
      · rcases List.mem_cons.1 hx with hx | hx
        · subst hx; simp at hxl
        · rcases List.mem_append.1 hx with hx | hx
          · obtain ⟨b1, b2⟩ := HLF1.out x hx hxl
            exact ⟨b1, fun h => by have := b2 h; omega⟩
          · obtain ⟨b1, b2⟩ := HLF2.out x hx hxl
            exact ⟨b1, fun h => by have := b2 h; omega⟩
      · have h := HSE2.out
        rw [List.flatMap_cons, List.flatMap_append, List.nil_append, bumps_append]
        exact h
end Go.Proofs.Ytohmcpblagcfeaa
