/-
  Texts on the program, part 3: HeapMath, Tri, Marks, Strm, Strm2, Order1, EntE, HeapE, HeapBst, Heap2E, Heap3E, Heap4E, Heap5E, HeapR, RevL, SortI.
-/
import Derived.Laws.Bits64
import Derived.Deep.RegionLaw
import Derived.Deep.RegionHeld3
import Derived.BigRegion
import Derived.Laws.ResultCell
import Derived.Test.YticdmglondpgaaaGreatQ02

/-! ## HeapMath: A heap as a list: sifting up and down, in plain Lean. Condition: the order is one that goes on (WO). -/
namespace Go.Proofs.YticdmglondpgaaaGreat
set_option linter.unusedVariables false
set_option maxRecDepth 100000
set_option linter.unusedSimpArgs false

/-- An order by which of some none is first (or some are alike). -/
structure WO {α : Type} (lt : α → α → Bool) : Prop where
  asym : ∀ a b, lt a b = true → lt b a = false
  trn : ∀ a b c, lt a b = false → lt b c = false → lt a c = false
theorem WO.irr {α : Type} {lt : α → α → Bool} (h : WO lt) (a : α) : lt a a = false := by
  cases h1 : lt a a
  · rfl
  · have := h.asym a a h1
    rw [h1] at this
    exact this
variable {α : Type} {lt : α → α → Bool}
def HeapOk (lt : α → α → Bool) (l : List α) : Prop := ∀ i a b, 0 < i → l[i]? = some a → l[(i - 1) / 2]? = some b → lt a b = false
def UpOk (lt : α → α → Bool) (l : List α) (k : Nat) : Prop :=
  (∀ i a b, 0 < i → i ≠ k → l[i]? = some a → l[(i - 1) / 2]? = some b → lt a b = false) ∧ (∀ i a b, 0 < k → 0 < i → (i - 1) / 2 = k → l[i]? = some a → l[(k - 1) / 2]? = some b → lt a b = false)
def DownOk (lt : α → α → Bool) (l : List α) (k : Nat) : Prop :=
  (∀ i a b, 0 < i → (i - 1) / 2 ≠ k → l[i]? = some a → l[(i - 1) / 2]? = some b → lt a b = false) ∧ (∀ i a b, 0 < k → 0 < i → (i - 1) / 2 = k → l[i]? = some a → l[(k - 1) / 2]? = some b → lt a b = false)
def swp (l : List α) (i j : Nat) (a b : α) : List α := (l.set i a).set j b
theorem swp_length (l : List α) (i j : Nat) (a b : α) : (swp l i j a b).length = l.length := by simp [swp]
theorem swp_get {l : List α} {i j k : Nat} {a b : α} (hi : i < l.length) (hj : j < l.length) : (swp l i j a b)[k]? = if k = j then some b else if k = i then some a else l[k]? := by
  unfold swp
  by_cases h1 : k = j
  · subst h1; simp [hj]
  · by_cases h2 : k = i
    · subst h2; simp [h1, hi, List.getElem?_set, Ne.symm h1]
    · simp [h1, h2, List.getElem?_set, Ne.symm h1, Ne.symm h2]
theorem swp_perm {l : List α} {i j : Nat} {a b : α} (hi : l[i]? = some a) (hj : l[j]? = some b) : (swp l i j b a).Perm l := by
  obtain ⟨h1, rfl⟩ := List.getElem?_eq_some_iff.1 hi
  obtain ⟨h2, rfl⟩ := List.getElem?_eq_some_iff.1 hj
  exact List.set_set_perm h1 h2
theorem get_lt {l : List α} {i : Nat} {a : α} (h : l[i]? = some a) : i < l.length := (List.getElem?_eq_some_iff.1 h).1
theorem UpOk.push {l : List α} (h : HeapOk lt l) (x : α) : UpOk lt (l ++ [x]) l.length := by
  refine ⟨fun i a b h0 hk ha hb => ?_, fun i a b h0 h1 hp ha hb => ?_⟩
  · have hi := get_lt ha
    simp at hi
    rw [List.getElem?_append_left (by omega)] at ha hb
    exact h i a b h0 ha hb
  · have hi := get_lt ha
    simp at hi
    omega
theorem UpOk.stop {l : List α} {k : Nat} (h : UpOk lt l k) (hs : k = 0 ∨ ∀ a b, l[k]? = some a → l[(k - 1) / 2]? = some b → lt a b = false) : HeapOk lt l := fun i a b h0 ha hb => by
  by_cases hk : i = k
  · subst hk
    rcases hs with hs | hs
    · omega
    · exact hs a b ha hb
  · exact h.1 i a b h0 hk ha hb
theorem UpOk.swap (hw : WO lt) {l : List α} {k : Nat} {a b : α} (h : UpOk lt l k) (hk : 0 < k) (ha : l[k]? = some a) (hb : l[(k - 1) / 2]? = some b) (hlt : lt a b = true) : UpOk lt (swp l k ((k - 1) / 2) b a) ((k - 1) / 2) := by
  have h1 := get_lt ha
  have h2 := get_lt hb
  refine ⟨fun i x y h0 hi hx hy => ?_, fun i x y h0 hi0 hp hx hy => ?_⟩
  · rw [swp_get h1 h2] at hx hy
    rw [if_neg hi] at hx
    by_cases hik : i = k
    · subst hik
      rw [if_pos rfl] at hx hy
      injection hx with hx
      injection hy with hy
      subst hx hy
      exact hw.asym _ _ hlt
    · rw [if_neg hik] at hx
      by_cases hpu : (i - 1) / 2 = (k - 1) / 2
      · rw [if_pos hpu] at hy
        injection hy with hy
        subst hy
        have h3 := h.1 i x b h0 hik hx (by rw [hpu]; exact hb)
        exact hw.trn x b _ h3 (hw.asym _ _ hlt)
      · rw [if_neg hpu] at hy
        by_cases hpk : (i - 1) / 2 = k
        · rw [if_pos hpk] at hy
          injection hy with hy
          subst hy
          exact h.2 i x _ hk h0 hpk hx hb
        · rw [if_neg hpk] at hy
          exact h.1 i x y h0 hik hx hy
  · rw [swp_get h1 h2] at hx hy
    rw [if_neg (show ¬ ((k - 1) / 2 - 1) / 2 = (k - 1) / 2 by omega), if_neg (show ¬ ((k - 1) / 2 - 1) / 2 = k by omega)] at hy
    have h3 := h.1 ((k - 1) / 2) b y h0 (by omega) hb hy
    rw [if_neg (show ¬ i = (k - 1) / 2 by omega)] at hx
    by_cases hik : i = k
    · rw [if_pos hik] at hx
      injection hx with hx
      subst hx
      exact h3
    · rw [if_neg hik] at hx
      exact hw.trn x b y (h.1 i x b hi0 hik hx (by rw [hp]; exact hb)) h3
theorem HeapOk.least (hw : WO lt) {l : List α} {x : α} (h : HeapOk lt l) (hx : l[0]? = some x) : ∀ (n i : Nat) (a : α), i ≤ n → l[i]? = some a → lt a x = false
  | n, 0, a, _, ha => by rw [hx] at ha; injection ha with ha; subst ha; exact hw.irr _
  | 0, i + 1, a, hi, ha => by omega
  | n + 1, i + 1, a, hi, ha => by
    have hl := get_lt ha
    have hp : (i + 1 - 1) / 2 < l.length := by omega
    exact hw.trn _ _ _ (h (i + 1) a _ (by omega) ha (List.getElem?_eq_getElem hp)) (HeapOk.least hw h hx n ((i + 1 - 1) / 2) _ (by omega) (List.getElem?_eq_getElem hp))
theorem HeapOk.first (hw : WO lt) {l : List α} {x : α} (h : HeapOk lt l) (hx : l[0]? = some x) {a : α} (ha : a ∈ l) : lt a x = false := by
  obtain ⟨i, hi, rfl⟩ := List.getElem_of_mem ha
  exact h.least hw hx i i _ (Nat.le_refl _) (List.getElem?_eq_getElem hi)
/-- what Pop leaves to be sunk: the last one on top, one less. -/
def popped (l : List α) (z : α) : List α := (l.set 0 z).take (l.length - 1)
theorem popped_get {l : List α} {z : α} {i : Nat} (h : i < l.length - 1) : (popped l z)[i]? = if i = 0 then some z else l[i]? := by
  unfold popped
  rw [List.getElem?_take_of_lt h]
  by_cases h0 : i = 0
  · subst h0; rw [if_pos rfl, List.getElem?_set_self (by omega)]
  · rw [if_neg h0, List.getElem?_set_ne (Ne.symm h0)]
theorem popped_length (l : List α) (z : α) : (popped l z).length = l.length - 1 := by simp [popped]
theorem DownOk.pop {l : List α} (h : HeapOk lt l) (z : α) : DownOk lt (popped l z) 0 := by
  refine ⟨fun i a b h0 hp ha hb => ?_, fun i a b h0 => absurd h0 (Nat.lt_irrefl 0)⟩
  have hi := get_lt ha
  rw [popped_length] at hi
  rw [popped_get (by omega), if_neg (by omega)] at ha
  rw [popped_get (by omega), if_neg hp] at hb
  exact h i a b h0 ha hb
theorem popped_perm {l : List α} {x z : α} (hx : l[0]? = some x) (hz : l[l.length - 1]? = some z) : (x :: popped l z).Perm l := by
  cases l with
  | nil => simp at hx
  | cons y t =>
    simp at hx
    subst hx
    unfold popped
    rcases List.eq_nil_or_concat t with rfl | ⟨t', z', rfl⟩
    · simp
    · simp at hz
      subst hz
      simp
      exact (List.perm_append_comm (l₁ := [z']) (l₂ := t')).trans (List.Perm.refl _)
theorem DownOk.stop {l : List α} {k : Nat} (h : DownOk lt l k) (hs : ∀ i a b, 0 < i → (i - 1) / 2 = k → l[i]? = some a → l[k]? = some b → lt a b = false) : HeapOk lt l := fun i a b h0 ha hb => by
  by_cases hk : (i - 1) / 2 = k
  · exact hs i a b h0 hk ha (by rw [← hk]; exact hb)
  · exact h.1 i a b h0 hk ha hb
theorem DownOk.swap (hw : WO lt) {l : List α} {k j : Nat} {a b : α} (h : DownOk lt l k) (hj0 : 0 < j) (hj : (j - 1) / 2 = k) (ha : l[k]? = some a) (hb : l[j]? = some b) (hlt : lt b a = true)
    (ho : ∀ i x, 0 < i → (i - 1) / 2 = k → l[i]? = some x → lt x b = false) : DownOk lt (swp l k j b a) j := by
  have h1 := get_lt ha
  have h2 := get_lt hb
  refine ⟨fun i x y h0 hp hx hy => ?_, fun i x y _ hi0 hp hx hy => ?_⟩
  · rw [swp_get h1 h2] at hx hy
    rw [if_neg hp] at hy
    by_cases hpk : (i - 1) / 2 = k
    · rw [if_pos hpk] at hy
      injection hy with hy
      subst hy
      by_cases hij : i = j
      · rw [if_pos hij] at hx
        injection hx with hx
        subst hx
        exact hw.asym _ _ hlt
      · rw [if_neg hij, if_neg (show ¬ i = k by omega)] at hx
        exact ho i x h0 hpk hx
    · rw [if_neg hpk] at hy
      rw [if_neg (show ¬ i = j by intro e; rw [e] at hpk; exact hpk hj)] at hx
      by_cases hik : i = k
      · subst hik
        rw [if_pos rfl] at hx
        injection hx with hx
        subst hx
        exact h.2 j _ y h0 hj0 hj hb hy
      · rw [if_neg hik] at hx
        exact h.1 i x y h0 hpk hx hy
  · rw [swp_get h1 h2] at hx hy
    rw [hj] at hy
    rw [if_neg (show ¬ k = j by omega), if_pos rfl] at hy
    injection hy with hy
    subst hy
    rw [if_neg (show ¬ i = j by omega), if_neg (show ¬ i = k by omega)] at hx
    exact h.1 i x b hi0 (by omega) hx (by rw [hp]; exact hb)
end Go.Proofs.YticdmglondpgaaaGreat

/-! ## Tri: Rows of elements of three whole numbers: words and laws. No condition: plain definitions and lemmas. -/
namespace Go.Proofs.YticdmglondpgaaaGreat
open Go.RowKit
set_option linter.unusedVariables false
set_option maxRecDepth 100000
set_option linter.unusedSimpArgs false

def tri (p : Int × Int × Int) : List Value := [.int .i64 p.1, .int .i64 p.2.1, .int .i64 p.2.2]
theorem tri_q (p : Int × Int × Int) : (tri p).length = 3 := rfl
theorem tri_one (p : Int × Int × Int) : ∀ u ∈ tri p, u.oneCell' = true := by
  intro u hu
  simp [tri] at hu
  rcases hu with rfl | rfl | rfl <;> rfl
theorem OwnF.store3 {w : World} {base : Nat} {e : TypeId} {g n c : Nat} {xs : List (Int × Int × Int)} (h : OwnF w base e 3 tri (.slice (some ⟨g, 0, none⟩) n c) xs) (j : Nat) (hj : j < n) (y : Int × Int × Int) :
    OwnF (((w.setCell ⟨g, j * 3, none⟩ (.int .i64 y.1)).setCell ⟨g, j * 3 + 1, none⟩ (.int .i64 y.2.1)).setCell ⟨g, j * 3 + 2, none⟩ (.int .i64 y.2.2)) base e 3 tri (.slice (some ⟨g, 0, none⟩) n c) (xs.set j y) := by
  obtain ⟨A1, c1, he, _⟩ := h.shape
  injection he with e1 e2 e3
  subst e2 e3
  have hx : xs[j]? = some xs[j] := List.getElem?_eq_getElem hj
  have h1 := OwnF.storeI tri_q h j 0 (y := (y.1, xs[j].2.1, xs[j].2.2)) (u := .int .i64 y.1) hx (by omega) rfl
  have h2 := OwnF.storeI tri_q h1 j 1 (x := (y.1, xs[j].2.1, xs[j].2.2)) (y := (y.1, y.2.1, xs[j].2.2)) (u := .int .i64 y.2.1) (by simp [hj]) (by omega) rfl
  have h3 := OwnF.storeI tri_q h2 j 2 (x := (y.1, y.2.1, xs[j].2.2)) (y := y) (u := .int .i64 y.2.2) (by simp [hj]) (by omega) rfl
  simp only [List.set_set, Nat.add_zero] at h3
  exact h3
/-- Neither the heap's block nor its row's. -/
def Ns (v : Value) (b k : Nat) : Prop := ¬ (k = b ∨ OwnB v k)
theorem only_drew_self (S : Nat → Prop) (w : World) : Only S w w.drew := Only.of_below (Below.refl _ _).drew
end Go.Proofs.YticdmglondpgaaaGreat

/-! ## Marks: Sets of ids (package marks), of at most 64 ids: one word of bits; New, Has, Add, Len. Condition: the blocks are as the word SetM says. -/
namespace Go.Proofs.YticdmglondpgaaaGreat
open Go.RowKit
set_option linter.unusedVariables false
set_option maxRecDepth 100000
set_option linter.unusedSimpArgs false


theorem u64_and_nat (a b : Nat) (ha : a < 18446744073709551616) (hb : b < 18446744073709551616) : bits .and .u64 (a : Int) (b : Int) = ((a &&& b : Nat) : Int) := by
  have hx : a &&& b < 2 ^ 64 := Nat.and_lt_two_pow _ (by omega)
  show IntKind.u64.wrap ((BitVec.ofInt 64 (a : Int) &&& BitVec.ofInt 64 (b : Int)).toNat : Int) = _
  rw [BitVec.toNat_and, BitVec.ofInt_natCast, BitVec.ofInt_natCast, BitVec.toNat_ofNat, BitVec.toNat_ofNat, Nat.mod_eq_of_lt ha, Nat.mod_eq_of_lt hb]
  simp only [IntKind.wrap, IntKind.bits, IntKind.signed]
  simp
  omega
theorem u64_or_nat (a b : Nat) (ha : a < 18446744073709551616) (hb : b < 18446744073709551616) : bits .or .u64 (a : Int) (b : Int) = ((a ||| b : Nat) : Int) := by
  have hx : a ||| b < 2 ^ 64 := Nat.or_lt_two_pow (by omega) (by omega)
  show IntKind.u64.wrap ((BitVec.ofInt 64 (a : Int) ||| BitVec.ofInt 64 (b : Int)).toNat : Int) = _
  rw [BitVec.toNat_or, BitVec.ofInt_natCast, BitVec.ofInt_natCast, BitVec.toNat_ofNat, BitVec.toNat_ofNat, Nat.mod_eq_of_lt ha, Nat.mod_eq_of_lt hb]
  simp only [IntKind.wrap, IntKind.bits, IntKind.signed]
  simp
  omega
theorem bit_of (M i : Nat) (hM : M < 18446744073709551616) : bits .and .u64 ((M : Int) / 2 ^ i) 1 = if M.testBit i = true then 1 else 0 := by
  have e1 : ((M : Int) / 2 ^ i) = ((M / 2 ^ i : Nat) : Int) := by simp
  have h2 : M / 2 ^ i ≤ M := Nat.div_le_self _ _
  have h3 := u64_and_nat (M / 2 ^ i) 1 (by omega) (by omega)
  rw [e1]
  rw [show ((1 : Nat) : Int) = 1 from rfl] at h3
  rw [h3, Nat.and_one_is_mod, Nat.testBit_eq_decide_div_mod_eq]
  have := Nat.mod_two_eq_zero_or_one (M / 2 ^ i)
  by_cases h : M / 2 ^ i % 2 = 1
  · simp [h]
  · have h0 : M / 2 ^ i % 2 = 0 := by omega
    simp [h0]
theorem pigeon : ∀ (n : Nat) (L : List Int), L.Nodup → (∀ x ∈ L, 0 ≤ x ∧ x < n) → L.length ≤ n := fun n => by
  induction n with
  | zero =>
    intro L _ h
    cases L with
    | nil => simp
    | cons a L => have := h a (List.mem_cons_self); omega
  | succ n ih =>
    intro L hn h
    have h1 := ih (L.erase (n : Int)) (hn.erase _) (fun x hx => by
      obtain ⟨h2, h3⟩ := hn.mem_erase_iff.1 hx
      have := h x h3
      omega)
    have h2 := List.length_erase (l := L) (a := (n : Int))
    split at h2 <;> omega
/-- The set at block b, its word at block g, of n ids: those of L. -/
def SetM (w : World) (b g n : Nat) (L : List Int) : Prop :=
  1 ≤ n ∧ n ≤ 64 ∧ g ≠ b ∧ (∀ x ∈ L, 0 ≤ x ∧ x < n) ∧ L.Nodup ∧ ∃ M : Nat, M < 18446744073709551616 ∧ (∀ i : Nat, i < 64 → (M.testBit i = true ↔ (i : Int) ∈ L)) ∧
    w.heap[b]? = some (.cells #[.int .i64 n, .int .i64 L.length, .slice (some ⟨g, 0, none⟩) 1 1] 208 (0, 0)) ∧ w.heap[g]? = some (.cells #[.int .u64 M] 23 (0, 0))
theorem SetM.only {w w' : World} {S : Nat → Prop} {b g n : Nat} {L : List Int} (h : SetM w b g n L) (ho : Only S w w') (h1 : ¬ S b) (h2 : ¬ S g) : SetM w' b g n L := by
  obtain ⟨a1, a2, a3, a4, a5, M, a6, a7, a8, a9⟩ := h
  exact ⟨a1, a2, a3, a4, a5, M, a6, a7, ho.obj a8 h1, ho.obj a9 h2⟩
theorem SetM.lt {w : World} {b g n : Nat} {L : List Int} (h : SetM w b g n L) : b < w.heap.size ∧ g < w.heap.size := by
  obtain ⟨a1, a2, a3, a4, a5, M, a6, a7, a8, a9⟩ := h
  exact ⟨obj_lt a8, obj_lt a9⟩
theorem SetM.keep {w w' : World} {b g n : Nat} {L : List Int} (h : SetM w b g n L) (hb : Below w.heap.size w w') : SetM w' b g n L := h.only (S := fun _ => False) (Only.of_below hb) (fun h => h) fun h => h
theorem info_u64M : (Tryz.prog.info? 23).map (fun i => (i.zero, i.size, i.bytes)) = some (some (.int .u64 0), 1, 8) := by kernel_rfl
theorem MNew_calls (n : Nat) (w : World) (h1 : 1 ≤ n) (h2 : n ≤ 64) :
    Calls Tryz.prog 65 #[.int .i64 n] w fun e w' => ∃ b g, e = .returned (.pointer (some ⟨b, 0, none⟩)) ∧ SetM w' b g n [] ∧ w.heap.size ≤ b ∧ w.heap.size ≤ g ∧ Below w.heap.size w w' := by
  have hm : decide ((n : Int) < 0) = false := decide_eq_false (by omega)
  have e1 : IntKind.i64.wrap ((n : Int) + 64) = (n : Int) + 64 := by rw [i64_w]; exact wrap64_id _ (by omega)
  have e2 : IntKind.i64.wrap ((n : Int) + 64 - 1) = (n : Int) + 63 := by rw [i64_w, show (n : Int) + 64 - 1 = (n : Int) + 63 by omega]; exact wrap64_id _ (by omega)
  have e3 : ((n : Int) + 63).tdiv 64 = 1 := by rw [Int.tdiv_eq_ediv_of_nonneg (by omega)]; omega
  have e4 : IntKind.i64.wrap 1 = 1 := by decide
  go_enter Tryz.func65, Tryz.ntmps65
  go_wp2_with (at_make; refine wpList_mk _ rfl (.tmp 9) (.tmp 9) 24 23 rfl (.int .u64 0) 8 Tryz.underlying24 info_u64M rfl .i64 .i64 1 rfl rfl (by omega) (by omega) ?_; intro wm hblk hbel hsz2)
  go_ret
  have hz := hbel.size
  refine ⟨wm.heap.size, w.heap.size, rfl, ⟨h1, h2, by omega, fun x hx => by simp at hx, List.nodup_nil, 0, by omega, fun i _ => by simp, heap_alloc_new _ _, ?_⟩, hz, Nat.le_refl _, hbel.alloc hz _⟩
  exact obj_below (below_alloc1 (Below.refl _ _) _) hblk (by omega)
set_option maxHeartbeats 1600000 in
theorem MHas_calls (b g n : Nat) (L : List Int) (id : Int) (w : World) (h : SetM w b g n L) (hr : -9223372036854775808 ≤ id ∧ id ≤ 9223372036854775807) :
    Calls Tryz.prog 115 #[.pointer (some ⟨b, 0, none⟩), .int .i64 id] w fun e w' => e = .returned (.bool (decide (id ∈ L))) ∧ w = w' := by
  obtain ⟨a1, a2, a3, a4, a5, M, a6, a7, a8, a9⟩ := h
  have hc0 : w.cell? ⟨b, 0, none⟩ = some (.int .i64 n) := by simp [World.cell?, a8]
  have hc2 : w.cell? ⟨b, 2, none⟩ = some (.slice (some ⟨g, 0, none⟩) 1 1) := by simp [World.cell?, a8]
  have hg0 : w.cell? ⟨g, 0, none⟩ = some (.int .u64 M) := by simp [World.cell?, a9]
  clear a8 a9
  by_cases h0 : id < 0
  · have hn : decide (id ∈ L) = false := decide_eq_false fun h => by have := a4 id h; omega
    have d0 : decide (0 ≤ id) = false := decide_eq_false (by omega)
    have HN := Lib.hid hn
    clear hn a4 a7
    go_enter Tryz.func115, Tryz.ntmps115
    go_wp2_with fail
    go_ret
    exact ⟨by rw [HN.out]; rfl, rfl⟩
  by_cases h1 : (n : Int) ≤ id
  · have hn : decide (id ∈ L) = false := decide_eq_false fun h => by have := a4 id h; omega
    have d0 : decide (0 ≤ id) = true := decide_eq_true (by omega)
    have d1 : decide (id < (n : Int)) = false := decide_eq_false (by omega)
    have HN := Lib.hid hn
    clear hn a4 a7
    go_enter Tryz.func115, Tryz.ntmps115
    go_wp2_with fail
    go_ret
    exact ⟨by rw [HN.out]; rfl, rfl⟩
  obtain ⟨i, rfl⟩ : ∃ i : Nat, id = (i : Int) := ⟨id.toNat, by omega⟩
  have hb := bit_of M i a6
  have hi := a7 i (by omega)
  have e3 : (i : Int).tdiv 64 = 0 := by rw [Int.tdiv_eq_ediv_of_nonneg (by omega)]; omega
  have e4 : (i : Int).tmod 64 = (i : Int) := by rw [Int.tmod_eq_emod_of_nonneg (by omega)]; omega
  have e5 : (i : Int) ≤ 64 := by omega
  have d1 : decide (i < n) = true := decide_eq_true (by omega)
  have d1' : decide ((i : Int) < (n : Int)) = true := decide_eq_true (by omega)
  obtain ⟨z, hz⟩ : ∃ z, bits .and .u64 ((M : Int) / 2 ^ i) 1 = z := ⟨_, rfl⟩
  rw [hz] at hb
  have HI := Lib.hid hi
  have HB := Lib.hid hb
  clear hi hb a4 a7
  go_enter Tryz.func115, Tryz.ntmps115
  go_wp2_with fail
  go_ret
  have he : (z == 1) = decide ((i : Int) ∈ L) := by
    rw [HB.out, Bool.eq_iff_iff, decide_eq_true_iff, ← HI.out]
    cases M.testBit i <;> simp
  exact ⟨ret_bool he, rfl⟩
/-- What Add tells, and leaves. -/
def MAddPost (w' : World) (b g n : Nat) (L : List Int) (id : Int) (e : Ending) : Prop :=
  (id < 0 ∨ (n : Int) ≤ id ∨ id ∈ L → e = .returned (.bool false) ∧ SetM w' b g n L) ∧ (0 ≤ id → id < n → id ∉ L → e = .returned (.bool true) ∧ SetM w' b g n (L ++ [id]))
theorem SetM.add {w w' : World} {b g n : Nat} {L : List Int} {i : Nat} {M2 : Nat} (h : SetM w b g n L) (hi : i < n) (hL : (i : Int) ∉ L) (hM : ∀ M : Nat, w.heap[g]? = some (.cells #[.int .u64 M] 23 (0, 0)) → M < 18446744073709551616 → M ||| 2 ^ i = M2)
    (h1 : w'.heap[b]? = some (.cells #[.int .i64 n, .int .i64 ((L.length + 1 : Nat) : Int), .slice (some ⟨g, 0, none⟩) 1 1] 208 (0, 0))) (h2 : w'.heap[g]? = some (.cells #[.int .u64 M2] 23 (0, 0))) : SetM w' b g n (L ++ [(i : Int)]) := by
  obtain ⟨a1, a2, a3, a4, a5, M, a6, a7, a8, a9⟩ := h
  have e := hM M a9 a6
  have hnd : (L ++ [(i : Int)]).Nodup := List.nodup_append.2 ⟨a5, by simp, fun x hx y hy => by rw [List.mem_singleton] at hy; subst hy; exact fun h => hL (h ▸ hx)⟩
  refine ⟨a1, a2, a3, fun x hx => ?_, hnd, M2, ?_, fun j hj => ?_, by rw [List.length_append, List.length_singleton]; exact h1, h2⟩
  · rcases List.mem_append.1 hx with hx | hx
    · exact a4 x hx
    · rw [List.mem_singleton] at hx; omega
  · rw [← e]
    have hp : 2 ^ i < 2 ^ 64 := Nat.pow_lt_pow_right (by omega) (by omega)
    exact Nat.or_lt_two_pow (n := 64) (by omega) hp
  · rw [← e, Nat.testBit_or, Nat.testBit_two_pow, Bool.or_eq_true, a7 j hj, decide_eq_true_iff, List.mem_append, List.mem_singleton]
    constructor
    · rintro (h | h)
      · exact .inl h
      · exact .inr (by omega)
    · rintro (h | h)
      · exact .inl h
      · exact .inr (by omega)
set_option maxHeartbeats 1600000 in
theorem MAdd_calls (b g n : Nat) (L : List Int) (id : Int) (w : World) (h : SetM w b g n L) (hr : -9223372036854775808 ≤ id ∧ id ≤ 9223372036854775807) :
    Calls Tryz.prog 68 #[.pointer (some ⟨b, 0, none⟩), .int .i64 id] w fun e w' => MAddPost w' b g n L id e ∧ Only (fun k => k = b ∨ k = g) w w' := by
  have HS := Lib.hid h
  obtain ⟨a1, a2, a3, a4, a50, M, a6, a7, a8, a9⟩ := h
  have a5 := pigeon n L a50 a4
  clear a50
  have ew0 : IntKind.i64.wrap 0 = 0 := by decide
  have hc0 : w.cell? ⟨b, 0, none⟩ = some (.int .i64 n) := by simp [World.cell?, a8]
  have hc1 : w.cell? ⟨b, 1, none⟩ = some (.int .i64 L.length) := by simp [World.cell?, a8]
  have hc2 : w.cell? ⟨b, 2, none⟩ = some (.slice (some ⟨g, 0, none⟩) 1 1) := by simp [World.cell?, a8]
  have hg0 : w.cell? ⟨g, 0, none⟩ = some (.int .u64 M) := by simp [World.cell?, a9]
  have fc1 : w.frozen? ⟨b, 1, none⟩ = false := by simp [World.frozen?, a8]
  have fg0 : w.frozen? ⟨g, 0, none⟩ = false := by simp [World.frozen?, a9]
  have A8 := Lib.hid a8
  have A9 := Lib.hid a9
  have A4 := Lib.hid a4
  have A7 := Lib.hid a7
  clear a8 a9 a4 a7
  by_cases h0 : id < 0
  · go_enter Tryz.func68, Tryz.ntmps68
    go_wp2_with fail
    go_ret
    exact ⟨⟨fun _ => ⟨rfl, HS.out⟩, fun h => absurd h0 (by omega)⟩, Only.refl _ _⟩
  by_cases h1 : (n : Int) ≤ id
  · go_enter Tryz.func68, Tryz.ntmps68
    go_wp2_with fail
    go_ret
    exact ⟨⟨fun _ => ⟨rfl, HS.out⟩, fun _ h => absurd h1 (by omega)⟩, Only.refl _ _⟩
  have hh := MHas_calls b g n L id w HS.out hr
  obtain ⟨d, hd⟩ : ∃ d, decide (id ∈ L) = d := ⟨_, rfl⟩
  rw [hd] at hh
  have HH := Lib.hid hh
  have HD := Lib.hid hd
  have d1 : decide ((n : Int) ≤ id) = false := decide_eq_false h1
  have d0 : decide (id < 0) = false := decide_eq_false h0
  clear hh hd
  cases d with
  | true =>
    have hm := of_decide_eq_true HD.out
    go_enter Tryz.func68, Tryz.ntmps68
    go_wp2_with fail
    refine HH.out.mono ?_
    rintro e _ ⟨he, rfl⟩
    subst he
    go_wp2_with fail
    go_ret
    exact ⟨⟨fun _ => ⟨rfl, HS.out⟩, fun _ _ h => absurd hm h⟩, Only.refl _ _⟩
  | false =>
    have hm := of_decide_eq_false HD.out
    obtain ⟨i, rfl⟩ : ∃ i : Nat, id = (i : Int) := ⟨id.toNat, by omega⟩
    have e3 : (i : Int).tdiv 64 = 0 := by rw [Int.tdiv_eq_ediv_of_nonneg (by omega)]; omega
    have e4 : (i : Int).tmod 64 = (i : Int) := by rw [Int.tmod_eq_emod_of_nonneg (by omega)]; omega
    have e5 : (i : Int) ≤ 64 := by omega
    have hi64 : i < 64 := by omega
    have hp : 2 ^ i < 18446744073709551616 := by
      have := Nat.pow_lt_pow_right (a := 2) (by omega) hi64
      omega
    have hwp : IntKind.u64.wrap (2 ^ i) = ((2 ^ i : Nat) : Int) := by
      have h2 : ((2 : Int) ^ i) = ((2 ^ i : Nat) : Int) := by simp
      rw [h2]
      generalize 2 ^ i = q at hp ⊢
      exact u64_id _ (by omega)
    have hor := u64_or_nat M (2 ^ i) a6 hp
    obtain ⟨M2, hM2⟩ : ∃ m, M ||| 2 ^ i = m := ⟨_, rfl⟩
    have hM2l : M2 < 18446744073709551616 := by
      rw [← hM2]
      exact Nat.or_lt_two_pow (n := 64) (by omega) (by omega)
    rw [hM2] at hor
    obtain ⟨p, hpe⟩ : ∃ p : Nat, 2 ^ i = p := ⟨_, rfl⟩
    rw [hpe] at hor hwp
    have HM2 := Lib.hid hM2
    have hw1 : IntKind.i64.wrap ((L.length : Int) + 1) = ((L.length + 1 : Nat) : Int) := by rw [i64_w]; exact wrap64_id _ (by omega)
    clear hM2 hp hpe
    go_enter Tryz.func68, Tryz.ntmps68
    go_wp2_with fail
    refine HH.out.mono ?_
    rintro e _ ⟨he, rfl⟩
    subst he
    have hw0 : decide ((i : Int) < 0) = false := d0
    have ewi : IntKind.i64.wrap (i : Int) = (i : Int) := by rw [i64_w]; exact wrap64_id _ (by omega)
    have hgb : ¬ b = g := by omega
    have hgb' : ¬ g = b := by omega
    go_wp2_with fail
    go_still_tail 13, (by kernel_rfl)
    go_wp2_with fail
    go_ret
    refine ⟨⟨fun h => ?_, fun _ _ hL => ⟨rfl, ?_⟩⟩, ?_⟩
    · exact absurd h (by simp only [not_or]; exact ⟨by omega, by omega, hm⟩)
    · refine HS.out.add (M2 := M2) (by omega) hL (fun M' h1 h2 => ?_) ?_ ?_
      · rw [A9.out] at h1
        injection h1 with h1
        injection h1 with h1
        have h4 : (M' : Int) = (M : Int) := by simpa using h1.symm
        have h3 : M' = M := by omega
        rw [h3]
        exact HM2.out
      · exact set_blk (w := w.setCell ⟨g, 0, none⟩ _) (cs := [_, _, _]) (set_other A8.out _ _ hgb) 1 _
      · exact set_other (set_blk (cs := [_]) A9.out 0 _) _ _ hgb'
    · exact (((only_set _ _ _ _).mono fun k _ h => .inr h).trans ((only_set _ _ _ _).mono fun k _ h => .inl h)).trans (Only.of_below (Below.refl _ _).drew)
theorem MLen_calls (b g n : Nat) (L : List Int) (w : World) (h : SetM w b g n L) : Calls Tryz.prog 66 #[.pointer (some ⟨b, 0, none⟩)] w fun e w' => e = .returned (.int .i64 L.length) ∧ w = w' := by
  obtain ⟨a1, a2, a3, a4, a50, M, a6, a7, a8, a9⟩ := h
  have hc1 : w.cell? ⟨b, 1, none⟩ = some (.int .i64 L.length) := by simp [World.cell?, a8]
  go_enter Tryz.func66, Tryz.ntmps66
  go_wp2_with fail
  go_ret
  exact ⟨rfl, rfl⟩
end Go.Proofs.YticdmglondpgaaaGreat

/-! ## Strm: The streams (package stream, layer 6) and the reference's: what each tells. Condition of each: the list reads as numbers of 64 bits. -/
namespace Go.Proofs.YticdmglondpgaaaGreat
open Go.RowKit
set_option linter.unusedVariables false
set_option maxRecDepth 100000
set_option linter.unusedSimpArgs false

/-! ### every T-th number of a list, from the t-th on -/
def cnt (n t T : Nat) : Nat := (n + (T - 1 - t)) / T
def pk (l : List Int) (t T c : Nat) : List Int := (List.range c).map fun q => l.getD (t + q * T) 0
theorem pk_succ (l : List Int) (t T c : Nat) : pk l t T (c + 1) = pk l t T c ++ [l.getD (t + c * T) 0] := by simp [pk, List.range_succ]
theorem pk_length (l : List Int) (t T c : Nat) : (pk l t T c).length = c := by simp [pk]
theorem pk_zero (l : List Int) (t T : Nat) : pk l t T 0 = [] := rfl
theorem pk_u64 {l : List Int} (h : U64 l) (t T c : Nat) : U64 (pk l t T c) := by
  intro x hx
  simp [pk] at hx
  obtain ⟨q, _, rfl⟩ := hx
  simpa [List.getD] using h.at (t + q * T)
theorem cnt_zero {t T : Nat} (h : t < T) : cnt 0 t T = 0 := Nat.div_eq_of_lt (by omega)
theorem cnt_is {n t T q : Nat} (h : t < T) (h1 : q * T ≤ n + (T - 1 - t)) (h2 : n + (T - 1 - t) < q * T + T) : cnt n t T = q := by
  refine Nat.div_eq_of_lt_le h1 ?_
  rw [Nat.succ_mul]
  exact h2
theorem cnt_yes {t T i : Nat} (h : t < T) (hr : i % T = t) : cnt (i + 1) t T = cnt i t T + 1 ∧ i = t + cnt i t T * T := by
  have hi := Nat.div_add_mod i T
  rw [hr, Nat.mul_comm] at hi
  have e1 : cnt i t T = i / T := cnt_is h (by omega) (by omega)
  have e2 : cnt (i + 1) t T = i / T + 1 := cnt_is h (by rw [Nat.succ_mul]; omega) (by rw [Nat.succ_mul]; omega)
  rw [e1, e2]
  exact ⟨rfl, by omega⟩
theorem cnt_no {t T i : Nat} (h : t < T) (hr : i % T ≠ t) : cnt (i + 1) t T = cnt i t T := by
  have hi := Nat.div_add_mod i T
  have hm := Nat.mod_lt i (show 0 < T by omega)
  rw [Nat.mul_comm] at hi
  by_cases h1 : i % T < t
  · rw [cnt_is (n := i) (q := i / T) h (by omega) (by omega), cnt_is (n := i + 1) (q := i / T) h (by omega) (by omega)]
  · rw [cnt_is (n := i) (q := i / T + 1) h (by rw [Nat.succ_mul]; omega) (by rw [Nat.succ_mul]; omega), cnt_is (n := i + 1) (q := i / T + 1) h (by rw [Nat.succ_mul]; omega) (by rw [Nat.succ_mul]; omega)]
theorem cnt_le (n t T : Nat) (h : t < T) : cnt n t T ≤ n := by
  unfold cnt
  rcases Nat.eq_zero_or_pos n with rfl | hn
  · rw [Nat.div_eq_of_lt (by omega)]; omega
  · refine Nat.lt_succ_iff.1 ((Nat.div_lt_iff_lt_mul (by omega)).2 ?_)
    have := Nat.mul_le_mul_left n (show 1 ≤ T by omega)
    rw [Nat.succ_mul]
    omega

/-! ### a seed's n-th number -/
theorem nth_eq (seed n : Int) : mixAt (IntKind.u64.wrap (seed + IntKind.u64.wrap (IntKind.u64.wrap n * 11400714819323198485))) 1 = nthOut seed n := by
  unfold mixAt nthOut
  congr 1
  rw [wrap_u64', wrap_u64', wrap_u64', wrap_u64', wrap_u64']
  omega
def nth0 (seed n : Int) : Int := if n < 0 then 0 else nthOut seed n
theorem sNth_calls (seed n : Int) (w : World) :
    Calls Tryz.prog 53 #[.int .u64 seed, .int .i64 n] w fun e w' => e = .returned (.int .u64 (nth0 seed n)) ∧ Below w.heap.size w w' := by
  unfold nth0
  by_cases h : n < 0
  · rw [if_pos h]
    go_enter Tryz.func53, Tryz.ntmps53
    go_wp2_with fail
    go_ret
    exact ⟨rfl, Below.refl _ _⟩
  · rw [if_neg h]
    have e := nth_eq seed n
    obtain ⟨q, hq⟩ : ∃ q, nthOut seed n = q := ⟨_, rfl⟩
    rw [hq] at e ⊢
    have HE := Lib.hid e
    clear e hq
    go_enter Tryz.func53, Tryz.ntmps53
    go_wp2_with fail
    refine (Mix_calls _ _).mono ?_
    rintro e w1 ⟨v, he, hs, hb, T, p, rfl⟩
    subst he
    obtain ⟨T, a, h1, hT⟩ := hs.shape
    injection h1 with h1 h2
    subst h1 h2
    have hm := hT.meth a
    have hc := hT.call (.pointer (some a))
    have HS := Lib.hid hs
    have hz := hb.size
    clear hs
    go_wp2_with fail
    refine HS.out.draw.mono ?_
    rintro e w2 ⟨he, hs, ho⟩
    have h5 := HE.out
    rw [Nat.zero_add, h5] at he
    subst he
    have hb2 : Below w.heap.size w w2 := hb.trans (ho.below hz fun k hk h => by have := h.1; omega)
    clear hs ho hb
    go_wp2_with fail
    go_ret
    exact ⟨rfl, hb2⟩

/-! ### a tree's stream -/
def offT (scr : Bool) (seed : Int) (l : List Int) (tree trees : Int) : Nat → Int :=
  if tree < 0 ∨ trees ≤ tree then fun _ => 0 else if scr then fun i => (pk l tree.toNat trees.toNat (cnt l.length tree.toNat trees.toNat)).getD i 0 else fun i => mixAt (nthOut seed tree) (i + 1)
theorem ofScript (lo hi : Nat) (w : World) : True := trivial
set_option maxHeartbeats 1600000 in
theorem sOf_calls (scr : Bool) (seed : Int) (A : Option Addr) (c : Nat) (l : List Int) (tree trees : Int) (w : World) (ha : Rd w .u64 A l) (hu : U64 l) (hl : l.length ≤ 1000000) (htr : -9223372036854775808 ≤ tree ∧ trees ≤ 9223372036854775807) :
    Calls Tryz.prog 18 #[.agg #[.bool scr, .int .u64 seed, .slice A l.length c], .int .i64 tree, .int .i64 trees] w fun e w' => ∃ v, e = .returned v ∧ Src w' w.heap.size w'.heap.size v (offT scr seed l tree trees) ∧ Below w.heap.size w w' ∧ ∃ T p, v = .iface T p := by
  have KA := Lib.hid ha
  have HU := Lib.hid hu
  have lA := ha.1
  clear ha hu
  obtain ⟨s, hs0⟩ : ∃ s, offT scr seed l tree trees = s := ⟨_, rfl⟩
  rw [hs0]
  have HS := Lib.hid hs0
  clear hs0
  by_cases h1 : tree < 0 ∨ trees ≤ tree
  · have e1 : s = fun i => ([] : List Int).getD i 0 := by rw [← HS.out]; unfold offT; rw [if_pos h1]; rfl
    have t1 : (tree < 0) ∨ (0 ≤ tree ∧ trees ≤ tree) := by omega
    have HE := Lib.hid e1
    clear e1 h1
    rcases t1 with t1 | ⟨t1, t2⟩
    · have t1' : decide (tree < 0) = true := decide_eq_true t1
      go_enter Tryz.func18, Tryz.ntmps18
      go_wp2_with fail
      refine (Script_calls none 0 [] _ (Rd.nil _ _ _) (by intro x hx; cases hx) (by simp)).mono ?_
      rintro e w1 ⟨v, he, hs, hb, T, p, rfl⟩
      subst he
      have hs2 := hs.wide (lo' := w.heap.size) (hi' := w1.heap.size) (by simp) (Nat.le_refl _)
      have hb2 : Below w.heap.size w w1 := (below_alloc1 (Below.refl _ _) _).trans (hb.mono (by simp))
      rw [← HE.out] at hs2
      have H2 := Lib.hid hs2
      clear hs hb hs2
      go_wp2_with fail
      go_ret
      exact ⟨_, rfl, H2.out, hb2, _, _, rfl⟩
    · have t1' : decide (tree < 0) = false := decide_eq_false (by omega)
      have t2' : decide (trees ≤ tree) = true := decide_eq_true t2
      go_enter Tryz.func18, Tryz.ntmps18
      go_wp2_with fail
      refine (Script_calls none 0 [] _ (Rd.nil _ _ _) (by intro x hx; cases hx) (by simp)).mono ?_
      rintro e w1 ⟨v, he, hs, hb, T, p, rfl⟩
      subst he
      have hs2 := hs.wide (lo' := w.heap.size) (hi' := w1.heap.size) (by simp) (Nat.le_refl _)
      have hb2 : Below w.heap.size w w1 := (below_alloc1 (Below.refl _ _) _).trans (hb.mono (by simp))
      rw [← HE.out] at hs2
      have H2 := Lib.hid hs2
      clear hs hb hs2
      go_wp2_with fail
      go_ret
      exact ⟨_, rfl, H2.out, hb2, _, _, rfl⟩
  have t1' : decide (tree < 0) = false := decide_eq_false (by omega)
  have t2' : decide (trees ≤ tree) = false := decide_eq_false (by omega)
  obtain ⟨t, rfl⟩ : ∃ k : Nat, tree = k := ⟨tree.toNat, by omega⟩
  obtain ⟨T, rfl⟩ : ∃ k : Nat, trees = k := ⟨trees.toNat, by omega⟩
  have htT : t < T := by omega
  have hT2 : T ≤ 9223372036854775807 := by omega
  have e0 : offT scr seed l t T = if scr then fun i => (pk l t T (cnt l.length t T)).getD i 0 else fun i => mixAt (nthOut seed t) (i + 1) := by
    unfold offT
    rw [if_neg h1]
    simp
  rw [HS.out] at e0
  clear h1 HS htr
  cases scr with
  | false =>
    have HE := Lib.hid e0
    obtain ⟨q, hq⟩ : ∃ q, nthOut seed t = q := ⟨_, rfl⟩
    rw [hq] at HE
    have hq2 : nth0 seed t = q := by unfold nth0; rw [if_neg (by omega), hq]
    have HQ := Lib.hid hq2
    clear e0 hq hq2
    go_enter Tryz.func18, Tryz.ntmps18
    go_wp2_with fail
    refine (sNth_calls seed t _).mono ?_
    rintro e w1 ⟨he, hb⟩
    rw [HQ.out] at he
    subst he
    have hb2 : Below w.heap.size w w1 := (below_alloc1 (Below.refl _ _) _).trans (hb.mono (by simp))
    have hz := hb2.size
    clear hb
    go_wp2_with fail
    refine (Mix_calls q _).mono ?_
    rintro e w2 ⟨v, he, hs, hb, T', p, rfl⟩
    subst he
    have hb3 : Below w.heap.size w w2 := hb2.trans (hb.mono hz)
    have hs2 := hs.wide (lo' := w.heap.size) (hi' := w2.heap.size) hz (Nat.le_refl _)
    have h5 := HE.out
    simp only [Bool.false_eq_true, if_false] at h5
    rw [← h5] at hs2
    have H2 := Lib.hid hs2
    clear hs hb hs2 h5
    go_wp2_with fail
    go_ret
    exact ⟨_, rfl, H2.out, hb3, _, _, rfl⟩
  | true =>
    have HE := Lib.hid e0
    clear e0
    go_enter Tryz.func18, Tryz.ntmps18
    go_wp2_with fail
    obtain ⟨w1, hw⟩ : ∃ W, w.alloc (.cells #[.bool true, .int .u64 seed, .slice A l.length c] 26) = W := ⟨_, rfl⟩
    rw [hw]
    have hb1 : Below w.heap.size w w1 := by rw [← hw]; exact below_alloc1 (Below.refl _ _) _
    have hz1 := hb1.size
    clear hw
    have KA1 := Lib.hid (KA.out.below hb1)
    go_loopg [31, 7] l.length (fun kq v31 v7 w' => kq ≤ l.length ∧ v31 = .int .i64 ((l.length - kq : Nat)) ∧ Own w' w1.heap.size 23 .u64 v7 (pk l t T (cnt (l.length - kq) t T)) ∧ Below w1.heap.size w1 w')
    case atStart => exact ⟨Nat.le_refl _, by simp, by rw [Nat.sub_self, cnt_zero htT]; exact World.ownsRow_nil _ _ _ _, Below.refl _ _⟩
    case round =>
      obtain ⟨hk, rfl, HO, HB⟩ := hrel
      have HO' := Lib.hid HO
      have HBH := Lib.hid HB
      have hwz := HB.size
      clear HO HB
      cases gk with
      | zero =>
        simp only [Nat.sub_zero] at HO' ⊢
        obtain ⟨A1, c1, rfl, hc1, hr1⟩ := HO'.out.shape
        have hlen := pk_length l t T (cnt l.length t T)
        have hcl := cnt_le l.length t T htT
        have hb2 : Below w.heap.size w wr := hb1.trans (HBH.out.mono hz1)
        have H1 := Lib.hid hr1
        obtain ⟨L, hL⟩ : ∃ L, pk l t T (cnt l.length t T) = L := ⟨_, rfl⟩
        have hUL : U64 L := by rw [← hL]; exact pk_u64 HU.out _ _ _
        rw [hL] at H1 hlen hc1 ⊢
        have HL := Lib.hid hL
        have HUL := Lib.hid hUL
        have hlL : L.length ≤ 1000000 := by omega
        clear hlen hcl hL hr1 hUL HO'
        go_wp2_with fail
        refine (Script_calls A1 c1 L _ H1.out HUL.out (by omega)).mono ?_
        rintro e w2 ⟨v, he, hs, hb, T', p, rfl⟩
        subst he
        have hb3 : Below w.heap.size w w2 := hb2.trans (hb.mono hb2.size)
        have hs2 := hs.wide (lo' := w.heap.size) (hi' := w2.heap.size) hb2.size (Nat.le_refl _)
        have h5 := HE.out
        simp only [if_true] at h5
        rw [HL.out] at h5
        rw [← h5] at hs2
        have H2 := Lib.hid hs2
        clear hs hb hs2 h5
        go_wp2_with fail
        go_ret
        exact ⟨_, rfl, H2.out, hb3, _, _, rfl⟩
      | succ k1 =>
        obtain ⟨i, hi⟩ : ∃ i, l.length - (k1 + 1) = i := ⟨_, rfl⟩
        have hi2 : l.length - k1 = i + 1 := by omega
        have HI := Lib.hid hi2
        have hlt : i < l.length := by omega
        rw [hi] at HO' ⊢
        obtain ⟨ad, rfl, hca⟩ := KA1.out.2 i hlt
        have hca' : wr.cell? (ad.add i) = _ := cell_below HBH.out hca (World.block_lt_of_cell? _ _ hca)
        obtain ⟨x, hx⟩ : ∃ x, l.getD i 0 = x := ⟨_, rfl⟩
        rw [hx] at hca hca'
        have HX := Lib.hid hx
        have hmod : (i : Int).tmod (T : Int) = ((i % T : Nat) : Int) := by rw [Int.tmod_eq_emod_of_nonneg (by omega)]; rfl
        obtain ⟨r, hr⟩ : ∃ r, i % T = r := ⟨_, rfl⟩
        rw [hr] at hmod
        have HR := Lib.hid hr
        have hT0 : ¬ (T : Int) = 0 := by omega
        clear hi hi2 hx hr
        by_cases hrt : r = t
        · subst hrt
          obtain ⟨c1, c2⟩ := cnt_yes htT HR.out
          have hst : pk l r T (cnt (i + 1) r T) = pk l r T (cnt i r T) ++ [x] := by rw [c1, pk_succ, ← c2, HX.out]
          have hcl := cnt_le i r T htT
          have hlen := pk_length l r T (cnt i r T)
          have HST := Lib.hid hst
          clear c1 c2 hst
          go_wp2_with (at_builtin; refine wpList_appI _ rfl (.tmp 41) (.tmp 43) 24 23 rfl .u64 8 Tryz.underlying24 info_u64 (by omega) w1.heap.size u7 (pk l r T (cnt i r T)) rfl (some ⟨wr.heap.size, 0, none⟩) 1 [x] rfl (HO'.out.alloc1 _) w1 (HBH.out.alloc hwz _) (by simp; omega) (Rd.new wr .u64 [x] 23 (by simp)) (by simp; omega) ?_; intro v1 w2 ho hgrow hbel hat hnil; rw [← HST.out] at ho; have HO := Lib.hid ho; clear ho hat hnil hgrow)
          go_roundg k1
          case measure => omega
          case rel =>
            refine ⟨by omega, by rw [HI.out]; rfl, ?_, hbel⟩
            rw [HI.out]
            exact HO.out
        · have hst : cnt (i + 1) t T = cnt i t T := cnt_no htT (by rw [HR.out]; exact hrt)
          have hrt2 : ((r : Int) == (t : Int)) = false := by simp; omega
          have HST := Lib.hid hst
          clear hst
          go_wp2_with fail
          go_roundg k1
          case measure => omega
          case rel =>
            refine ⟨by omega, by rw [HI.out]; rfl, ?_, HBH.out⟩
            rw [HI.out, HST.out]
            exact HO'.out
end Go.Proofs.YticdmglondpgaaaGreat

/-! ## Strm2: The reference's stream of a tree (layer 6). Condition: the list reads as numbers of 64 bits; no more than a million trees. -/
namespace Go.Proofs.YticdmglondpgaaaGreat
open Go.RowKit
set_option linter.unusedVariables false
set_option maxRecDepth 100000
set_option linter.unusedSimpArgs false

theorem cnt_lt {n t T j : Nat} (h : t < T) : j < cnt n t T ↔ t + j * T < n := by
  unfold cnt
  rw [← Nat.succ_le_iff, Nat.le_div_iff_mul_le (by omega), Nat.succ_mul]
  omega
theorem refS_true (st : Int) (l : List Int) : refS true st l = fun i => mixAt st (i + 1) := by
  funext i
  unfold refS
  rw [if_pos rfl]
theorem refS_false (st : Int) (l : List Int) : refS false st l = fun i => l.getD i 0 := by
  funext i
  unfold refS
  rw [if_neg (by decide)]
end Go.Proofs.YticdmglondpgaaaGreat

/-! ## Order1: What comes first (package order, and the library's cmp): what each function tells. No condition. -/
namespace Go.Proofs.YticdmglondpgaaaGreat
open Go.RowKit
set_option linter.unusedVariables false
set_option maxRecDepth 100000
set_option linter.unusedSimpArgs false

def cmpV (a b : Int) : Int := if a < b then -1 else if b < a then 1 else 0
theorem isNaN64_calls (a : Int) (w : World) : Calls Tryz.prog 186 #[.int .i64 a] w fun e w' => e = .returned (.bool false) ∧ w = w' := by
  go_enter Tryz.func186, Tryz.ntmps186
  go_wp2_with fail
  go_ret
  exact ⟨by simp, rfl⟩
theorem isNaN_calls (a : Int) (w : World) : Calls Tryz.prog 187 #[.int .i64 a] w fun e w' => e = .returned (.bool false) ∧ w = w' := by
  go_enter Tryz.func187, Tryz.ntmps187
  go_wp2_with fail
  go_ret
  exact ⟨by simp, rfl⟩
theorem Cmp64_calls (a b : Int) (w : World) : Calls Tryz.prog 135 #[.int .i64 a, .int .i64 b] w fun e w' => e = .returned (.int .i64 (cmpV a b)) ∧ w = w' := by
  unfold cmpV
  by_cases h1 : a < b
  · have h1' : decide (a < b) = true := decide_eq_true h1
    rw [if_pos h1]
    go_enter Tryz.func135, Tryz.ntmps135
    go_wp2_with fail
    refine (isNaN64_calls _ _).mono ?_
    rintro e _ ⟨he, rfl⟩
    subst he
    go_wp2_with fail
    refine (isNaN64_calls _ _).mono ?_
    rintro e _ ⟨he, rfl⟩
    subst he
    go_wp2_with fail
    go_ret
    exact ⟨rfl, rfl⟩
  · have h1' : decide (a < b) = false := decide_eq_false h1
    rw [if_neg h1]
    by_cases h2 : b < a
    · have h2' : decide (b < a) = true := decide_eq_true h2
      rw [if_pos h2]
      go_enter Tryz.func135, Tryz.ntmps135
      go_wp2_with fail
      refine (isNaN64_calls _ _).mono ?_
      rintro e _ ⟨he, rfl⟩
      subst he
      go_wp2_with fail
      refine (isNaN64_calls _ _).mono ?_
      rintro e _ ⟨he, rfl⟩
      subst he
      go_wp2_with fail
      go_ret
      exact ⟨rfl, rfl⟩
    · have h2' : decide (b < a) = false := decide_eq_false h2
      rw [if_neg h2]
      go_enter Tryz.func135, Tryz.ntmps135
      go_wp2_with fail
      refine (isNaN64_calls _ _).mono ?_
      rintro e _ ⟨he, rfl⟩
      subst he
      go_wp2_with fail
      refine (isNaN64_calls _ _).mono ?_
      rintro e _ ⟨he, rfl⟩
      subst he
      go_wp2_with fail
      go_ret
      exact ⟨rfl, rfl⟩
theorem Cmp_calls (a b : Int) (w : World) : Calls Tryz.prog 136 #[.int .i64 a, .int .i64 b] w fun e w' => e = .returned (.int .i64 (cmpV a b)) ∧ w = w' := by
  unfold cmpV
  by_cases h1 : a < b
  · have h1' : decide (a < b) = true := decide_eq_true h1
    rw [if_pos h1]
    go_enter Tryz.func136, Tryz.ntmps136
    go_wp2_with fail
    refine (isNaN_calls _ _).mono ?_
    rintro e _ ⟨he, rfl⟩
    subst he
    go_wp2_with fail
    refine (isNaN_calls _ _).mono ?_
    rintro e _ ⟨he, rfl⟩
    subst he
    go_wp2_with fail
    go_ret
    exact ⟨rfl, rfl⟩
  · have h1' : decide (a < b) = false := decide_eq_false h1
    rw [if_neg h1]
    by_cases h2 : b < a
    · have h2' : decide (b < a) = true := decide_eq_true h2
      rw [if_pos h2]
      go_enter Tryz.func136, Tryz.ntmps136
      go_wp2_with fail
      refine (isNaN_calls _ _).mono ?_
      rintro e _ ⟨he, rfl⟩
      subst he
      go_wp2_with fail
      refine (isNaN_calls _ _).mono ?_
      rintro e _ ⟨he, rfl⟩
      subst he
      go_wp2_with fail
      go_ret
      exact ⟨rfl, rfl⟩
    · have h2' : decide (b < a) = false := decide_eq_false h2
      rw [if_neg h2]
      go_enter Tryz.func136, Tryz.ntmps136
      go_wp2_with fail
      refine (isNaN_calls _ _).mono ?_
      rintro e _ ⟨he, rfl⟩
      subst he
      go_wp2_with fail
      refine (isNaN_calls _ _).mono ?_
      rintro e _ ⟨he, rfl⟩
      subst he
      go_wp2_with fail
      go_ret
      exact ⟨rfl, rfl⟩
def orV (x y : Int) : Int := if x = 0 then y else x
theorem Or_calls (g c : Nat) (x y : Int) (w : World) (h0 : w.cell? ⟨g, 0, none⟩ = some (.int .i64 x)) (h1 : w.cell? ⟨g, 1, none⟩ = some (.int .i64 y)) : Calls Tryz.prog 134 #[.slice (some ⟨g, 0, none⟩) 2 c] w fun e w' => e = .returned (.int .i64 (orV x y)) ∧ Below w.heap.size w w' := by
  unfold orV
  go_enter Tryz.func134, Tryz.ntmps134
  go_wp2_with fail
  go_loopg [8] 2 (fun kq v8 w' => w' = w ∧ ((kq = 2 ∧ v8 = .int .i64 0) ∨ (kq = 1 ∧ v8 = .int .i64 1 ∧ x = 0) ∨ (kq = 0 ∧ v8 = .int .i64 2 ∧ x = 0 ∧ y = 0)))
  case atStart => exact ⟨rfl, .inl ⟨rfl, rfl⟩⟩
  case round =>
    obtain ⟨rfl, hc⟩ := hrel
    rcases hc with ⟨rfl, rfl⟩ | ⟨rfl, rfl, hx⟩ | ⟨rfl, rfl, hx, hy⟩
    · by_cases hx : x = 0
      · have hx' : (x != 0) = false := by simp [hx]
        go_wp2_with fail
        go_roundg 1
        case measure => omega
        case rel => exact ⟨rfl, .inr (.inl ⟨rfl, rfl, hx⟩)⟩
      · have hx' : (x != 0) = true := by simp [hx]
        go_wp2_with fail
        go_ret
        exact ⟨rfl, Below.refl _ _⟩
    · by_cases hy : y = 0
      · have hy' : (y != 0) = false := by simp [hy]
        go_wp2_with fail
        go_roundg 0
        case measure => omega
        case rel => exact ⟨rfl, .inr (.inr ⟨rfl, rfl, hx, hy⟩)⟩
      · have hy' : (y != 0) = true := by simp [hy]
        go_wp2_with fail
        go_ret
        exact ⟨rfl, Below.refl _ _⟩
    · go_wp2_with fail
      go_ret
      exact ⟨rfl, Below.refl _ _⟩
def nearB (a0 a1 b0 b1 : Int) : Bool := decide (orV (cmpV a1 b1) (cmpV a0 b0) < 0)
set_option maxHeartbeats 3200000 in
theorem Nearer_calls (a0 a1 b0 b1 : Int) (w : World) : Calls Tryz.prog 91 #[.agg #[.int .i64 a0, .int .i64 a1], .agg #[.int .i64 b0, .int .i64 b1]] w fun e w' => e = .returned (.bool (nearB a0 a1 b0 b1)) ∧ Below w.heap.size w w' := by
  obtain ⟨x, hx⟩ : ∃ x, cmpV a1 b1 = x := ⟨_, rfl⟩
  obtain ⟨y, hy⟩ : ∃ y, cmpV a0 b0 = y := ⟨_, rfl⟩
  obtain ⟨z, hz⟩ : ∃ z, orV x y = z := ⟨_, rfl⟩
  have hr : nearB a0 a1 b0 b1 = decide (z < 0) := by unfold nearB; rw [hx, hy, hz]
  rw [hr]
  have HX := Lib.hid hx
  have HY := Lib.hid hy
  have HZ := Lib.hid hz
  clear hr hx hy hz
  go_enter Tryz.func91, Tryz.ntmps91
  go_wp2_with fail
  obtain ⟨w2, hw⟩ : ∃ W, (w.alloc (.cells #[.int .i64 a0, .int .i64 a1] 90)).alloc (.cells #[.int .i64 b0, .int .i64 b1] 90) = W := ⟨_, rfl⟩
  rw [hw]
  have hb1 : Below w.heap.size w w2 := by rw [← hw]; exact below_alloc1 (below_alloc1 (Below.refl _ _) _) _
  have ba : w2.heap[w.heap.size]? = some (.cells #[.int .i64 a0, .int .i64 a1] 90 (0, 0)) := by rw [← hw]; exact obj_below ((Below.refl _ _).alloc (Nat.le_refl _) _) (heap_alloc_new w _) (obj_lt (heap_alloc_new w _))
  have bb : w2.heap[w.heap.size + 1]? = some (.cells #[.int .i64 b0, .int .i64 b1] 90 (0, 0)) := by rw [← hw]; have h := heap_alloc_new (w.alloc (.cells #[.int .i64 a0, .int .i64 a1] 90)) (.cells #[.int .i64 b0, .int .i64 b1] 90); rwa [World.size_alloc] at h
  have h2_0 : w2.cell? ⟨w.heap.size, 0, none⟩ = some (.int .i64 a0) := by simp [World.cell?, ba]
  have h2_1 : w2.cell? ⟨w.heap.size, 1, none⟩ = some (.int .i64 a1) := by simp [World.cell?, ba]
  have h2_2 : w2.cell? ⟨w.heap.size + 1, 0, none⟩ = some (.int .i64 b0) := by simp [World.cell?, bb]
  have h2_3 : w2.cell? ⟨w.heap.size + 1, 1, none⟩ = some (.int .i64 b1) := by simp [World.cell?, bb]
  have hbs : Below w2.heap.size w2 w2 := Below.refl _ _
  clear hw ba bb
  go_region_held3 (fun w' => w'.cell? ⟨w.heap.size, 0, none⟩ = some (.int .i64 a0) ∧ w'.cell? ⟨w.heap.size, 1, none⟩ = some (.int .i64 a1) ∧ w'.cell? ⟨w.heap.size + 1, 0, none⟩ = some (.int .i64 b0) ∧ w'.cell? ⟨w.heap.size + 1, 1, none⟩ = some (.int .i64 b1) ∧ Below w2.heap.size w2 w')
    (first | exact ⟨cell_below (B := w2.heap.size) (w := w2) (by repeat (first | assumption | exact Below.refl _ _ | apply below_drew1 | apply below_alloc1)) h2_0 (World.block_lt_of_cell? _ _ h2_0), cell_below (B := w2.heap.size) (w := w2) (by repeat (first | assumption | exact Below.refl _ _ | apply below_drew1 | apply below_alloc1)) h2_1 (World.block_lt_of_cell? _ _ h2_1), cell_below (B := w2.heap.size) (w := w2) (by repeat (first | assumption | exact Below.refl _ _ | apply below_drew1 | apply below_alloc1)) h2_2 (World.block_lt_of_cell? _ _ h2_2), cell_below (B := w2.heap.size) (w := w2) (by repeat (first | assumption | exact Below.refl _ _ | apply below_drew1 | apply below_alloc1)) h2_3 (World.block_lt_of_cell? _ _ h2_3), (by repeat (first | assumption | exact Below.refl _ _ | apply below_drew1 | apply below_alloc1))⟩ | go_keep)
    (first
      | (go_at_call 135; go_split_ands; (with_reducible refine (Cmp64_calls _ _ _).mono ?_); rintro e w3 ⟨he, hq3⟩; rw [HX.out] at he; subst he; have hb3 : Below w2.heap.size w2 w3 := (by rw [← hq3]; exact (by repeat (first | assumption | exact Below.refl _ _ | apply below_drew1 | apply below_alloc1))); clear hq3)
      | (go_at_call 136; go_split_ands; (with_reducible refine (Cmp_calls _ _ _).mono ?_); rintro e w4 ⟨he, hq4⟩; rw [HY.out] at he; subst he; have hb4 : Below w2.heap.size w2 w4 := (by rw [← hq4]; exact (by repeat (first | assumption | exact Below.refl _ _ | apply below_drew1 | apply below_alloc1))); clear hq4)
      | (go_at_call 134; go_split_ands; (with_reducible refine (Or_calls _ _ x y _ (cell_blk (cs := [_, _]) (heap_alloc_new _ _) 0) (cell_blk (cs := [_, _]) (heap_alloc_new _ _) 1)).mono ?_); rintro e w5 ⟨he, hb5⟩; rw [HZ.out] at he; subst he; have hb6 : Below w2.heap.size w2 w5 := Below.after (by repeat (first | assumption | exact Below.refl _ _ | apply below_drew1 | apply below_alloc1)) hb5))
  go_wp2_with fail
  go_ret
  exact ⟨rfl, hb1.trans (hb6.mono hb1.size)⟩
def aheadB (a0 a1 b0 b1 : Int) : Bool := decide (orV (cmpV b0 a0) (cmpV a1 b1) < 0)
set_option maxHeartbeats 3200000 in
theorem Ahead_calls (a0 a1 b0 b1 : Int) (w : World) : Calls Tryz.prog 111 #[.agg #[.int .i64 a0, .int .i64 a1], .agg #[.int .i64 b0, .int .i64 b1]] w fun e w' => e = .returned (.bool (aheadB a0 a1 b0 b1)) ∧ Below w.heap.size w w' := by
  obtain ⟨x, hx⟩ : ∃ x, cmpV b0 a0 = x := ⟨_, rfl⟩
  obtain ⟨y, hy⟩ : ∃ y, cmpV a1 b1 = y := ⟨_, rfl⟩
  obtain ⟨z, hz⟩ : ∃ z, orV x y = z := ⟨_, rfl⟩
  have hr : aheadB a0 a1 b0 b1 = decide (z < 0) := by unfold aheadB; rw [hx, hy, hz]
  rw [hr]
  have HX := Lib.hid hx
  have HY := Lib.hid hy
  have HZ := Lib.hid hz
  clear hr hx hy hz
  go_enter Tryz.func111, Tryz.ntmps111
  go_wp2_with fail
  obtain ⟨w2, hw⟩ : ∃ W, (w.alloc (.cells #[.int .i64 a0, .int .i64 a1] 201)).alloc (.cells #[.int .i64 b0, .int .i64 b1] 201) = W := ⟨_, rfl⟩
  rw [hw]
  have hb1 : Below w.heap.size w w2 := by rw [← hw]; exact below_alloc1 (below_alloc1 (Below.refl _ _) _) _
  have ba : w2.heap[w.heap.size]? = some (.cells #[.int .i64 a0, .int .i64 a1] 201 (0, 0)) := by rw [← hw]; exact obj_below ((Below.refl _ _).alloc (Nat.le_refl _) _) (heap_alloc_new w _) (obj_lt (heap_alloc_new w _))
  have bb : w2.heap[w.heap.size + 1]? = some (.cells #[.int .i64 b0, .int .i64 b1] 201 (0, 0)) := by rw [← hw]; have h := heap_alloc_new (w.alloc (.cells #[.int .i64 a0, .int .i64 a1] 201)) (.cells #[.int .i64 b0, .int .i64 b1] 201); rwa [World.size_alloc] at h
  have h2_0 : w2.cell? ⟨w.heap.size, 0, none⟩ = some (.int .i64 a0) := by simp [World.cell?, ba]
  have h2_1 : w2.cell? ⟨w.heap.size, 1, none⟩ = some (.int .i64 a1) := by simp [World.cell?, ba]
  have h2_2 : w2.cell? ⟨w.heap.size + 1, 0, none⟩ = some (.int .i64 b0) := by simp [World.cell?, bb]
  have h2_3 : w2.cell? ⟨w.heap.size + 1, 1, none⟩ = some (.int .i64 b1) := by simp [World.cell?, bb]
  have hbs : Below w2.heap.size w2 w2 := Below.refl _ _
  clear hw ba bb
  go_region_held3 (fun w' => w'.cell? ⟨w.heap.size, 0, none⟩ = some (.int .i64 a0) ∧ w'.cell? ⟨w.heap.size, 1, none⟩ = some (.int .i64 a1) ∧ w'.cell? ⟨w.heap.size + 1, 0, none⟩ = some (.int .i64 b0) ∧ w'.cell? ⟨w.heap.size + 1, 1, none⟩ = some (.int .i64 b1) ∧ Below w2.heap.size w2 w')
    (first | exact ⟨cell_below (B := w2.heap.size) (w := w2) (by repeat (first | assumption | exact Below.refl _ _ | apply below_drew1 | apply below_alloc1)) h2_0 (World.block_lt_of_cell? _ _ h2_0), cell_below (B := w2.heap.size) (w := w2) (by repeat (first | assumption | exact Below.refl _ _ | apply below_drew1 | apply below_alloc1)) h2_1 (World.block_lt_of_cell? _ _ h2_1), cell_below (B := w2.heap.size) (w := w2) (by repeat (first | assumption | exact Below.refl _ _ | apply below_drew1 | apply below_alloc1)) h2_2 (World.block_lt_of_cell? _ _ h2_2), cell_below (B := w2.heap.size) (w := w2) (by repeat (first | assumption | exact Below.refl _ _ | apply below_drew1 | apply below_alloc1)) h2_3 (World.block_lt_of_cell? _ _ h2_3), (by repeat (first | assumption | exact Below.refl _ _ | apply below_drew1 | apply below_alloc1))⟩ | go_keep)
    (first
      | (go_at_call 135; go_split_ands; (with_reducible refine (Cmp64_calls _ _ _).mono ?_); rintro e w3 ⟨he, hq3⟩; rw [HX.out] at he; subst he; have hb3 : Below w2.heap.size w2 w3 := (by rw [← hq3]; exact (by repeat (first | assumption | exact Below.refl _ _ | apply below_drew1 | apply below_alloc1))); clear hq3)
      | (go_at_call 136; go_split_ands; (with_reducible refine (Cmp_calls _ _ _).mono ?_); rintro e w4 ⟨he, hq4⟩; rw [HY.out] at he; subst he; have hb4 : Below w2.heap.size w2 w4 := (by rw [← hq4]; exact (by repeat (first | assumption | exact Below.refl _ _ | apply below_drew1 | apply below_alloc1))); clear hq4)
      | (go_at_call 134; go_split_ands; (with_reducible refine (Or_calls _ _ x y _ (cell_blk (cs := [_, _]) (heap_alloc_new _ _) 0) (cell_blk (cs := [_, _]) (heap_alloc_new _ _) 1)).mono ?_); rintro e w5 ⟨he, hb5⟩; rw [HZ.out] at he; subst he; have hb6 : Below w2.heap.size w2 w5 := Below.after (by repeat (first | assumption | exact Below.refl _ _ | apply below_drew1 | apply below_alloc1)) hb5))
  go_wp2_with fail
  go_ret
  exact ⟨rfl, hb1.trans (hb6.mono hb1.size)⟩
end Go.Proofs.YticdmglondpgaaaGreat

/-! ## EntE: Entries of a selector (topk, over api.Result): what comes ahead of what; the selector's ahead, and the closure that its heap compares by. Conditions: the selector's cells are as the theorems' heads say. -/
namespace Go.Proofs.YticdmglondpgaaaGreat
open Go.RowKit
set_option linter.unusedVariables false
set_option maxRecDepth 100000
set_option linter.unusedSimpArgs false

theorem firstE_iff (a0 a1 b0 b1 : Int) : nearB a0 a1 b0 b1 = true ↔ a1 < b1 ∨ (a1 = b1 ∧ a0 < b0) := by
  unfold nearB orV cmpV
  rw [decide_eq_true_iff]
  repeat' split
  all_goals omega
theorem firstE_no (a0 a1 b0 b1 : Int) : nearB a0 a1 b0 b1 = false ↔ ¬ (a1 < b1 ∨ (a1 = b1 ∧ a0 < b0)) := by rw [← firstE_iff, Bool.not_eq_true]
/-- Is the first entry ahead? -/
def aheadE (a b : Int × Int × Int) : Bool := nearB a.1 a.2.1 b.1 b.2.1 || (!nearB b.1 b.2.1 a.1 a.2.1 && decide (a.2.2 < b.2.2))
/-- What the heap goes by: the last one is on top. -/
def ltE (a b : Int × Int × Int) : Bool := aheadE b a
theorem ltE_iff (a b : Int × Int × Int) : ltE a b = true ↔ b.2.1 < a.2.1 ∨ (b.2.1 = a.2.1 ∧ (b.1 < a.1 ∨ (b.1 = a.1 ∧ b.2.2 < a.2.2))) := by
  unfold ltE aheadE
  rw [Bool.or_eq_true, Bool.and_eq_true, Bool.not_eq_true', firstE_iff, firstE_no, decide_eq_true_iff]
  omega
theorem ltE_no (a b : Int × Int × Int) : ltE a b = false ↔ ¬ (b.2.1 < a.2.1 ∨ (b.2.1 = a.2.1 ∧ (b.1 < a.1 ∨ (b.1 = a.1 ∧ b.2.2 < a.2.2)))) := by rw [← ltE_iff, Bool.not_eq_true]
theorem ltE_wo : WO ltE := ⟨fun a b h => by rw [ltE_iff] at h; rw [ltE_no]; omega, fun a b c h1 h2 => by rw [ltE_no] at *; omega⟩
set_option maxHeartbeats 3200000 in
theorem AheadE_calls (bs : Nat) (a0 a1 a2 b0 b1 b2 : Int) (w : World) (hs : w.cell? ⟨bs, 0, none⟩ = some (.func (.func 91) #[] #[])) :
    Calls Tryz.prog 179 #[.pointer (some ⟨bs, 0, none⟩), .agg #[.int .i64 a0, .int .i64 a1, .int .i64 a2], .agg #[.int .i64 b0, .int .i64 b1, .int .i64 b2]] w fun e w' => e = .returned (.bool (aheadE (a0, a1, a2) (b0, b1, b2))) ∧ Below w.heap.size w w' := by
  obtain ⟨r1, hr1⟩ : ∃ r, nearB a0 a1 b0 b1 = r := ⟨_, rfl⟩
  obtain ⟨r2, hr2⟩ : ∃ r, nearB b0 b1 a0 a1 = r := ⟨_, rfl⟩
  have HR1 := Lib.hid hr1
  have HR2 := Lib.hid hr2
  have HV := Lib.hid (show aheadE (a0, a1, a2) (b0, b1, b2) = (r1 || (!r2 && decide (a2 < b2))) by unfold aheadE; simp only [hr1, hr2])
  clear hr1 hr2
  go_enter Tryz.func179, Tryz.ntmps179
  go_wp2_with fail
  obtain ⟨w2, hw2⟩ : ∃ W, (w.alloc (.cells #[.int .i64 a0, .int .i64 a1, .int .i64 a2] 277)).alloc (.cells #[.int .i64 b0, .int .i64 b1, .int .i64 b2] 277) = W := ⟨_, rfl⟩
  (try rw [hw2])
  have hbel2 : Below w.heap.size w w2 := by rw [← hw2]; exact below_alloc1 (below_alloc1 (Below.refl _ _) _) _
  have ba : w2.heap[w.heap.size]? = some (.cells #[.int .i64 a0, .int .i64 a1, .int .i64 a2] 277 (0, 0)) := by
    rw [← hw2]; exact obj_below ((Below.refl _ _).alloc (Nat.le_refl _) _) (heap_alloc_new w _) (obj_lt (heap_alloc_new w _))
  have bb : w2.heap[w.heap.size + 1]? = some (.cells #[.int .i64 b0, .int .i64 b1, .int .i64 b2] 277 (0, 0)) := by
    rw [← hw2]; have h := heap_alloc_new (w.alloc (.cells #[.int .i64 a0, .int .i64 a1, .int .i64 a2] 277)) (.cells #[.int .i64 b0, .int .i64 b1, .int .i64 b2] 277); rwa [World.size_alloc] at h
  have HB2 := Lib.hid hbel2
  have BA := Lib.hid ba
  have BB := Lib.hid bb
  have hs1 := cell_below hbel2 hs (World.block_lt_of_cell? _ _ hs)
  have ha0 : w2.cell? ⟨w.heap.size, 0, none⟩ = some (.int .i64 a0) := by have h := BA.out; simp [World.cell?, h]
  have ha1 : w2.cell? ⟨w.heap.size, 1, none⟩ = some (.int .i64 a1) := by have h := BA.out; simp [World.cell?, h]
  have ha2 : w2.cell? ⟨w.heap.size, 2, none⟩ = some (.int .i64 a2) := by have h := BA.out; simp [World.cell?, h]
  have hb0 : w2.cell? ⟨w.heap.size + 1, 0, none⟩ = some (.int .i64 b0) := by have h := BB.out; simp [World.cell?, h]
  have hb1 : w2.cell? ⟨w.heap.size + 1, 1, none⟩ = some (.int .i64 b1) := by have h := BB.out; simp [World.cell?, h]
  have hb2 : w2.cell? ⟨w.heap.size + 1, 2, none⟩ = some (.int .i64 b2) := by have h := BB.out; simp [World.cell?, h]
  clear hw2 hbel2 ba bb
  have hbr : Below w2.heap.size w2 w2 := Below.refl _ _
  go_wp2_with fail
  go_region_held3 (fun w' => w'.cell? ⟨bs, 0, none⟩ = some (.func (.func 91) #[] #[]) ∧ w'.cell? ⟨w.heap.size, 0, none⟩ = some (.int .i64 a0) ∧ w'.cell? ⟨w.heap.size, 1, none⟩ = some (.int .i64 a1) ∧ w'.cell? ⟨w.heap.size + 1, 0, none⟩ = some (.int .i64 b0) ∧ w'.cell? ⟨w.heap.size + 1, 1, none⟩ = some (.int .i64 b1) ∧ Below w2.heap.size w2 w')
    (first | exact ⟨cell_below (B := w2.heap.size) (w := w2) (by first | ((repeat (first | assumption | exact Below.refl _ _ | apply below_drew1 | apply below_alloc1)); done)) hs1 (World.block_lt_of_cell? _ _ hs1), cell_below (B := w2.heap.size) (w := w2) (by first | ((repeat (first | assumption | exact Below.refl _ _ | apply below_drew1 | apply below_alloc1)); done)) ha0 (World.block_lt_of_cell? _ _ ha0), cell_below (B := w2.heap.size) (w := w2) (by first | ((repeat (first | assumption | exact Below.refl _ _ | apply below_drew1 | apply below_alloc1)); done)) ha1 (World.block_lt_of_cell? _ _ ha1), cell_below (B := w2.heap.size) (w := w2) (by first | ((repeat (first | assumption | exact Below.refl _ _ | apply below_drew1 | apply below_alloc1)); done)) hb0 (World.block_lt_of_cell? _ _ hb0), cell_below (B := w2.heap.size) (w := w2) (by first | ((repeat (first | assumption | exact Below.refl _ _ | apply below_drew1 | apply below_alloc1)); done)) hb1 (World.block_lt_of_cell? _ _ hb1), (by first | ((repeat (first | assumption | exact Below.refl _ _ | apply below_drew1 | apply below_alloc1)); done))⟩ | go_keep)
    (first
      | (go_at_call 91; go_split_ands; (with_reducible refine (Nearer_calls a0 a1 b0 b1 _).mono ?_); rintro e w3 ⟨he, hbq⟩; rw [HR1.out] at he; subst he; have hB2 : Below w2.heap.size w2 w3 := Below.after (by first | ((repeat (first | assumption | exact Below.refl _ _ | apply below_drew1 | apply below_alloc1)); done)) hbq))
  have hbz : Below w2.heap.size w2 w3 := by assumption
  have HB3 := Lib.hid (HB2.out.trans (hbz.mono HB2.out.size))
  have hs1' := cell_below hbz hs1 (World.block_lt_of_cell? _ _ hs1)
  have BA3 := Lib.hid (obj_below hbz BA.out (obj_lt BA.out))
  have BB3 := Lib.hid (obj_below hbz BB.out (obj_lt BB.out))
  clear hbz hs1 ha0 ha1 ha2 hb0 hb1 hb2 BA BB
  cases r1 with
  | true =>
    go_wp2_with fail
    go_ret
    exact ⟨by rw [HV.out]; rfl, HB3.out⟩
  | false =>
    have hs1 := hs1'
    clear hs1'
    have ha0 : w3.cell? ⟨w.heap.size, 0, none⟩ = some (.int .i64 a0) := by have h := BA3.out; simp [World.cell?, h]
    have ha1 : w3.cell? ⟨w.heap.size, 1, none⟩ = some (.int .i64 a1) := by have h := BA3.out; simp [World.cell?, h]
    have ha2 : w3.cell? ⟨w.heap.size, 2, none⟩ = some (.int .i64 a2) := by have h := BA3.out; simp [World.cell?, h]
    have hb0 : w3.cell? ⟨w.heap.size + 1, 0, none⟩ = some (.int .i64 b0) := by have h := BB3.out; simp [World.cell?, h]
    have hb1 : w3.cell? ⟨w.heap.size + 1, 1, none⟩ = some (.int .i64 b1) := by have h := BB3.out; simp [World.cell?, h]
    have hb2 : w3.cell? ⟨w.heap.size + 1, 2, none⟩ = some (.int .i64 b2) := by have h := BB3.out; simp [World.cell?, h]
    have hbr : Below w3.heap.size w3 w3 := Below.refl _ _
    go_wp2_with fail
    go_region_held3 (fun w' => w'.cell? ⟨bs, 0, none⟩ = some (.func (.func 91) #[] #[]) ∧ w'.cell? ⟨w.heap.size, 0, none⟩ = some (.int .i64 a0) ∧ w'.cell? ⟨w.heap.size, 1, none⟩ = some (.int .i64 a1) ∧ w'.cell? ⟨w.heap.size + 1, 0, none⟩ = some (.int .i64 b0) ∧ w'.cell? ⟨w.heap.size + 1, 1, none⟩ = some (.int .i64 b1) ∧ Below w3.heap.size w3 w')
      (first | exact ⟨cell_below (B := w3.heap.size) (w := w3) (by first | ((repeat (first | assumption | exact Below.refl _ _ | apply below_drew1 | apply below_alloc1)); done)) hs1 (World.block_lt_of_cell? _ _ hs1), cell_below (B := w3.heap.size) (w := w3) (by first | ((repeat (first | assumption | exact Below.refl _ _ | apply below_drew1 | apply below_alloc1)); done)) ha0 (World.block_lt_of_cell? _ _ ha0), cell_below (B := w3.heap.size) (w := w3) (by first | ((repeat (first | assumption | exact Below.refl _ _ | apply below_drew1 | apply below_alloc1)); done)) ha1 (World.block_lt_of_cell? _ _ ha1), cell_below (B := w3.heap.size) (w := w3) (by first | ((repeat (first | assumption | exact Below.refl _ _ | apply below_drew1 | apply below_alloc1)); done)) hb0 (World.block_lt_of_cell? _ _ hb0), cell_below (B := w3.heap.size) (w := w3) (by first | ((repeat (first | assumption | exact Below.refl _ _ | apply below_drew1 | apply below_alloc1)); done)) hb1 (World.block_lt_of_cell? _ _ hb1), (by first | ((repeat (first | assumption | exact Below.refl _ _ | apply below_drew1 | apply below_alloc1)); done))⟩ | go_keep)
      (first
        | (go_at_call 91; go_split_ands; (with_reducible refine (Nearer_calls b0 b1 a0 a1 _).mono ?_); rintro e w4 ⟨he, hbq⟩; rw [HR2.out] at he; subst he; have hB2 : Below w3.heap.size w3 w4 := Below.after (by first | ((repeat (first | assumption | exact Below.refl _ _ | apply below_drew1 | apply below_alloc1)); done)) hbq))
    have hbz : Below w3.heap.size w3 w4 := by assumption
    have HB4 := Lib.hid (HB3.out.trans (hbz.mono HB3.out.size))
    have BA4 := Lib.hid (obj_below hbz BA3.out (obj_lt BA3.out))
    have BB4 := Lib.hid (obj_below hbz BB3.out (obj_lt BB3.out))
    clear hbz hs1 ha0 ha1 ha2 hb0 hb1 hb2
    cases r2 with
    | true =>
      go_wp2_with fail
      go_ret
      exact ⟨by rw [HV.out]; rfl, HB4.out⟩
    | false =>
      have ha2 : w4.cell? ⟨w.heap.size, 2, none⟩ = some (.int .i64 a2) := by have h := BA4.out; simp [World.cell?, h]
      have hb2 : w4.cell? ⟨w.heap.size + 1, 2, none⟩ = some (.int .i64 b2) := by have h := BB4.out; simp [World.cell?, h]
      go_wp2_with fail
      go_ret
      exact ⟨by rw [HV.out]; simp, HB4.out⟩
theorem LessE_calls (bx bs : Nat) (a0 a1 a2 b0 b1 b2 : Int) (w : World) (hx : w.cell? ⟨bx, 0, none⟩ = some (.pointer (some ⟨bs, 0, none⟩))) (hs : w.cell? ⟨bs, 0, none⟩ = some (.func (.func 91) #[] #[])) :
    Calls Tryz.prog 178 #[.agg #[.int .i64 a0, .int .i64 a1, .int .i64 a2], .agg #[.int .i64 b0, .int .i64 b1, .int .i64 b2], .pointer (some ⟨bx, 0, none⟩)] w fun e w' => e = .returned (.bool (ltE (a0, a1, a2) (b0, b1, b2))) ∧ Below w.heap.size w w' := by
  have HV := Lib.hid (show aheadE (b0, b1, b2) (a0, a1, a2) = ltE (a0, a1, a2) (b0, b1, b2) from rfl)
  have gx := fun o1 o2 => cell_below (below_alloc1 (below_alloc1 (Below.refl w.heap.size w) o1) o2) hx (World.block_lt_of_cell? _ _ hx)
  go_enter Tryz.func178, Tryz.ntmps178
  go_wp2_with fail
  obtain ⟨w2, hw2⟩ : ∃ W, (w.alloc (.cells #[.int .i64 a0, .int .i64 a1, .int .i64 a2] 277)).alloc (.cells #[.int .i64 b0, .int .i64 b1, .int .i64 b2] 277) = W := ⟨_, rfl⟩
  (try rw [hw2])
  have hbel2 : Below w.heap.size w w2 := by rw [← hw2]; exact below_alloc1 (below_alloc1 (Below.refl _ _) _) _
  have ba : w2.heap[w.heap.size]? = some (.cells #[.int .i64 a0, .int .i64 a1, .int .i64 a2] 277 (0, 0)) := by
    rw [← hw2]; exact obj_below ((Below.refl _ _).alloc (Nat.le_refl _) _) (heap_alloc_new w _) (obj_lt (heap_alloc_new w _))
  have bb : w2.heap[w.heap.size + 1]? = some (.cells #[.int .i64 b0, .int .i64 b1, .int .i64 b2] 277 (0, 0)) := by
    rw [← hw2]; have h := heap_alloc_new (w.alloc (.cells #[.int .i64 a0, .int .i64 a1, .int .i64 a2] 277)) (.cells #[.int .i64 b0, .int .i64 b1, .int .i64 b2] 277); rwa [World.size_alloc] at h
  have HB2 := Lib.hid hbel2
  have BA := Lib.hid ba
  have BB := Lib.hid bb
  have hs1 := cell_below hbel2 hs (World.block_lt_of_cell? _ _ hs)
  have hx1 := cell_below hbel2 hx (World.block_lt_of_cell? _ _ hx)
  have ha0 : w2.cell? ⟨w.heap.size, 0, none⟩ = some (.int .i64 a0) := by have h := BA.out; simp [World.cell?, h]
  have ha1 : w2.cell? ⟨w.heap.size, 1, none⟩ = some (.int .i64 a1) := by have h := BA.out; simp [World.cell?, h]
  have ha2 : w2.cell? ⟨w.heap.size, 2, none⟩ = some (.int .i64 a2) := by have h := BA.out; simp [World.cell?, h]
  have hb0 : w2.cell? ⟨w.heap.size + 1, 0, none⟩ = some (.int .i64 b0) := by have h := BB.out; simp [World.cell?, h]
  have hb1 : w2.cell? ⟨w.heap.size + 1, 1, none⟩ = some (.int .i64 b1) := by have h := BB.out; simp [World.cell?, h]
  have hb2 : w2.cell? ⟨w.heap.size + 1, 2, none⟩ = some (.int .i64 b2) := by have h := BB.out; simp [World.cell?, h]
  clear hw2 hbel2 ba bb gx
  refine (AheadE_calls bs b0 b1 b2 a0 a1 a2 w2 hs1).mono ?_
  rintro e w3 ⟨he, hb3⟩
  subst he
  have HB3 := Lib.hid (HB2.out.trans (hb3.mono HB2.out.size))
  clear hb3
  go_wp2_with fail
  go_ret
  exact ⟨by rw [← HV.out]; rfl, HB3.out⟩
end Go.Proofs.YticdmglondpgaaaGreat

/-! ## HeapE: The heap of a selector's entries (package heap, topk.entry[shelterbelt/api.Result]): the contract of Push, by a list that is a heap. Condition: the heap's blocks are as the word HpE says; the selector's cells as SlxE; no more than a million things. -/
namespace Go.Proofs.YticdmglondpgaaaGreat
open Go.RowKit
set_option linter.unusedVariables false
set_option maxRecDepth 100000
set_option linter.unusedSimpArgs false

theorem infoE : (Tryz.prog.info? 277).map (fun i => (i.zero, i.size, i.bytes)) = some (some (.agg #[.int .i64 0, .int .i64 0, .int .i64 0]), 3, 24) := by kernel_rfl
/-- What the heap's closure reads: the variable that holds the selector, and the selector's function. -/
def SlxE (w : World) (bx bs : Nat) : Prop := w.cell? ⟨bx, 0, none⟩ = some (.pointer (some ⟨bs, 0, none⟩)) ∧ w.cell? ⟨bs, 0, none⟩ = some (.func (.func 91) #[] #[])
theorem SlxE.only {w w' : World} {S : Nat → Prop} {bx bs : Nat} (h : SlxE w bx bs) (ho : Only S w w') (h1 : ¬ S bx) (h2 : ¬ S bs) : SlxE w' bx bs := ⟨ho.cell h.1 h1, ho.cell h.2 h2⟩
theorem SlxE.keep {w w' : World} {bx bs : Nat} (h : SlxE w bx bs) (hb : Below w.heap.size w w') : SlxE w' bx bs := h.only (S := fun _ => False) (Only.of_below hb) (fun h => h) fun h => h
theorem SlxE.lt {w : World} {bx bs : Nat} (h : SlxE w bx bs) : bx < w.heap.size ∧ bs < w.heap.size := ⟨World.block_lt_of_cell? _ _ h.1, World.block_lt_of_cell? _ _ h.2⟩
theorem SlxE.less {w : World} {bx bs : Nat} (h : SlxE w bx bs) (a0 a1 a2 b0 b1 b2 : Int) (W : World) (hb : Below w.heap.size w W) : Calls Tryz.prog 178 #[.agg #[.int .i64 a0, .int .i64 a1, .int .i64 a2], .agg #[.int .i64 b0, .int .i64 b1, .int .i64 b2], .pointer (some ⟨bx, 0, none⟩)] W fun e w' => e = .returned (.bool (ltE (a0, a1, a2) (b0, b1, b2))) ∧ Below W.heap.size W w' :=
  LessE_calls bx bs a0 a1 a2 b0 b1 b2 W (h.keep hb).1 (h.keep hb).2
/-- A heap at block b: the function, the row v of the things l. -/
def HpE (bx : Nat) (w : World) (b lo : Nat) (v : Value) (l : List (Int × Int × Int)) : Prop :=
  w.heap[b]? = some (.cells #[.func (.func 178) #[] #[.pointer (some ⟨bx, 0, none⟩)], v] 323 (0, 0)) ∧ OwnF w lo 277 3 tri v l ∧ lo ≤ b ∧ (∀ k, v.ownBlock = some k → k ≠ b)
def HpBE (v : Value) (b : Nat) (k : Nat) : Prop := k = b ∨ OwnB v k
def HpToE (bx : Nat) (w w' : World) (b lo : Nat) (v v' : Value) (l' : List (Int × Int × Int)) : Prop :=
  HpE bx w' b lo v' l' ∧ HeapOk ltE l' ∧ Only (HpBE v b) w w' ∧ ∀ k, v'.ownBlock = some k → v.ownBlock = some k ∨ w.heap.size ≤ k
theorem Only.trans2E {S T : Nat → Prop} {a b c : World} (h1 : Only S a b) (h2 : Only T b c) (h : ∀ k, k < a.heap.size → T k → S k) : Only S a c :=
  ⟨h2.os.trans h1.os, h2.tape.trans h1.tape, h2.output.trans h1.output, Nat.le_trans h1.size h2.size, fun k hk hs => (h2.block k (by have := h1.size; omega) fun ht => hs (h k hk ht)).trans (h1.block k hk hs)⟩
theorem HpE.only {w w' : World} {S : Nat → Prop} {bx b lo : Nat} {v : Value} {l : List (Int × Int × Int)} (h : HpE bx w b lo v l) (ho : Only S w w') (hb : ¬ S b) (hv : ∀ k, v.ownBlock = some k → ¬ S k) : HpE bx w' b lo v l :=
  ⟨ho.obj h.1 hb, h.2.1.only ho hv, h.2.2⟩
theorem HpE.lt {w : World} {bx b lo : Nat} {v : Value} {l : List (Int × Int × Int)} (h : HpE bx w b lo v l) : b < w.heap.size := obj_lt h.1
theorem HpE.keep {w w' : World} {bx b lo : Nat} {v : Value} {l : List (Int × Int × Int)} (h : HpE bx w b lo v l) (hb : Below w.heap.size w w') : HpE bx w' b lo v l := h.only (S := fun _ => False) (Only.of_below hb) (fun h => h) fun _ _ h => h
theorem HpE.drew1 {w : World} {K0 b lo : Nat} {v : Value} {l : List (Int × Int × Int)} (h : HpE K0 w b lo v l) : HpE K0 w.drew b lo v l := ⟨h.1, own_drew1 h.2.1, h.2.2⟩
set_option maxHeartbeats 1600000 in
theorem HpE.swap {w : World} {bx b lo g n c i j : Nat} {l : List (Int × Int × Int)} {x y : Int × Int × Int} (h : HpE bx w b lo (.slice (some ⟨g, 0, none⟩) n c) l) (hi : i < n) (hj : j < n) :
    HpE bx (((((((w.setCell ⟨g, i * 3, none⟩ (.int .i64 y.1)).setCell ⟨g, i * 3 + 1, none⟩ (.int .i64 y.2.1)).setCell ⟨g, i * 3 + 2, none⟩ (.int .i64 y.2.2)).setCell ⟨g, j * 3, none⟩ (.int .i64 x.1)).setCell ⟨g, j * 3 + 1, none⟩ (.int .i64 x.2.1)).setCell ⟨g, j * 3 + 2, none⟩ (.int .i64 x.2.2)).drew) b lo (.slice (some ⟨g, 0, none⟩) n c) (swp l i j y x) ∧ Only (HpBE (.slice (some ⟨g, 0, none⟩) n c) b) w (((((((w.setCell ⟨g, i * 3, none⟩ (.int .i64 y.1)).setCell ⟨g, i * 3 + 1, none⟩ (.int .i64 y.2.1)).setCell ⟨g, i * 3 + 2, none⟩ (.int .i64 y.2.2)).setCell ⟨g, j * 3, none⟩ (.int .i64 x.1)).setCell ⟨g, j * 3 + 1, none⟩ (.int .i64 x.2.1)).setCell ⟨g, j * 3 + 2, none⟩ (.int .i64 x.2.2)).drew) := by
  obtain ⟨h1, h2, h3, h4⟩ := h
  have hgb : b ≠ g := fun e => h4 g rfl e.symm
  have h5 := h2.store3 i hi y
  have h6 := h5.store3 j hj x
  have so := fun (W : World) (q : Nat) (u : Value) (o : Obj) (h : W.heap[b]? = some o) => set_other (g := g) h q u hgb
  have hs := fun (W : World) (q : Nat) (u : Value) => (only_set W g q u).mono (T := HpBE (.slice (some ⟨g, 0, none⟩) n c) b) fun k _ h => .inr (by rw [h]; rfl)
  have e1 := so _ (i * 3) (.int .i64 y.1) _ h1
  have e2 := so _ (i * 3 + 1) (.int .i64 y.2.1) _ e1
  have e3 := so _ (i * 3 + 2) (.int .i64 y.2.2) _ e2
  have e4 := so _ (j * 3) (.int .i64 x.1) _ e3
  have e5 := so _ (j * 3 + 1) (.int .i64 x.2.1) _ e4
  have e6 := so _ (j * 3 + 2) (.int .i64 x.2.2) _ e5
  have o1 := hs w (i * 3) (.int .i64 y.1)
  have o2 := o1.trans (hs _ (i * 3 + 1) (.int .i64 y.2.1))
  have o3 := o2.trans (hs _ (i * 3 + 2) (.int .i64 y.2.2))
  have o4 := o3.trans (hs _ (j * 3) (.int .i64 x.1))
  have o5 := o4.trans (hs _ (j * 3 + 1) (.int .i64 x.2.1))
  have o6 := o5.trans (hs _ (j * 3 + 2) (.int .i64 x.2.2))
  have hp6 := HpE.drew1 (K0 := bx) ⟨e6, h6, h3, h4⟩
  exact ⟨hp6, o6.trans (only_drew_self _ _)⟩
theorem Only.preE {S : Nat → Prop} {a W1 W w2 : World} (h1 : Below a.heap.size a W1) (hg : Only S W w2) (hb : Below W1.heap.size W1 W) : Only S a w2 := (Only.of_below (h1.trans (hb.mono h1.size))).trans hg
theorem at_preE {x v : Option Nat} {W1 W : World} (h : x = v ∨ x = some W.heap.size) (hb : Below W1.heap.size W1 W) : x = v ∨ ∃ k, x = some k ∧ W1.heap.size ≤ k := h.imp id fun h => ⟨_, h, hb.size⟩
set_option maxHeartbeats 3200000 in
set_option maxRecDepth 1000000 in
theorem PushE_calls (bx bs b lo : Nat) (v : Value) (l : List (Int × Int × Int)) (x0 x1 x2 : Int) (w : World) (h : HpE bx w b lo v l) (hok : HeapOk ltE l) (hl : l.length ≤ 1000000) (hsl : SlxE w bx bs) (hnx : Ns v b bx) (hns : Ns v b bs) :
    Calls Tryz.prog 181 #[.pointer (some ⟨b, 0, none⟩), .agg #[.int .i64 x0, .int .i64 x1, .int .i64 x2]] w fun e w' => e = .returned (.tuple #[]) ∧ ∃ v' l', HpToE bx w w' b lo v v' l' ∧ l'.Perm ((x0, x1, x2) :: l) := by
  obtain ⟨h1, h2, h3, h4⟩ := h
  have hb := obj_lt h1
  obtain ⟨A, c, rfl, hlc⟩ := h2.shape
  have hc1 : w.cell? ⟨b, 1, none⟩ = some (.slice A l.length c) := by simp [World.cell?, h1]
  have hf1 : w.frozen? ⟨b, 1, none⟩ = false := by simp [World.frozen?, h1]
  have H1 := Lib.hid h1
  have H2 := Lib.hid h2
  have HOK := Lib.hid hok
  clear h1 h2 hok
  have hwr : IntKind.i64.wrap ((l.length : Int) + 1 - 1) = (l.length : Int) := by rw [i64_w, show ((l.length : Int) + 1 - 1) = (l.length : Int) by omega]; exact wrap64_id _ (by omega)
  go_enter Tryz.func181, Tryz.ntmps181
  go_wp2_with fail
  obtain ⟨W1, hW1⟩ : ∃ W, w.alloc (.cells #[.int .i64 x0, .int .i64 x1, .int .i64 x2] 277) = W := ⟨_, rfl⟩
  have hB1 : Below w.heap.size w W1 := by rw [← hW1]; exact below_alloc1 (Below.refl _ _) _
  have hz1 : W1.heap.size = w.heap.size + 1 := by rw [← hW1]; simp
  have hx1 : W1.heap[w.heap.size]? = some (.cells #[.int .i64 x0, .int .i64 x1, .int .i64 x2] 277 (0, 0)) := by rw [← hW1]; exact heap_alloc_new _ _
  have hb1 := obj_below hB1 H1.out hb
  have hown1 : OwnF W1 lo 277 3 tri (.slice A l.length c) l := H2.out.keep hB1
  rw [hW1]
  have hx10 : W1.cell? ⟨w.heap.size, 0, none⟩ = some (.int .i64 x0) := by simp [World.cell?, hx1]
  have hx11 : W1.cell? ⟨w.heap.size, 1, none⟩ = some (.int .i64 x1) := by simp [World.cell?, hx1]
  have hx12 : W1.cell? ⟨w.heap.size, 2, none⟩ = some (.int .i64 x2) := by simp [World.cell?, hx1]
  have hc11 : W1.cell? ⟨b, 1, none⟩ = some (.slice A l.length c) := by simp [World.cell?, hb1]
  have gx0 := fun o => (World.cell?_alloc_lt (o := o) W1 _ (World.block_lt_of_cell? _ _ hx10)).trans hx10
  have gx1 := fun o => (World.cell?_alloc_lt (o := o) W1 _ (World.block_lt_of_cell? _ _ hx11)).trans hx11
  have gx2 := fun o => (World.cell?_alloc_lt (o := o) W1 _ (World.block_lt_of_cell? _ _ hx12)).trans hx12
  have gc1 := fun o => (World.cell?_alloc_lt (o := o) W1 _ (World.block_lt_of_cell? _ _ hc11)).trans hc11
  have hlo1 : lo ≤ W1.heap.size := by omega
  have HB1 := Lib.hid hB1
  have HH1 := Lib.hid hb1
  have HO1 := Lib.hid hown1
  have HZ1 := Lib.hid hz1
  have HX1 := Lib.hid hx1
  clear hB1 hb1 hown1 hz1 hx1 hW1
  go_cut [13] (fun s13 wx => ∃ A1 c1, l.length + 1 ≤ c1 ∧ HpE bx wx b lo (.slice A1 (l.length + 1) c1) (l ++ [(x0, x1, x2)]) ∧ Only (HpBE (.slice A l.length c) b) w wx ∧ (∀ k, (Value.slice A1 (l.length + 1) c1).ownBlock = some k → (Value.slice A l.length c).ownBlock = some k ∨ w.heap.size ≤ k))
  case first =>
    go_region_law
      (first
        | (refine step_appF (q := 3) (f := tri) _ (by rfl) (.tmp 10) (.tmp 12) 282 277 (by rfl) (.agg #[.int .i64 0, .int .i64 0, .int .i64 0]) 24 Tryz.underlying282 infoE rfl (by omega) (by omega) tri_q tri_one lo (.slice A l.length c) l (by rfl) (some ⟨W1.heap.size, 0, none⟩) 1 [(x0, x1, x2)] (by rfl) (by repeat (first | exact HO1.out | apply OwnF.alloc1 | apply OwnF.drew1)) W1 (by repeat (first | exact Below.refl _ _ | assumption | apply below_drew1 | refine Below.alloc ?_ (by first | omega | (simp; omega)) _)) (by simp; omega) (RdC.block (cs := #[.int .i64 x0, .int .i64 x1, .int .i64 x2]) (heap_alloc_new _ _)) (by simp; omega) ?_; intro v1 w2 ho hgrow hbel hat hnil; obtain ⟨A1, c1, hv1, hlc1⟩ := ho.shape; rw [show (l ++ [(x0, x1, x2)]).length = l.length + 1 by simp] at hv1 hlc1; subst hv1; have hob := hgrow.obj (obj_below (B := W1.heap.size) (w := W1) (by repeat (first | exact Below.refl _ _ | apply below_drew1 | apply below_alloc1)) HH1.out (obj_lt HH1.out)) (fun h => h4 _ h rfl); have HOB2 := Lib.hid hob; have hfz : w2.frozen? ⟨b, 1, none⟩ = false := free_blk hob 1; have hcs : w2.cell? ⟨b, 1, none⟩ = some (.slice A l.length c) := (by simp [World.cell?, hob]); have HO := Lib.hid ho; have HG := Lib.hid (Only.preE HB1.out hgrow (by repeat (first | exact Below.refl _ _ | apply below_drew1 | apply below_alloc1))); have HAT := Lib.hid (at_preE hat (W1 := W1) (by repeat (first | exact Below.refl _ _ | apply below_drew1 | apply below_alloc1))); clear ho hgrow hbel hat hnil hob))
    all_goals
      go_wp2_with fail
      go_meet
      have hfr : ∀ k, (Value.slice A1 (l.length + 1) c1).ownBlock = some k → (Value.slice A l.length c).ownBlock = some k ∨ w.heap.size ≤ k := fun k hk => by
        rcases HAT.out with h | ⟨k1, h, hk1⟩
        · exact .inl (h ▸ hk)
        · rw [hk] at h
          injection h with h
          exact .inr (by have := HZ1.out; omega)
      have hne : ∀ k, (Value.slice A1 (l.length + 1) c1).ownBlock = some k → k ≠ b := fun k hk => by
        rcases hfr k hk with h | h
        · exact h4 k h
        · omega
      exact ⟨A1, c1, hlc1, ⟨set_blk (cs := [_, _]) HOB2.out 1 _, HO.out.only (only_set _ _ _ _) fun k hk h => hne k hk h, h3, hne⟩, (HG.out.mono fun k _ h => .inr h).trans ((only_set w2 b 1 _).mono fun k _ h => .inl h), hfr⟩
  obtain ⟨A1, c1, hlc1, hHp, hoB, hfr⟩ := hcut
  have hne : ∀ k, (Value.slice A1 (l.length + 1) c1).ownBlock = some k → k ≠ b := hHp.2.2.2
  have hsl1 : SlxE wc bx bs := hsl.only hoB hnx hns
  have HSL1 := Lib.hid hsl1
  have hslt := hsl.lt
  have hfg : ∀ k, (Value.slice A1 (l.length + 1) c1).ownBlock = some k → k ≠ bx ∧ k ≠ bs := fun k hk => by
    rcases hfr k hk with h | h
    · exact ⟨fun e => hnx (.inr (by rw [← e]; exact h)), fun e => hns (.inr (by rw [← e]; exact h))⟩
    · omega
  clear hsl hsl1
  have HHP := Lib.hid hHp
  have HOB := Lib.hid hoB
  have HFR := Lib.hid hfr
  have hc13 : wc.cell? ⟨b, 1, none⟩ = some (.slice A1 (l.length + 1) c1) := by have h := hHp.1; simp [World.cell?, h]
  clear hc11 hx10 hx11 hx12 gx0 gx1 gx2 gc1 hoB hfr hHp hc1 hf1 H1 H2 HB1 HH1 HO1 HZ1 HX1
  go_wp2_with fail
  have hU0 : UpOk ltE (l ++ [(x0, x1, x2)]) l.length := UpOk.push HOK.out (x0, x1, x2)
  have hP0 : (l ++ [(x0, x1, x2)]).Perm ((x0, x1, x2) :: l) := List.perm_append_comm (l₁ := l) (l₂ := [(x0, x1, x2)])
  obtain ⟨g, _, rfl, hlg, _⟩ := HHP.out.2.1.at_ tri_q 0 (by omega) (by omega)
  have hgb : g ≠ b := hne g rfl
  obtain ⟨hgx, hgs⟩ := hfg g rfl
  clear hfg
  go_loopg [4] l.length (fun kq v4 w' => ∃ L : List (Int × Int × Int), kq ≤ l.length ∧ v4 = .int .i64 ((kq : Nat) : Int) ∧ HpE bx w' b lo (.slice (some ⟨g, 0, none⟩) (l.length + 1) c1) L ∧ L.length = l.length + 1 ∧ UpOk ltE L kq ∧ L.Perm ((x0, x1, x2) :: l) ∧ Only (HpBE (.slice (some ⟨g, 0, none⟩) (l.length + 1) c1) b) wc w')
  case atStart => exact ⟨l ++ [(x0, x1, x2)], Nat.le_refl _, rfl, HHP.out, by simp, hU0, hP0, Only.refl _ _⟩
  case round =>
    obtain ⟨L, hk, rfl, hH, hLl, hup, hpm, hon⟩ := hrel
    have HH := Lib.hid hH
    have HUP := Lib.hid hup
    have HPM := Lib.hid hpm
    have HON := Lib.hid hon
    have HSLr := Lib.hid (HSL1.out.only hon (fun h => h.elim (fun h => hnx (.inl h)) fun h => hgx (Option.some.inj h)) (fun h => h.elim (fun h => hns (.inl h)) fun h => hgs (Option.some.inj h)))
    have hc1 : wr.cell? ⟨b, 1, none⟩ = some (.slice (some ⟨g, 0, none⟩) (l.length + 1) c1) := by have h := hH.1; simp [World.cell?, h]
    have hc0 : wr.cell? ⟨b, 0, none⟩ = some (.func (.func 178) #[] #[.pointer (some ⟨bx, 0, none⟩)]) := by have h := hH.1; simp [World.cell?, h]
    clear hH hup hpm hon hc13 hU0 hP0 HHP
    cases gk with
    | zero =>
      go_wp2_with fail
      go_end0
      exact ⟨rfl, _, L, ⟨HH.out, HUP.out.stop (.inl rfl), HOB.out.trans2E HON.out (fun k hk h => h.imp id fun h => (HFR.out k h).resolve_right (by omega)), HFR.out⟩, HPM.out⟩
    | succ k1 =>
      obtain ⟨i, hi⟩ : ∃ i, k1 + 1 = i := ⟨_, rfl⟩
      obtain ⟨u, hu⟩ : ∃ u, k1 / 2 = u := ⟨_, rfl⟩
      have hui : (i - 1) / 2 = u := by omega
      rw [hi] at HUP hk ⊢
      have hpos : decide (0 < i) = true := decide_eq_true (by omega)
      have hwr1 : IntKind.i64.wrap ((i : Int) - 1) = (k1 : Int) := by rw [i64_w, show ((i : Int) - 1) = (k1 : Int) by omega]; exact wrap64_id _ (by omega)
      have hdiv : (k1 : Int).tdiv 2 = (u : Int) := by rw [Int.tdiv_eq_ediv_of_nonneg (by omega)]; omega
      have hwr2 : IntKind.i64.wrap (u : Int) = (u : Int) := by rw [i64_w]; exact wrap64_id _ (by omega)
      obtain ⟨g', ⟨xi0, xi1, xi2⟩, hg', _, _, hxi, hci, hfi, _⟩ := HH.out.2.1.at_ tri_q i (by omega) (by omega)
      injection hg' with hg'
      injection hg' with hg'
      subst hg'
      obtain ⟨g', ⟨xu0, xu1, xu2⟩, hg', _, _, hxu, hcu, hfu, _⟩ := HH.out.2.1.at_ tri_q u (by omega) (by omega)
      injection hg' with hg'
      injection hg' with hg'
      subst hg'
      have hci0 : wr.cell? ⟨g, i * 3, none⟩ = some (.int .i64 xi0) := hci 0 (by omega)
      have hci1 : wr.cell? ⟨g, i * 3 + 1, none⟩ = some (.int .i64 xi1) := hci 1 (by omega)
      have hci2 : wr.cell? ⟨g, i * 3 + 2, none⟩ = some (.int .i64 xi2) := hci 2 (by omega)
      have hcu0 : wr.cell? ⟨g, u * 3, none⟩ = some (.int .i64 xu0) := hcu 0 (by omega)
      have hcu1 : wr.cell? ⟨g, u * 3 + 1, none⟩ = some (.int .i64 xu1) := hcu 1 (by omega)
      have hcu2 : wr.cell? ⟨g, u * 3 + 2, none⟩ = some (.int .i64 xu2) := hcu 2 (by omega)
      have HXI := Lib.hid hxi
      have HXU := Lib.hid hxu
      clear hci hcu hfi hfu
      have HI := Lib.hid hi
      have HU := Lib.hid hui
      have bi : (i : Int) < (l.length : Int) + 1 := by omega
      have bu : (u : Int) < (l.length : Int) + 1 := by omega
      clear hxi hxu hi hu hui
      have hbs0 : Below wr.heap.size wr wr := Below.refl _ _
      obtain ⟨r, hr⟩ : ∃ r, ltE (xi0, xi1, xi2) (xu0, xu1, xu2) = r := ⟨_, rfl⟩
      have HR := Lib.hid hr
      clear hr
      cases r with
      | true =>
        go_wp2_with fail
        go_region_held3 (fun w' => w'.cell? ⟨b, 0, none⟩ = some (.func (.func 178) #[] #[.pointer (some ⟨bx, 0, none⟩)]) ∧ w'.cell? ⟨b, 1, none⟩ = some (.slice (some ⟨g, 0, none⟩) (l.length + 1) c1) ∧ w'.cell? ⟨g, i * 3, none⟩ = some (.int .i64 xi0) ∧ w'.cell? ⟨g, i * 3 + 1, none⟩ = some (.int .i64 xi1) ∧ w'.cell? ⟨g, i * 3 + 2, none⟩ = some (.int .i64 xi2) ∧ w'.cell? ⟨g, u * 3, none⟩ = some (.int .i64 xu0) ∧ w'.cell? ⟨g, u * 3 + 1, none⟩ = some (.int .i64 xu1) ∧ w'.cell? ⟨g, u * 3 + 2, none⟩ = some (.int .i64 xu2) ∧ Below wr.heap.size wr w')
          (first | exact ⟨cell_below (B := wr.heap.size) (w := wr) (by first | ((repeat (first | assumption | exact Below.refl _ _ | apply below_drew1 | apply below_alloc1)); done)) hc0 (World.block_lt_of_cell? _ _ hc0), cell_below (B := wr.heap.size) (w := wr) (by first | ((repeat (first | assumption | exact Below.refl _ _ | apply below_drew1 | apply below_alloc1)); done)) hc1 (World.block_lt_of_cell? _ _ hc1), cell_below (B := wr.heap.size) (w := wr) (by first | ((repeat (first | assumption | exact Below.refl _ _ | apply below_drew1 | apply below_alloc1)); done)) hci0 (World.block_lt_of_cell? _ _ hci0), cell_below (B := wr.heap.size) (w := wr) (by first | ((repeat (first | assumption | exact Below.refl _ _ | apply below_drew1 | apply below_alloc1)); done)) hci1 (World.block_lt_of_cell? _ _ hci1), cell_below (B := wr.heap.size) (w := wr) (by first | ((repeat (first | assumption | exact Below.refl _ _ | apply below_drew1 | apply below_alloc1)); done)) hci2 (World.block_lt_of_cell? _ _ hci2), cell_below (B := wr.heap.size) (w := wr) (by first | ((repeat (first | assumption | exact Below.refl _ _ | apply below_drew1 | apply below_alloc1)); done)) hcu0 (World.block_lt_of_cell? _ _ hcu0), cell_below (B := wr.heap.size) (w := wr) (by first | ((repeat (first | assumption | exact Below.refl _ _ | apply below_drew1 | apply below_alloc1)); done)) hcu1 (World.block_lt_of_cell? _ _ hcu1), cell_below (B := wr.heap.size) (w := wr) (by first | ((repeat (first | assumption | exact Below.refl _ _ | apply below_drew1 | apply below_alloc1)); done)) hcu2 (World.block_lt_of_cell? _ _ hcu2), (by first | ((repeat (first | assumption | exact Below.refl _ _ | apply below_drew1 | apply below_alloc1)); done))⟩ | go_keep)
          (first
            | (go_at_call 178; go_split_ands; (with_reducible refine Calls.mono (HSLr.out.less xi0 xi1 xi2 xu0 xu1 xu2 _ ?_) ?_); (exact (by first | ((repeat (first | assumption | exact Below.refl _ _ | apply below_drew1 | apply below_alloc1)); done))); rintro e wq ⟨he, hbq⟩; rw [HR.out] at he; subst he; have hbB : Below wr.heap.size wr wq := Below.after (by first | ((repeat (first | assumption | exact Below.refl _ _ | apply below_drew1 | apply below_alloc1)); done)) hbq))
        go_wp2_with fail
        have hiu : ¬ i = u := by have h1 := HI.out; have h2 := HU.out; omega
        have hui : ¬ u = i := by omega
        have hul : u ≤ l.length := by omega
        have hul2 : u < l.length + 1 := by omega
        have hil2 : i < l.length + 1 := by omega
        have hH2 : HpE bx wq b lo (.slice (some ⟨g, 0, none⟩) (l.length + 1) c1) L := HH.out.keep hbB
        have hsw := hH2.swap (x := (xi0, xi1, xi2)) (y := (xu0, xu1, xu2)) hil2 hul2
        have HSW := Lib.hid hsw
        obtain ⟨g', _, hg', _, _, _, _, hfq, _⟩ := hH2.2.1.at_ tri_q i (by omega) (by omega)
        injection hg' with hg'
        injection hg' with hg'
        subst hg'
        have hc1q : wq.cell? ⟨b, 1, none⟩ = some (.slice (some ⟨g, 0, none⟩) (l.length + 1) c1) := cell_below hbB hc1 (World.block_lt_of_cell? _ _ hc1)
        have hq1 : wq.cell? ⟨g, i * 3, none⟩ = some (.int .i64 xi0) := cell_below hbB hci0 (World.block_lt_of_cell? _ _ hci0)
        have hq2 : wq.cell? ⟨g, i * 3 + 1, none⟩ = some (.int .i64 xi1) := cell_below hbB hci1 (World.block_lt_of_cell? _ _ hci1)
        have hq5 : wq.cell? ⟨g, i * 3 + 2, none⟩ = some (.int .i64 xi2) := cell_below hbB hci2 (World.block_lt_of_cell? _ _ hci2)
        have hq6 : wq.cell? ⟨g, u * 3 + 2, none⟩ = some (.int .i64 xu2) := cell_below hbB hcu2 (World.block_lt_of_cell? _ _ hcu2)
        have hq3 : wq.cell? ⟨g, u * 3, none⟩ = some (.int .i64 xu0) := cell_below hbB hcu0 (World.block_lt_of_cell? _ _ hcu0)
        have hq4 : wq.cell? ⟨g, u * 3 + 1, none⟩ = some (.int .i64 xu1) := cell_below hbB hcu1 (World.block_lt_of_cell? _ _ hcu1)
        have hf1 := hfq (i * 3)
        have hf2 := hfq (i * 3 + 1)
        have hf3 := hfq (u * 3)
        have hf4 := hfq (u * 3 + 1)
        have hf5 := hfq (i * 3 + 2)
        have hf6 := hfq (u * 3 + 2)
        have n00a : ¬ i * 3 = u * 3 := by omega
        have n00b : ¬ u * 3 = i * 3 := by omega
        have n01a : ¬ i * 3 = u * 3 + 1 := by omega
        have n01b : ¬ u * 3 + 1 = i * 3 := by omega
        have n02a : ¬ i * 3 = u * 3 + 2 := by omega
        have n02b : ¬ u * 3 + 2 = i * 3 := by omega
        have n10a : ¬ i * 3 + 1 = u * 3 := by omega
        have n10b : ¬ u * 3 = i * 3 + 1 := by omega
        have n11a : ¬ i * 3 + 1 = u * 3 + 1 := by omega
        have n11b : ¬ u * 3 + 1 = i * 3 + 1 := by omega
        have n12a : ¬ i * 3 + 1 = u * 3 + 2 := by omega
        have n12b : ¬ u * 3 + 2 = i * 3 + 1 := by omega
        have n20a : ¬ i * 3 + 2 = u * 3 := by omega
        have n20b : ¬ u * 3 = i * 3 + 2 := by omega
        have n21a : ¬ i * 3 + 2 = u * 3 + 1 := by omega
        have n21b : ¬ u * 3 + 1 = i * 3 + 2 := by omega
        have n22a : ¬ i * 3 + 2 = u * 3 + 2 := by omega
        have n22b : ¬ u * 3 + 2 = i * 3 + 2 := by omega
        have HBQ := Lib.hid hbB
        clear hc0 hc1 hci0 hci1 hci2 hcu0 hcu1 hcu2 hsw hH2 hfq hbB hbq hbs0
        go_region
        go_wp2_with fail
        go_roundg u
        case measure => have h1 := HI.out; have h2 := HU.out; omega
        case rel =>
          refine ⟨swp L i u (xu0, xu1, xu2) (xi0, xi1, xi2), hul, rfl, HSW.out.1, by rw [swp_length]; exact hLl, ?_, (swp_perm HXI.out HXU.out).trans HPM.out, HON.out.trans (Only.trans (Only.of_below HBQ.out) HSW.out.2)⟩
          have h1 := HI.out
          have h2 := HU.out
          rw [← h2]
          exact HUP.out.swap ltE_wo (by omega) HXI.out (by rw [h2]; exact HXU.out) HR.out
      | false =>
        go_wp2_with fail
        go_region_held3 (fun w' => w'.cell? ⟨b, 0, none⟩ = some (.func (.func 178) #[] #[.pointer (some ⟨bx, 0, none⟩)]) ∧ w'.cell? ⟨b, 1, none⟩ = some (.slice (some ⟨g, 0, none⟩) (l.length + 1) c1) ∧ w'.cell? ⟨g, i * 3, none⟩ = some (.int .i64 xi0) ∧ w'.cell? ⟨g, i * 3 + 1, none⟩ = some (.int .i64 xi1) ∧ w'.cell? ⟨g, i * 3 + 2, none⟩ = some (.int .i64 xi2) ∧ w'.cell? ⟨g, u * 3, none⟩ = some (.int .i64 xu0) ∧ w'.cell? ⟨g, u * 3 + 1, none⟩ = some (.int .i64 xu1) ∧ w'.cell? ⟨g, u * 3 + 2, none⟩ = some (.int .i64 xu2) ∧ Below wr.heap.size wr w')
          (first | exact ⟨cell_below (B := wr.heap.size) (w := wr) (by first | ((repeat (first | assumption | exact Below.refl _ _ | apply below_drew1 | apply below_alloc1)); done)) hc0 (World.block_lt_of_cell? _ _ hc0), cell_below (B := wr.heap.size) (w := wr) (by first | ((repeat (first | assumption | exact Below.refl _ _ | apply below_drew1 | apply below_alloc1)); done)) hc1 (World.block_lt_of_cell? _ _ hc1), cell_below (B := wr.heap.size) (w := wr) (by first | ((repeat (first | assumption | exact Below.refl _ _ | apply below_drew1 | apply below_alloc1)); done)) hci0 (World.block_lt_of_cell? _ _ hci0), cell_below (B := wr.heap.size) (w := wr) (by first | ((repeat (first | assumption | exact Below.refl _ _ | apply below_drew1 | apply below_alloc1)); done)) hci1 (World.block_lt_of_cell? _ _ hci1), cell_below (B := wr.heap.size) (w := wr) (by first | ((repeat (first | assumption | exact Below.refl _ _ | apply below_drew1 | apply below_alloc1)); done)) hci2 (World.block_lt_of_cell? _ _ hci2), cell_below (B := wr.heap.size) (w := wr) (by first | ((repeat (first | assumption | exact Below.refl _ _ | apply below_drew1 | apply below_alloc1)); done)) hcu0 (World.block_lt_of_cell? _ _ hcu0), cell_below (B := wr.heap.size) (w := wr) (by first | ((repeat (first | assumption | exact Below.refl _ _ | apply below_drew1 | apply below_alloc1)); done)) hcu1 (World.block_lt_of_cell? _ _ hcu1), cell_below (B := wr.heap.size) (w := wr) (by first | ((repeat (first | assumption | exact Below.refl _ _ | apply below_drew1 | apply below_alloc1)); done)) hcu2 (World.block_lt_of_cell? _ _ hcu2), (by first | ((repeat (first | assumption | exact Below.refl _ _ | apply below_drew1 | apply below_alloc1)); done))⟩ | go_keep)
          (first
            | (go_at_call 178; go_split_ands; (with_reducible refine Calls.mono (HSLr.out.less xi0 xi1 xi2 xu0 xu1 xu2 _ ?_) ?_); (exact (by first | ((repeat (first | assumption | exact Below.refl _ _ | apply below_drew1 | apply below_alloc1)); done))); rintro e wq ⟨he, hbq⟩; rw [HR.out] at he; subst he; have hbB : Below wr.heap.size wr wq := Below.after (by first | ((repeat (first | assumption | exact Below.refl _ _ | apply below_drew1 | apply below_alloc1)); done)) hbq))
        go_wp2_with fail
        go_end0
        refine ⟨rfl, _, L, ⟨HH.out.keep hbB, HUP.out.stop (.inr fun a b' ha hb' => ?_), HOB.out.trans2E (HON.out.trans (Only.of_below hbB)) (fun k hk h => h.imp id fun h => (HFR.out k h).resolve_right (by omega)), HFR.out⟩, HPM.out⟩
        have h2 := HU.out
        rw [h2, HXU.out] at hb'
        rw [HXI.out] at ha
        injection ha with ha
        injection hb' with hb'
        subst ha hb'
        exact HR.out
end Go.Proofs.YticdmglondpgaaaGreat

/-! ## HeapBst: The plain law of sink: which kid is the best, and what an exchange with it leaves. Generic in the order. No condition beyond the order's. -/
namespace Go.Proofs.YticdmglondpgaaaGreat
set_option linter.unusedVariables false
set_option maxRecDepth 100000
section
variable {α : Type} {lt : α → α → Bool} {d : α}
def bstF (lt : α → α → Bool) (d : α) (L : List α) (n best kid : Nat) : Nat := if kid < n ∧ lt (L.getD kid d) (L.getD best d) = true then kid else best
theorem getF {L : List α} {i : Nat} (h : i < L.length) : L[i]? = some (L.getD i d) := by simp [List.getD, h]
theorem bstF_lt {L : List α} {n best kid : Nat} (h : best < n ∨ ¬ kid < n) : bstF lt d L n best kid < n ∨ bstF lt d L n best kid = best := by
  unfold bstF
  split
  · rename_i hh; exact .inl hh.1
  · exact .inr rfl
theorem bstF_done {L : List α} {k : Nat} (h : DownOk lt L k) (hl : bstF lt d L L.length (bstF lt d L L.length k (2 * k + 1)) (2 * k + 2) = k) : HeapOk lt L := by
  refine h.stop fun i a b h0 hp ha hb => ?_
  have hil := get_lt ha
  have hkl := get_lt hb
  have ea : L.getD i d = a := by simp [List.getD, ha]
  have eb : L.getD k d = b := by simp [List.getD, hb]
  have h1 : bstF lt d L L.length k (2 * k + 1) = k := by
    unfold bstF at hl ⊢
    split
    · rename_i hh
      rw [if_pos hh] at hl
      split at hl <;> omega
    · rfl
  rw [h1] at hl
  have hi : i = 2 * k + 1 ∨ i = 2 * k + 2 := by omega
  cases hlt : lt a b with
  | false => rfl
  | true =>
    exfalso
    rcases hi with hi | hi
    · rw [← hi] at h1
      unfold bstF at h1
      rw [if_pos ⟨hil, by rw [ea, eb]; exact hlt⟩] at h1
      omega
    · rw [← hi] at hl
      unfold bstF at hl
      rw [if_pos ⟨hil, by rw [ea, eb]; exact hlt⟩] at hl
      omega
theorem bstF_swap (hw : WO lt) {L : List α} {k j : Nat} {a b : α} (h : DownOk lt L k) (hk : k < L.length) (hl : bstF lt d L L.length (bstF lt d L L.length k (2 * k + 1)) (2 * k + 2) = j) (hj : j ≠ k) (ha : L.getD k d = a) (hb : L.getD j d = b) : j < L.length ∧ k < j ∧ DownOk lt (swp L k j b a) j := by
  have hkid : ∀ i x, 0 < i → (i - 1) / 2 = k → L[i]? = some x → (i = 2 * k + 1 ∨ i = 2 * k + 2) ∧ i < L.length ∧ L.getD i d = x := fun i x h0 hp hx => ⟨by omega, get_lt hx, by simp [List.getD, hx]⟩
  unfold bstF at hl
  by_cases h1 : 2 * k + 1 < L.length ∧ lt (L.getD (2 * k + 1) d) (L.getD k d) = true
  · rw [if_pos h1] at hl
    by_cases h2 : 2 * k + 2 < L.length ∧ lt (L.getD (2 * k + 2) d) (L.getD (2 * k + 1) d) = true
    · rw [if_pos h2] at hl
      subst hl
      have hba : lt b a = true := by
        cases hx : lt b a with
        | true => rfl
        | false =>
          have h3 := hw.trn _ _ _ hx (hw.asym _ _ (ha ▸ h1.2))
          rw [← hb, h2.2] at h3
          exact absurd h3 (by simp)
      refine ⟨h2.1, by omega, h.swap hw (by omega) (by omega) (ha ▸ getF hk) (hb ▸ getF h2.1) hba fun i x h0 hp hx => ?_⟩
      obtain ⟨hi, hil, hxx⟩ := hkid i x h0 hp hx
      rcases hi with rfl | rfl
      · rw [← hxx, ← hb]; exact hw.asym _ _ h2.2
      · rw [← hxx, ← hb]; exact hw.irr _
    · rw [if_neg h2] at hl
      subst hl
      refine ⟨h1.1, by omega, h.swap hw (by omega) (by omega) (ha ▸ getF hk) (hb ▸ getF h1.1) (by rw [← ha, ← hb]; exact h1.2) fun i x h0 hp hx => ?_⟩
      obtain ⟨hi, hil, hxx⟩ := hkid i x h0 hp hx
      rcases hi with rfl | rfl
      · rw [← hxx, ← hb]; exact hw.irr _
      · rw [← hxx, ← hb]
        cases hx : lt (L.getD (2 * k + 2) d) (L.getD (2 * k + 1) d) with
        | false => rfl
        | true => exact absurd ⟨hil, hx⟩ h2
  · rw [if_neg h1] at hl
    by_cases h2 : 2 * k + 2 < L.length ∧ lt (L.getD (2 * k + 2) d) (L.getD k d) = true
    · rw [if_pos h2] at hl
      subst hl
      refine ⟨h2.1, by omega, h.swap hw (by omega) (by omega) (ha ▸ getF hk) (hb ▸ getF h2.1) (by rw [← ha, ← hb]; exact h2.2) fun i x h0 hp hx => ?_⟩
      obtain ⟨hi, hil, hxx⟩ := hkid i x h0 hp hx
      rcases hi with rfl | rfl
      · rw [← hxx, ← hb]
        refine hw.trn _ (L.getD k d) _ ?_ (hw.asym _ _ h2.2)
        cases hx : lt (L.getD (2 * k + 1) d) (L.getD k d) with
        | false => rfl
        | true => exact absurd ⟨hil, hx⟩ h1
      · rw [← hxx, ← hb]; exact hw.irr _
    · rw [if_neg h2] at hl
      exact absurd hl.symm hj
end
end Go.Proofs.YticdmglondpgaaaGreat

/-! ## Heap2E: The heap of things of two whole numbers (api.Result): Len, Peek. Condition: the heap's blocks are as the word HpE bx says; no more than a million things. -/
namespace Go.Proofs.YticdmglondpgaaaGreat
open Go.RowKit
set_option linter.unusedVariables false
set_option maxRecDepth 100000
set_option linter.unusedSimpArgs false

theorem HLenE_calls (bx b lo : Nat) (v : Value) (l : List (Int × Int × Int)) (w : World) (h : HpE bx w b lo v l) :
    Calls Tryz.prog 224 #[.pointer (some ⟨b, 0, none⟩)] w fun e w' => e = .returned (.int .i64 l.length) ∧ ∃ n, w' = w.drewN n := by
  obtain ⟨h1, h2, h3, h4⟩ := h
  obtain ⟨A, c, rfl, hlc⟩ := h2.shape
  have hc1 : w.cell? ⟨b, 1, none⟩ = some (.slice A l.length c) := by simp [World.cell?, h1]
  clear h1 h2
  go_enter Tryz.func224, Tryz.ntmps224
  go_wp2_with fail
  go_ret
  exact ⟨rfl, 0, rfl⟩
theorem PeekE_none (bx b lo : Nat) (v : Value) (w : World) (h : HpE bx w b lo v []) :
    Calls Tryz.prog 182 #[.pointer (some ⟨b, 0, none⟩)] w fun e w' => e = .returned (.tuple #[.agg #[.int .i64 0, .int .i64 0, .int .i64 0], .bool false]) ∧ Below w.heap.size w w' := by
  obtain ⟨h1, h2, h3, h4⟩ := h
  obtain ⟨A, c, rfl, hlc⟩ := h2.shape
  have hc1 : w.cell? ⟨b, 1, none⟩ = some (.slice A 0 c) := by simp [World.cell?, h1]
  have gc1 := fun o => (World.cell?_alloc_lt (o := o) w _ (World.block_lt_of_cell? _ _ hc1)).trans hc1
  clear h1 h2
  go_enter Tryz.func182, Tryz.ntmps182
  go_wp2_with fail
  refine bodyPost_ret ?_ rfl ⟨rfl, by repeat (first | exact Below.refl _ _ | apply below_drew1 | apply below_alloc1)⟩
  rw [results_cell_tmp rfl]
  go_simp
theorem PeekE_some (bx b lo : Nat) (v : Value) (x0 x1 x2 : Int) (l : List (Int × Int × Int)) (w : World) (h : HpE bx w b lo v ((x0, x1, x2) :: l)) :
    Calls Tryz.prog 182 #[.pointer (some ⟨b, 0, none⟩)] w fun e w' => e = .returned (.tuple #[.agg #[.int .i64 x0, .int .i64 x1, .int .i64 x2], .bool true]) ∧ Below w.heap.size w w' := by
  obtain ⟨h1, h2, h3, h4⟩ := h
  obtain ⟨A, c, rfl, hlc⟩ := h2.shape
  obtain ⟨g, x, rfl, _, _, hx, hc0, hf0, _⟩ := h2.at_ tri_q 0 (by simp) (by omega)
  have hx' : (x0, x1, x2) = x := by simpa using hx
  subst hx'
  have hc1 : w.cell? ⟨b, 1, none⟩ = some (.slice (some ⟨g, 0, none⟩) (l.length + 1) c) := by simp [World.cell?, h1]
  have hcx0 : w.cell? ⟨g, 0, none⟩ = some (.int .i64 x0) := by simpa [tri] using hc0 0 (by omega)
  have hcx1 : w.cell? ⟨g, 1, none⟩ = some (.int .i64 x1) := by simpa [tri] using hc0 1 (by omega)
  have hcx2 : w.cell? ⟨g, 2, none⟩ = some (.int .i64 x2) := by simpa [tri] using hc0 2 (by omega)
  have gx0 := fun o => (World.cell?_alloc_lt (o := o) w _ (World.block_lt_of_cell? _ _ hcx0)).trans hcx0
  have gx1 := fun o => (World.cell?_alloc_lt (o := o) w _ (World.block_lt_of_cell? _ _ hcx1)).trans hcx1
  have gx2 := fun o => (World.cell?_alloc_lt (o := o) w _ (World.block_lt_of_cell? _ _ hcx2)).trans hcx2
  have gc1 := fun o => (World.cell?_alloc_lt (o := o) w _ (World.block_lt_of_cell? _ _ hc1)).trans hc1
  have hne : (((l.length + 1 : Nat) : Int) == 0) = false := by simp; omega
  have hb0 : (0 : Int) < (l.length : Int) + 1 := by omega
  clear h1 h2 hc0 hx hf0
  go_enter Tryz.func182, Tryz.ntmps182
  go_wp2_with fail
  refine bodyPost_ret ?_ rfl ⟨rfl, by repeat (first | exact Below.refl _ _ | apply below_drew1 | apply below_alloc1)⟩
  rw [results_cell_tmp rfl]
  go_simp
end Go.Proofs.YticdmglondpgaaaGreat

/-! ## Heap3E: The heap of things of two whole numbers (api.Result): sink. Condition: the heap's blocks are as the word HpE bx says; no more than a million things. -/
namespace Go.Proofs.YticdmglondpgaaaGreat
open Go.RowKit
set_option linter.unusedVariables false
set_option maxRecDepth 100000
set_option linter.unusedSimpArgs false

theorem pair2E (a b : Int) (w : World) : (Instr.index 313 (.agg #[.int .i64 a, .int .i64 b]) (.int .i64 0)).run Tryz.prog w = .ok (.int .i64 a) w ∧ (Instr.index 313 (.agg #[.int .i64 a, .int .i64 b]) (.int .i64 1)).run Tryz.prog w = .ok (.int .i64 b) w := by
  constructor <;> simp [Instr.index, asIntOf, run_underlying Tryz.underlying313, part, isAgg, run_underlying Tryz.underlying3, go_sem]
set_option maxHeartbeats 6400000 in
set_option maxRecDepth 1000000 in
theorem sinkE_calls (bx bs b lo : Nat) (A : Option Addr) (n c : Nat) (l : List (Int × Int × Int)) (w : World) (h : HpE bx w b lo (.slice A n c) l) (hln : l.length = n) (hok : DownOk ltE l 0) (hl : n ≤ 1000000) (hsl : SlxE w bx bs) (hnx : Ns (.slice A n c) b bx) (hns : Ns (.slice A n c) b bs) :
    Calls Tryz.prog 225 #[.pointer (some ⟨b, 0, none⟩)] w fun e w' => e = .returned (.tuple #[]) ∧ ∃ l', HpE bx w' b lo (.slice A n c) l' ∧ HeapOk ltE l' ∧ l'.Perm l ∧ Only (HpBE (.slice A n c) b) w w' := by
  have HH := Lib.hid h
  have HOK := Lib.hid hok
  have HSL := Lib.hid hsl
  clear h hok hsl
  go_enter Tryz.func225, Tryz.ntmps225
  go_wp2_with fail
  go_loopg [2] n (fun kq v2 w' => ∃ (k : Nat) (L : List (Int × Int × Int)), n ≤ k + kq ∧ k ≤ n ∧ v2 = .int .i64 ((k : Nat) : Int) ∧ HpE bx w' b lo (.slice A n c) L ∧ L.length = n ∧ DownOk ltE L k ∧ L.Perm l ∧ Only (HpBE (.slice A n c) b) w w')
  case atStart => exact ⟨0, l, by omega, by omega, rfl, HH.out, hln, HOK.out, List.Perm.refl _, Only.refl _ _⟩
  case round =>
    clear HH HOK hln
    obtain ⟨k, L, hkq, hkn, rfl, hH, hLl, hdn, hpm, hon⟩ := hrel
    obtain ⟨m, hm⟩ : ∃ m, 2 * k = m := ⟨_, rfl⟩
    obtain ⟨k1, hk1⟩ : ∃ m, 2 * k + 1 = m := ⟨_, rfl⟩
    obtain ⟨k2, hk2⟩ : ∃ m, 2 * k + 2 = m := ⟨_, rfl⟩
    have hw0 : IntKind.i64.wrap (2 * (k : Int)) = (m : Int) := by rw [i64_w, show 2 * (k : Int) = (m : Int) by omega]; exact wrap64_id _ (by omega)
    have hw1 : IntKind.i64.wrap ((m : Int) + 1) = (k1 : Int) := by rw [i64_w, show (m : Int) + 1 = (k1 : Int) by omega]; exact wrap64_id _ (by omega)
    have hw2 : IntKind.i64.wrap ((m : Int) + 2) = (k2 : Int) := by rw [i64_w, show (m : Int) + 2 = (k2 : Int) by omega]; exact wrap64_id _ (by omega)
    obtain ⟨b1, hb1⟩ : ∃ m, bstF ltE (0, 0, 0) L n k k1 = m := ⟨_, rfl⟩
    obtain ⟨b2, hb2⟩ : ∃ m, bstF ltE (0, 0, 0) L n b1 k2 = m := ⟨_, rfl⟩
    have HH0 := Lib.hid hH
    have HDN := Lib.hid hdn
    have HPM := Lib.hid hpm
    have HON0 := Lib.hid hon
    have HM := Lib.hid hm
    have HK1 := Lib.hid hk1
    have HK2 := Lib.hid hk2
    have HB1 := Lib.hid hb1
    have HB2 := Lib.hid hb2
    have hix := pair2E (k1 : Int) (k2 : Int)
    have hx0 := fun w => (hix w).1
    have hx1 := fun w => (hix w).2
    clear hix
    clear hH hdn hpm hon hm hk1 hk2 hb1 hb2
    go_wp2_with fail
    go_loopg [3, 14] 2 (fun gq v3 v14 w' => ((gq = 2 ∧ v14 = .int .i64 0 ∧ v3 = .int .i64 (k : Int)) ∨ (gq = 1 ∧ v14 = .int .i64 1 ∧ v3 = .int .i64 (b1 : Int)) ∨ (gq = 0 ∧ v14 = .int .i64 2 ∧ v3 = .int .i64 (b2 : Int))) ∧ Below wr.heap.size wr w')
    case atStart => exact ⟨.inl ⟨rfl, rfl, rfl⟩, Below.refl _ _⟩
    case round =>
      obtain ⟨hcase, hbk⟩ := hrel
      have HH := Lib.hid (HH0.out.keep hbk)
      have HON := Lib.hid (HON0.out.trans (Only.of_below hbk))
      have HBK := Lib.hid hbk
      have hc1 : wr.cell? ⟨b, 1, none⟩ = some (.slice A n c) := by have h := HH.out.1; simp [World.cell?, h]
      have hc0 : wr.cell? ⟨b, 0, none⟩ = some (.func (.func 178) #[] #[.pointer (some ⟨bx, 0, none⟩)]) := by have h := HH.out.1; simp [World.cell?, h]
      have HSLr := Lib.hid (HSL.out.only HON.out hnx hns)
      clear HH0 HON0 hbk
      rcases hcase with ⟨rfl, rfl, rfl⟩ | ⟨rfl, rfl, rfl⟩ | ⟨rfl, rfl, rfl⟩
      · skip
        by_cases hKn : k1 < n
        · have hBn : k < n := by have := HK1.out; omega
          obtain ⟨g, ⟨xk0, xk1, xk2⟩, hgA, _, _, hxk, hck, hfk, _⟩ := HH.out.2.1.at_ tri_q k1 hKn (by omega)
          subst hgA
          obtain ⟨g', ⟨xb0, xb1, xb2⟩, hg', _, _, hxb, hcb, _, _⟩ := HH.out.2.1.at_ tri_q k hBn (by omega)
          injection hg' with hg'
          injection hg' with hg'
          subst hg'
          have hck0 : wr.cell? ⟨g, k1 * 3, none⟩ = some (.int .i64 xk0) := hck 0 (by omega)
          have hck1 : wr.cell? ⟨g, k1 * 3 + 1, none⟩ = some (.int .i64 xk1) := hck 1 (by omega)
          have hck2 : wr.cell? ⟨g, k1 * 3 + 2, none⟩ = some (.int .i64 xk2) := hck 2 (by omega)
          have hcb0 : wr.cell? ⟨g, k * 3, none⟩ = some (.int .i64 xb0) := hcb 0 (by omega)
          have hcb1 : wr.cell? ⟨g, k * 3 + 1, none⟩ = some (.int .i64 xb1) := hcb 1 (by omega)
          have hcb2 : wr.cell? ⟨g, k * 3 + 2, none⟩ = some (.int .i64 xb2) := hcb 2 (by omega)
          have gK : L.getD k1 (0, 0, 0) = (xk0, xk1, xk2) := by simp [List.getD, hxk]
          have gB : L.getD k (0, 0, 0) = (xb0, xb1, xb2) := by simp [List.getD, hxb]
          have bK : (k1 : Int) < (n : Int) := by omega
          have bB : (k : Int) < (n : Int) := by omega
          obtain ⟨r, hr⟩ : ∃ r, ltE (xk0, xk1, xk2) (xb0, xb1, xb2) = r := ⟨_, rfl⟩
          have HR := Lib.hid hr
          have hbs0 : Below wr.heap.size wr wr := Below.refl _ _
          clear hck hcb hfk hxk hxb
          cases r with
          | true =>
            have hR : b1 = k1 := by rw [← HB1.out]; unfold bstF; rw [if_pos ⟨hKn, by rw [gK, gB]; exact hr⟩]
            have HRR := Lib.hid hR
            clear hR gK gB hr
            go_wp2_with fail
            go_region_held3 (fun w' => w'.cell? ⟨b, 0, none⟩ = some (.func (.func 178) #[] #[.pointer (some ⟨bx, 0, none⟩)]) ∧ w'.cell? ⟨b, 1, none⟩ = some (.slice (some ⟨g, 0, none⟩) n c) ∧ w'.cell? ⟨g, k1 * 3, none⟩ = some (.int .i64 xk0) ∧ w'.cell? ⟨g, k1 * 3 + 1, none⟩ = some (.int .i64 xk1) ∧ w'.cell? ⟨g, k1 * 3 + 2, none⟩ = some (.int .i64 xk2) ∧ w'.cell? ⟨g, k * 3, none⟩ = some (.int .i64 xb0) ∧ w'.cell? ⟨g, k * 3 + 1, none⟩ = some (.int .i64 xb1) ∧ w'.cell? ⟨g, k * 3 + 2, none⟩ = some (.int .i64 xb2) ∧ Below wr.heap.size wr w')
              (first | exact ⟨cell_below (B := wr.heap.size) (w := wr) (by first | ((repeat (first | assumption | exact Below.refl _ _ | apply below_drew1 | apply below_alloc1)); done)) hc0 (World.block_lt_of_cell? _ _ hc0), cell_below (B := wr.heap.size) (w := wr) (by first | ((repeat (first | assumption | exact Below.refl _ _ | apply below_drew1 | apply below_alloc1)); done)) hc1 (World.block_lt_of_cell? _ _ hc1), cell_below (B := wr.heap.size) (w := wr) (by first | ((repeat (first | assumption | exact Below.refl _ _ | apply below_drew1 | apply below_alloc1)); done)) hck0 (World.block_lt_of_cell? _ _ hck0), cell_below (B := wr.heap.size) (w := wr) (by first | ((repeat (first | assumption | exact Below.refl _ _ | apply below_drew1 | apply below_alloc1)); done)) hck1 (World.block_lt_of_cell? _ _ hck1), cell_below (B := wr.heap.size) (w := wr) (by first | ((repeat (first | assumption | exact Below.refl _ _ | apply below_drew1 | apply below_alloc1)); done)) hck2 (World.block_lt_of_cell? _ _ hck2), cell_below (B := wr.heap.size) (w := wr) (by first | ((repeat (first | assumption | exact Below.refl _ _ | apply below_drew1 | apply below_alloc1)); done)) hcb0 (World.block_lt_of_cell? _ _ hcb0), cell_below (B := wr.heap.size) (w := wr) (by first | ((repeat (first | assumption | exact Below.refl _ _ | apply below_drew1 | apply below_alloc1)); done)) hcb1 (World.block_lt_of_cell? _ _ hcb1), cell_below (B := wr.heap.size) (w := wr) (by first | ((repeat (first | assumption | exact Below.refl _ _ | apply below_drew1 | apply below_alloc1)); done)) hcb2 (World.block_lt_of_cell? _ _ hcb2), (by first | ((repeat (first | assumption | exact Below.refl _ _ | apply below_drew1 | apply below_alloc1)); done))⟩ | go_keep)
              (first
                | (go_at_call 178; go_split_ands; (with_reducible refine Calls.mono (HSLr.out.less xk0 xk1 xk2 xb0 xb1 xb2 _ ?_) ?_); (exact (by first | ((repeat (first | assumption | exact Below.refl _ _ | apply below_drew1 | apply below_alloc1)); done))); rintro e wq ⟨he, hbq⟩; rw [HR.out] at he; subst he; have hbB : Below wr.heap.size wr wq := Below.after (by first | ((repeat (first | assumption | exact Below.refl _ _ | apply below_drew1 | apply below_alloc1)); done)) hbq))
            go_wp2_with fail
            go_roundg 1
            case measure => omega
            case rel => exact ⟨.inr (.inl ⟨rfl, rfl, by rw [HRR.out]⟩), HBK.out.after hbB⟩
          | false =>
            have hR : b1 = k := by rw [← HB1.out]; unfold bstF; rw [if_neg fun h => by have h2 := h.2; rw [gK, gB] at h2; exact absurd (hr.symm.trans h2) (by simp)]
            have HRR := Lib.hid hR
            clear hR gK gB hr
            go_wp2_with fail
            go_region_held3 (fun w' => w'.cell? ⟨b, 0, none⟩ = some (.func (.func 178) #[] #[.pointer (some ⟨bx, 0, none⟩)]) ∧ w'.cell? ⟨b, 1, none⟩ = some (.slice (some ⟨g, 0, none⟩) n c) ∧ w'.cell? ⟨g, k1 * 3, none⟩ = some (.int .i64 xk0) ∧ w'.cell? ⟨g, k1 * 3 + 1, none⟩ = some (.int .i64 xk1) ∧ w'.cell? ⟨g, k1 * 3 + 2, none⟩ = some (.int .i64 xk2) ∧ w'.cell? ⟨g, k * 3, none⟩ = some (.int .i64 xb0) ∧ w'.cell? ⟨g, k * 3 + 1, none⟩ = some (.int .i64 xb1) ∧ w'.cell? ⟨g, k * 3 + 2, none⟩ = some (.int .i64 xb2) ∧ Below wr.heap.size wr w')
              (first | exact ⟨cell_below (B := wr.heap.size) (w := wr) (by first | ((repeat (first | assumption | exact Below.refl _ _ | apply below_drew1 | apply below_alloc1)); done)) hc0 (World.block_lt_of_cell? _ _ hc0), cell_below (B := wr.heap.size) (w := wr) (by first | ((repeat (first | assumption | exact Below.refl _ _ | apply below_drew1 | apply below_alloc1)); done)) hc1 (World.block_lt_of_cell? _ _ hc1), cell_below (B := wr.heap.size) (w := wr) (by first | ((repeat (first | assumption | exact Below.refl _ _ | apply below_drew1 | apply below_alloc1)); done)) hck0 (World.block_lt_of_cell? _ _ hck0), cell_below (B := wr.heap.size) (w := wr) (by first | ((repeat (first | assumption | exact Below.refl _ _ | apply below_drew1 | apply below_alloc1)); done)) hck1 (World.block_lt_of_cell? _ _ hck1), cell_below (B := wr.heap.size) (w := wr) (by first | ((repeat (first | assumption | exact Below.refl _ _ | apply below_drew1 | apply below_alloc1)); done)) hck2 (World.block_lt_of_cell? _ _ hck2), cell_below (B := wr.heap.size) (w := wr) (by first | ((repeat (first | assumption | exact Below.refl _ _ | apply below_drew1 | apply below_alloc1)); done)) hcb0 (World.block_lt_of_cell? _ _ hcb0), cell_below (B := wr.heap.size) (w := wr) (by first | ((repeat (first | assumption | exact Below.refl _ _ | apply below_drew1 | apply below_alloc1)); done)) hcb1 (World.block_lt_of_cell? _ _ hcb1), cell_below (B := wr.heap.size) (w := wr) (by first | ((repeat (first | assumption | exact Below.refl _ _ | apply below_drew1 | apply below_alloc1)); done)) hcb2 (World.block_lt_of_cell? _ _ hcb2), (by first | ((repeat (first | assumption | exact Below.refl _ _ | apply below_drew1 | apply below_alloc1)); done))⟩ | go_keep)
              (first
                | (go_at_call 178; go_split_ands; (with_reducible refine Calls.mono (HSLr.out.less xk0 xk1 xk2 xb0 xb1 xb2 _ ?_) ?_); (exact (by first | ((repeat (first | assumption | exact Below.refl _ _ | apply below_drew1 | apply below_alloc1)); done))); rintro e wq ⟨he, hbq⟩; rw [HR.out] at he; subst he; have hbB : Below wr.heap.size wr wq := Below.after (by first | ((repeat (first | assumption | exact Below.refl _ _ | apply below_drew1 | apply below_alloc1)); done)) hbq))
            go_wp2_with fail
            go_roundg 1
            case measure => omega
            case rel => exact ⟨.inr (.inl ⟨rfl, rfl, by rw [HRR.out]⟩), HBK.out.after hbB⟩
        · have hR : b1 = k := by rw [← HB1.out]; unfold bstF; rw [if_neg fun h => hKn h.1]
          have hKn' : decide ((k1 : Int) < (n : Int)) = false := decide_eq_false (by omega)
          have HRR := Lib.hid hR
          clear hR
          go_wp2_with fail
          go_quiet (fail)
          go_wp2_with fail
          go_roundg 1
          case measure => omega
          case rel => exact ⟨.inr (.inl ⟨rfl, rfl, by rw [HRR.out]⟩), HBK.out.after (below_drewN_self _ _)⟩
      · have hb1k : b1 < n ∨ b1 = k := by rw [← HB1.out]; exact bstF_lt (by have := HK1.out; omega)
        by_cases hKn : k2 < n
        · have hBn : b1 < n := by have := HK2.out; omega
          obtain ⟨g, ⟨xk0, xk1, xk2⟩, hgA, _, _, hxk, hck, hfk, _⟩ := HH.out.2.1.at_ tri_q k2 hKn (by omega)
          subst hgA
          obtain ⟨g', ⟨xb0, xb1, xb2⟩, hg', _, _, hxb, hcb, _, _⟩ := HH.out.2.1.at_ tri_q b1 hBn (by omega)
          injection hg' with hg'
          injection hg' with hg'
          subst hg'
          have hck0 : wr.cell? ⟨g, k2 * 3, none⟩ = some (.int .i64 xk0) := hck 0 (by omega)
          have hck1 : wr.cell? ⟨g, k2 * 3 + 1, none⟩ = some (.int .i64 xk1) := hck 1 (by omega)
          have hck2 : wr.cell? ⟨g, k2 * 3 + 2, none⟩ = some (.int .i64 xk2) := hck 2 (by omega)
          have hcb0 : wr.cell? ⟨g, b1 * 3, none⟩ = some (.int .i64 xb0) := hcb 0 (by omega)
          have hcb1 : wr.cell? ⟨g, b1 * 3 + 1, none⟩ = some (.int .i64 xb1) := hcb 1 (by omega)
          have hcb2 : wr.cell? ⟨g, b1 * 3 + 2, none⟩ = some (.int .i64 xb2) := hcb 2 (by omega)
          have gK : L.getD k2 (0, 0, 0) = (xk0, xk1, xk2) := by simp [List.getD, hxk]
          have gB : L.getD b1 (0, 0, 0) = (xb0, xb1, xb2) := by simp [List.getD, hxb]
          have bK : (k2 : Int) < (n : Int) := by omega
          have bB : (b1 : Int) < (n : Int) := by omega
          obtain ⟨r, hr⟩ : ∃ r, ltE (xk0, xk1, xk2) (xb0, xb1, xb2) = r := ⟨_, rfl⟩
          have HR := Lib.hid hr
          have hbs0 : Below wr.heap.size wr wr := Below.refl _ _
          clear hck hcb hfk hxk hxb
          cases r with
          | true =>
            have hR : b2 = k2 := by rw [← HB2.out]; unfold bstF; rw [if_pos ⟨hKn, by rw [gK, gB]; exact hr⟩]
            have HRR := Lib.hid hR
            clear hR gK gB hr
            go_wp2_with fail
            go_region_held3 (fun w' => w'.cell? ⟨b, 0, none⟩ = some (.func (.func 178) #[] #[.pointer (some ⟨bx, 0, none⟩)]) ∧ w'.cell? ⟨b, 1, none⟩ = some (.slice (some ⟨g, 0, none⟩) n c) ∧ w'.cell? ⟨g, k2 * 3, none⟩ = some (.int .i64 xk0) ∧ w'.cell? ⟨g, k2 * 3 + 1, none⟩ = some (.int .i64 xk1) ∧ w'.cell? ⟨g, k2 * 3 + 2, none⟩ = some (.int .i64 xk2) ∧ w'.cell? ⟨g, b1 * 3, none⟩ = some (.int .i64 xb0) ∧ w'.cell? ⟨g, b1 * 3 + 1, none⟩ = some (.int .i64 xb1) ∧ w'.cell? ⟨g, b1 * 3 + 2, none⟩ = some (.int .i64 xb2) ∧ Below wr.heap.size wr w')
              (first | exact ⟨cell_below (B := wr.heap.size) (w := wr) (by first | ((repeat (first | assumption | exact Below.refl _ _ | apply below_drew1 | apply below_alloc1)); done)) hc0 (World.block_lt_of_cell? _ _ hc0), cell_below (B := wr.heap.size) (w := wr) (by first | ((repeat (first | assumption | exact Below.refl _ _ | apply below_drew1 | apply below_alloc1)); done)) hc1 (World.block_lt_of_cell? _ _ hc1), cell_below (B := wr.heap.size) (w := wr) (by first | ((repeat (first | assumption | exact Below.refl _ _ | apply below_drew1 | apply below_alloc1)); done)) hck0 (World.block_lt_of_cell? _ _ hck0), cell_below (B := wr.heap.size) (w := wr) (by first | ((repeat (first | assumption | exact Below.refl _ _ | apply below_drew1 | apply below_alloc1)); done)) hck1 (World.block_lt_of_cell? _ _ hck1), cell_below (B := wr.heap.size) (w := wr) (by first | ((repeat (first | assumption | exact Below.refl _ _ | apply below_drew1 | apply below_alloc1)); done)) hck2 (World.block_lt_of_cell? _ _ hck2), cell_below (B := wr.heap.size) (w := wr) (by first | ((repeat (first | assumption | exact Below.refl _ _ | apply below_drew1 | apply below_alloc1)); done)) hcb0 (World.block_lt_of_cell? _ _ hcb0), cell_below (B := wr.heap.size) (w := wr) (by first | ((repeat (first | assumption | exact Below.refl _ _ | apply below_drew1 | apply below_alloc1)); done)) hcb1 (World.block_lt_of_cell? _ _ hcb1), cell_below (B := wr.heap.size) (w := wr) (by first | ((repeat (first | assumption | exact Below.refl _ _ | apply below_drew1 | apply below_alloc1)); done)) hcb2 (World.block_lt_of_cell? _ _ hcb2), (by first | ((repeat (first | assumption | exact Below.refl _ _ | apply below_drew1 | apply below_alloc1)); done))⟩ | go_keep)
              (first
                | (go_at_call 178; go_split_ands; (with_reducible refine Calls.mono (HSLr.out.less xk0 xk1 xk2 xb0 xb1 xb2 _ ?_) ?_); (exact (by first | ((repeat (first | assumption | exact Below.refl _ _ | apply below_drew1 | apply below_alloc1)); done))); rintro e wq ⟨he, hbq⟩; rw [HR.out] at he; subst he; have hbB : Below wr.heap.size wr wq := Below.after (by first | ((repeat (first | assumption | exact Below.refl _ _ | apply below_drew1 | apply below_alloc1)); done)) hbq))
            go_wp2_with fail
            go_roundg 0
            case measure => omega
            case rel => exact ⟨.inr (.inr ⟨rfl, rfl, by rw [HRR.out]⟩), HBK.out.after hbB⟩
          | false =>
            have hR : b2 = b1 := by rw [← HB2.out]; unfold bstF; rw [if_neg fun h => by have h2 := h.2; rw [gK, gB] at h2; exact absurd (hr.symm.trans h2) (by simp)]
            have HRR := Lib.hid hR
            clear hR gK gB hr
            go_wp2_with fail
            go_region_held3 (fun w' => w'.cell? ⟨b, 0, none⟩ = some (.func (.func 178) #[] #[.pointer (some ⟨bx, 0, none⟩)]) ∧ w'.cell? ⟨b, 1, none⟩ = some (.slice (some ⟨g, 0, none⟩) n c) ∧ w'.cell? ⟨g, k2 * 3, none⟩ = some (.int .i64 xk0) ∧ w'.cell? ⟨g, k2 * 3 + 1, none⟩ = some (.int .i64 xk1) ∧ w'.cell? ⟨g, k2 * 3 + 2, none⟩ = some (.int .i64 xk2) ∧ w'.cell? ⟨g, b1 * 3, none⟩ = some (.int .i64 xb0) ∧ w'.cell? ⟨g, b1 * 3 + 1, none⟩ = some (.int .i64 xb1) ∧ w'.cell? ⟨g, b1 * 3 + 2, none⟩ = some (.int .i64 xb2) ∧ Below wr.heap.size wr w')
              (first | exact ⟨cell_below (B := wr.heap.size) (w := wr) (by first | ((repeat (first | assumption | exact Below.refl _ _ | apply below_drew1 | apply below_alloc1)); done)) hc0 (World.block_lt_of_cell? _ _ hc0), cell_below (B := wr.heap.size) (w := wr) (by first | ((repeat (first | assumption | exact Below.refl _ _ | apply below_drew1 | apply below_alloc1)); done)) hc1 (World.block_lt_of_cell? _ _ hc1), cell_below (B := wr.heap.size) (w := wr) (by first | ((repeat (first | assumption | exact Below.refl _ _ | apply below_drew1 | apply below_alloc1)); done)) hck0 (World.block_lt_of_cell? _ _ hck0), cell_below (B := wr.heap.size) (w := wr) (by first | ((repeat (first | assumption | exact Below.refl _ _ | apply below_drew1 | apply below_alloc1)); done)) hck1 (World.block_lt_of_cell? _ _ hck1), cell_below (B := wr.heap.size) (w := wr) (by first | ((repeat (first | assumption | exact Below.refl _ _ | apply below_drew1 | apply below_alloc1)); done)) hck2 (World.block_lt_of_cell? _ _ hck2), cell_below (B := wr.heap.size) (w := wr) (by first | ((repeat (first | assumption | exact Below.refl _ _ | apply below_drew1 | apply below_alloc1)); done)) hcb0 (World.block_lt_of_cell? _ _ hcb0), cell_below (B := wr.heap.size) (w := wr) (by first | ((repeat (first | assumption | exact Below.refl _ _ | apply below_drew1 | apply below_alloc1)); done)) hcb1 (World.block_lt_of_cell? _ _ hcb1), cell_below (B := wr.heap.size) (w := wr) (by first | ((repeat (first | assumption | exact Below.refl _ _ | apply below_drew1 | apply below_alloc1)); done)) hcb2 (World.block_lt_of_cell? _ _ hcb2), (by first | ((repeat (first | assumption | exact Below.refl _ _ | apply below_drew1 | apply below_alloc1)); done))⟩ | go_keep)
              (first
                | (go_at_call 178; go_split_ands; (with_reducible refine Calls.mono (HSLr.out.less xk0 xk1 xk2 xb0 xb1 xb2 _ ?_) ?_); (exact (by first | ((repeat (first | assumption | exact Below.refl _ _ | apply below_drew1 | apply below_alloc1)); done))); rintro e wq ⟨he, hbq⟩; rw [HR.out] at he; subst he; have hbB : Below wr.heap.size wr wq := Below.after (by first | ((repeat (first | assumption | exact Below.refl _ _ | apply below_drew1 | apply below_alloc1)); done)) hbq))
            go_wp2_with fail
            go_roundg 0
            case measure => omega
            case rel => exact ⟨.inr (.inr ⟨rfl, rfl, by rw [HRR.out]⟩), HBK.out.after hbB⟩
        · have hR : b2 = b1 := by rw [← HB2.out]; unfold bstF; rw [if_neg fun h => hKn h.1]
          have hKn' : decide ((k2 : Int) < (n : Int)) = false := decide_eq_false (by omega)
          have HRR := Lib.hid hR
          clear hR
          go_wp2_with fail
          go_quiet (fail)
          go_wp2_with fail
          go_roundg 0
          case measure => omega
          case rel => exact ⟨.inr (.inr ⟨rfl, rfl, by rw [HRR.out]⟩), HBK.out.after (below_drewN_self _ _)⟩
      · skip
        by_cases hbk : b2 = k
        · have hbk' : ((b2 : Int) == (k : Int)) = true := by simp; omega
          have hb := bstF_done (L := L) (k := k) HDN.out (by rw [hLl, HK1.out, HK2.out, HB1.out, HB2.out]; exact hbk)
          go_wp2_with fail
          refine bodyPost_ret (results_none rfl _ _ _) rfl ?_
          exact ⟨rfl, L, HH.out, hb, HPM.out, HON.out⟩
        · have hbk' : ((b2 : Int) == (k : Int)) = false := by simp; omega
          have hkn2 : k < n := by
            refine Nat.lt_of_le_of_ne hkn fun e => hbk ?_
            have h1 := HK1.out
            have h2 := HK2.out
            rw [← HB2.out, ← HB1.out]
            unfold bstF
            rw [if_neg (fun h : k1 < n ∧ _ => by have := h.1; omega), if_neg (fun h : k2 < n ∧ _ => by have := h.1; omega)]
          have hbn0 := bstF_swap (L := L) (k := k) (j := b2) (d := (0, 0, 0)) ltE_wo HDN.out (by omega) (by rw [hLl, HK1.out, HK2.out, HB1.out, HB2.out]) hbk rfl rfl
          obtain ⟨hbn, hkb, hdn2⟩ := hbn0
          rw [hLl] at hbn
          obtain ⟨g, ⟨xk0, xk1, xk2⟩, hgA, _, _, hxk, hck, hfk, _⟩ := HH.out.2.1.at_ tri_q k hkn2 (by omega)
          subst hgA
          obtain ⟨g', ⟨xb0, xb1, xb2⟩, hg', _, _, hxb, hcb, _, _⟩ := HH.out.2.1.at_ tri_q b2 hbn (by omega)
          injection hg' with hg'
          injection hg' with hg'
          subst hg'
          rw [show L.getD k (0, 0, 0) = (xk0, xk1, xk2) by simp [List.getD, hxk], show L.getD b2 (0, 0, 0) = (xb0, xb1, xb2) by simp [List.getD, hxb]] at hdn2
          have hck0 : wr.cell? ⟨g, k * 3, none⟩ = some (.int .i64 xk0) := hck 0 (by omega)
          have hck1 : wr.cell? ⟨g, k * 3 + 1, none⟩ = some (.int .i64 xk1) := hck 1 (by omega)
          have hck2 : wr.cell? ⟨g, k * 3 + 2, none⟩ = some (.int .i64 xk2) := hck 2 (by omega)
          have hcb0 : wr.cell? ⟨g, b2 * 3, none⟩ = some (.int .i64 xb0) := hcb 0 (by omega)
          have hcb1 : wr.cell? ⟨g, b2 * 3 + 1, none⟩ = some (.int .i64 xb1) := hcb 1 (by omega)
          have hcb2 : wr.cell? ⟨g, b2 * 3 + 2, none⟩ = some (.int .i64 xb2) := hcb 2 (by omega)
          have hf0 := hfk (k * 3)
          have hf1 := hfk (k * 3 + 1)
          have hf2 := hfk (k * 3 + 2)
          have hf3 := hfk (b2 * 3)
          have hf4 := hfk (b2 * 3 + 1)
          have hf5 := hfk (b2 * 3 + 2)
          have HPK := Lib.hid hxk
          have HPB := Lib.hid hxb
          have HD2 := Lib.hid hdn2
          have bK : (k : Int) < (n : Int) := by omega
          have bB : (b2 : Int) < (n : Int) := by omega
          have n0 : ¬ k = b2 := by omega
          have n00a : ¬ k * 3 = b2 * 3 := by omega
          have n00b : ¬ b2 * 3 = k * 3 := by omega
          have n01a : ¬ k * 3 = b2 * 3 + 1 := by omega
          have n01b : ¬ b2 * 3 + 1 = k * 3 := by omega
          have n02a : ¬ k * 3 = b2 * 3 + 2 := by omega
          have n02b : ¬ b2 * 3 + 2 = k * 3 := by omega
          have n10a : ¬ k * 3 + 1 = b2 * 3 := by omega
          have n10b : ¬ b2 * 3 = k * 3 + 1 := by omega
          have n11a : ¬ k * 3 + 1 = b2 * 3 + 1 := by omega
          have n11b : ¬ b2 * 3 + 1 = k * 3 + 1 := by omega
          have n12a : ¬ k * 3 + 1 = b2 * 3 + 2 := by omega
          have n12b : ¬ b2 * 3 + 2 = k * 3 + 1 := by omega
          have n20a : ¬ k * 3 + 2 = b2 * 3 := by omega
          have n20b : ¬ b2 * 3 = k * 3 + 2 := by omega
          have n21a : ¬ k * 3 + 2 = b2 * 3 + 1 := by omega
          have n21b : ¬ b2 * 3 + 1 = k * 3 + 2 := by omega
          have n22a : ¬ k * 3 + 2 = b2 * 3 + 2 := by omega
          have n22b : ¬ b2 * 3 + 2 = k * 3 + 2 := by omega
          have hsw := HH.out.swap (x := (xk0, xk1, xk2)) (y := (xb0, xb1, xb2)) hkn2 hbn
          have HSW := Lib.hid hsw
          clear hxk hxb hck hcb hfk hdn2 hsw
          go_wp2_with fail
          go_region
          go_wp2_with fail
          go_roundg (n - b2)
          case measure => omega
          case rel =>
            exact ⟨b2, swp L k b2 (xb0, xb1, xb2) (xk0, xk1, xk2), by omega, by omega, rfl, HSW.out.1, by rw [swp_length]; exact hLl, HD2.out, (swp_perm HPK.out HPB.out).trans HPM.out, HON.out.trans HSW.out.2⟩
end Go.Proofs.YticdmglondpgaaaGreat

/-! ## Heap4E: The heap of things of two whole numbers (api.Result): Pop. Condition: the heap's blocks are as the word HpE bx says; no more than a million things. -/
namespace Go.Proofs.YticdmglondpgaaaGreat
open Go.RowKit
set_option linter.unusedVariables false
set_option maxRecDepth 100000
set_option linter.unusedSimpArgs false

theorem OwnF.takeE {α : Type} {f : α → List Value} {q : Nat} (hq : ∀ x, (f x).length = q) {w : World} {base : Nat} {e : TypeId} {A : Option Addr} {n c m : Nat} {xs : List α} (h : OwnF w base e q f (.slice A n c) xs) (hm : m ≤ n) (hn : xs.length = n) (hn0 : 0 < n) : OwnF w base e q f (.slice A m c) (xs.take m) := by
  subst hn
  obtain ⟨h0, h⟩ := h
  rcases h with ⟨h1, h2⟩ | ⟨g, cap, cur, h1, hb, hg, hc, hcm, hs, ht⟩
  · injection h1 with _ h1
    omega
  · injection h1 with e1 e2 e3
    subst e1 e3
    have hl : (xs.take m).length = m := by simp; omega
    unfold OwnF
    rw [hl]
    refine ⟨by rw [cellsF_length hq, hl], .inr ⟨g, c, cur, rfl, hb, hg, by omega, hcm, hs, ?_⟩⟩
    have e : (xs.take m).flatMap f = (xs.flatMap f).take (m * q) := by
      rw [show xs.flatMap f = (xs.take m).flatMap f ++ (xs.drop m).flatMap f by rw [← List.flatMap_append, List.take_append_drop]]
      exact (List.take_left' (by rw [cellsF_length hq, hl])).symm
    rw [e, ← ht, List.take_take]
    congr 1
    have := Nat.mul_le_mul_right q hm
    omega
theorem PopE_none (bx b lo : Nat) (v : Value) (w : World) (h : HpE bx w b lo v []) :
    Calls Tryz.prog 183 #[.pointer (some ⟨b, 0, none⟩)] w fun e w' => e = .returned (.tuple #[.agg #[.int .i64 0, .int .i64 0, .int .i64 0], .bool false]) ∧ Below w.heap.size w w' := by
  obtain ⟨W, hW⟩ : ∃ W, w.alloc (.cells #[.int .i64 0, .int .i64 0, .int .i64 0] 277) = W := ⟨_, rfl⟩
  have hB : Below w.heap.size w W := by rw [← hW]; exact below_alloc1 (Below.refl _ _) _
  have HH := Lib.hid (h.keep hB)
  have hz : W.heap.size = w.heap.size + 1 := by rw [← hW]; simp
  have hx := (show W.heap[w.heap.size]? = some (.cells #[.int .i64 0, .int .i64 0, .int .i64 0] 277 (0, 0)) by rw [← hW]; exact heap_alloc_new _ _)
  have HB := Lib.hid hB
  have HX := Lib.hid hx
  have HZ := Lib.hid hz
  clear h hB hx hz
  go_enter Tryz.func183, Tryz.ntmps183
  go_wp2_with fail
  refine (PeekE_none bx b lo v _ HH.out).mono ?_
  rintro e W2 ⟨he, hb2⟩
  subst he
  have hx2 := obj_below hb2 HX.out (obj_lt HX.out)
  have hc0 : W2.cell? ⟨w.heap.size, 0, none⟩ = some (.int .i64 0) := by simp [World.cell?, hx2]
  have hc1 : W2.cell? ⟨w.heap.size, 1, none⟩ = some (.int .i64 0) := by simp [World.cell?, hx2]
  have hc2 : W2.cell? ⟨w.heap.size, 2, none⟩ = some (.int .i64 0) := by simp [World.cell?, hx2]
  have hf0 : W2.frozen? ⟨w.heap.size, 0, none⟩ = false := by simp [World.frozen?, hx2]
  have hf1 : W2.frozen? ⟨w.heap.size, 1, none⟩ = false := by simp [World.frozen?, hx2]
  have hf2 : W2.frozen? ⟨w.heap.size, 2, none⟩ = false := by simp [World.frozen?, hx2]
  have g0 := fun o => (World.cell?_alloc_lt (o := o) W2 _ (World.block_lt_of_cell? _ _ hc0)).trans hc0
  have g1 := fun o => (World.cell?_alloc_lt (o := o) W2 _ (World.block_lt_of_cell? _ _ hc1)).trans hc1
  have g2 := fun o => (World.cell?_alloc_lt (o := o) W2 _ (World.block_lt_of_cell? _ _ hc2)).trans hc2
  have gf : ∀ (o : Obj) (j : Nat), (W2.alloc o).frozen? ⟨w.heap.size, j, none⟩ = false := fun o j => by
    have h := obj_below (below_alloc1 (Below.refl W2.heap.size W2) o) hx2 (obj_lt hx2)
    simp [World.frozen?, h]
  have gf0 := fun o => gf o 0
  have gf1 := fun o => gf o 1
  have gf2 := fun o => gf o 2
  have hlt := (Below.after HB.out hb2).size
  have HB2 := Lib.hid (Below.after HB.out hb2)
  clear hx2 hb2 gf
  go_wp2_with fail
  refine bodyPost_ret ?_ rfl ⟨rfl, ?_⟩
  · rw [results_cell_tmp rfl]
    go_simp
  · exact below_set (below_set (below_set (below_alloc1 HB2.out _) (Nat.le_refl _) _ _) (Nat.le_refl _) _ _) (Nat.le_refl _) _ _
set_option maxHeartbeats 3200000 in
set_option maxRecDepth 1000000 in
theorem PopE_some (bx bs b lo : Nat) (v : Value) (x0 x1 x2 : Int) (l : List (Int × Int × Int)) (w : World) (h : HpE bx w b lo v ((x0, x1, x2) :: l)) (hok : HeapOk ltE ((x0, x1, x2) :: l)) (hl : l.length ≤ 1000000) (hsl : SlxE w bx bs) (hnx : Ns v b bx) (hns : Ns v b bs) :
    Calls Tryz.prog 183 #[.pointer (some ⟨b, 0, none⟩)] w fun e w' => e = .returned (.tuple #[.agg #[.int .i64 x0, .int .i64 x1, .int .i64 x2], .bool true]) ∧ ∃ v' l', HpToE bx w w' b lo v v' l' ∧ l'.Perm l ∧ v'.ownBlock = v.ownBlock := by
  obtain ⟨A, c, rfl, hlc⟩ := h.2.1.shape
  obtain ⟨g, _, rfl, hlg, hgw, _, _, _, _⟩ := h.2.1.at_ tri_q 0 (by simp) (by omega)
  obtain ⟨m, hm⟩ : ∃ m, l.length = m := ⟨_, rfl⟩
  have hxl : ((x0, x1, x2) :: l).length = m + 1 := by simp [hm]
  rw [hxl] at h hlc
  have hgb : g ≠ b := h.2.2.2 g rfl
  have hbw := h.lt
  have b0 : (0 : Int) < (m : Int) + 1 := by omega
  have bm : (m : Int) < (m : Int) + 1 := by omega
  obtain ⟨W, hW⟩ : ∃ W, w.alloc (.cells #[.int .i64 0, .int .i64 0, .int .i64 0] 277) = W := ⟨_, rfl⟩
  have hB : Below w.heap.size w W := by rw [← hW]; exact below_alloc1 (Below.refl _ _) _
  have HH := Lib.hid (h.keep hB)
  have hz : W.heap.size = w.heap.size + 1 := by rw [← hW]; simp
  have hx := (show W.heap[w.heap.size]? = some (.cells #[.int .i64 0, .int .i64 0, .int .i64 0] 277 (0, 0)) by rw [← hW]; exact heap_alloc_new _ _)
  have HB := Lib.hid hB
  have HX := Lib.hid hx
  have HZ := Lib.hid hz
  have HOK := Lib.hid hok
  have HM := Lib.hid hm
  have HXL := Lib.hid hxl
  clear h hB hx hz hok hm hxl
  have hm64 : (m : Int) ≤ 9223372036854775807 := by have := HM.out; omega
  have hwr2 : wrap64 (m : Int) = (m : Int) := wrap64_id _ ⟨by omega, hm64⟩
  clear hm64
  go_enter Tryz.func183, Tryz.ntmps183
  go_wp2_with fail
  refine (PeekE_some bx b lo _ x0 x1 x2 l _ HH.out).mono ?_
  rintro e W2 ⟨he, hb2⟩
  subst he
  have H2 := Lib.hid (HH.out.keep hb2)
  have hx2 := obj_below hb2 HX.out (obj_lt HX.out)
  have HX2 := Lib.hid hx2
  have hs2 := hb2.size
  have HB2 := Lib.hid (Below.after HB.out hb2)
  have hc1 : W2.cell? ⟨b, 1, none⟩ = some (.slice (some ⟨g, 0, none⟩) (m + 1) c) := by have h1 := H2.out.1; simp [World.cell?, h1]
  have gc1 := fun o => (World.cell?_alloc_lt (o := o) W2 _ (World.block_lt_of_cell? _ _ hc1)).trans hc1
  clear hx2 hb2
  go_wp2_with fail
  obtain ⟨W3, hW3⟩ : ∃ W3, W2.alloc (.cells #[.int .i64 x0, .int .i64 x1, .int .i64 x2] 277) = W3 := ⟨_, rfl⟩
  have hB3 : Below W2.heap.size W2 W3 := by rw [← hW3]; exact below_alloc1 (Below.refl _ _) _
  have h3 := H2.out.keep hB3
  have hr3 := obj_below hB3 HX2.out (obj_lt HX2.out)
  have hx3 := (show W3.heap[W2.heap.size]? = some (.cells #[.int .i64 x0, .int .i64 x1, .int .i64 x2] 277 (0, 0)) by rw [← hW3]; exact heap_alloc_new _ _)
  try rw [hW3]
  obtain ⟨g', ⟨z0, z1, z2⟩, hg', _, _, hzl, hcz, hfz, _⟩ := h3.2.1.at_ tri_q m (by omega) (by omega)
  injection hg' with hg'
  injection hg' with hg'
  subst hg'
  obtain ⟨g', ⟨u0, u1, u2⟩, hg', _, _, hul, hcu, _, _⟩ := h3.2.1.at_ tri_q 0 (by omega) (by omega)
  injection hg' with hg'
  injection hg' with hg'
  subst hg'
  have hcz0 : W3.cell? ⟨g, m * 3, none⟩ = some (.int .i64 z0) := hcz 0 (by omega)
  have hcz1 : W3.cell? ⟨g, m * 3 + 1, none⟩ = some (.int .i64 z1) := hcz 1 (by omega)
  have hcz2 : W3.cell? ⟨g, m * 3 + 2, none⟩ = some (.int .i64 z2) := hcz 2 (by omega)
  have hcu0 : W3.cell? ⟨g, 0, none⟩ = some (.int .i64 u0) := hcu 0 (by omega)
  have hcu1 : W3.cell? ⟨g, 1, none⟩ = some (.int .i64 u1) := hcu 1 (by omega)
  have hcu2 : W3.cell? ⟨g, 2, none⟩ = some (.int .i64 u2) := hcu 2 (by omega)
  have hf0 := hfz 0
  have hf1 := hfz 1
  have hf2 := hfz 2
  have hc13 : W3.cell? ⟨b, 1, none⟩ = some (.slice (some ⟨g, 0, none⟩) (m + 1) c) := by have h1 := h3.1; simp [World.cell?, h1]
  have hfb : W3.frozen? ⟨b, 1, none⟩ = false := by have h1 := h3.1; simp [World.frozen?, h1]
  have H3 := Lib.hid h3
  have HR3 := Lib.hid hr3
  have HX3 := Lib.hid hx3
  have HB3 := Lib.hid (Below.after HB2.out hB3)
  have HZL := Lib.hid hzl
  have hbg : ¬ b = g := fun e => hgb e.symm
  have hgb' : ¬ g = b := hgb
  have hs3 := hB3.size
  clear hW hW3 hB3 h3 hr3 hx3 hcz hfz hcu hul hzl hc1 gc1
  go_region
  go_wp2_with fail
  clear hwr2 hcz0 hcz1 hcz2 hcu0 hcu1 hcu2 hf0 hf1 hf2 hc13 hfb
  have hH4 : HpE bx (((((W3.setCell ⟨g, 0, none⟩ (.int .i64 z0)).setCell ⟨g, 1, none⟩ (.int .i64 z1)).setCell ⟨g, 2, none⟩ (.int .i64 z2)).setCell ⟨b, 1, none⟩ (.slice (some ⟨g, 0, none⟩) m c)).drew) b lo (.slice (some ⟨g, 0, none⟩) m c) (popped ((x0, x1, x2) :: l) (z0, z1, z2)) := by
    have h5 := H3.out.2.1.store3 0 (by omega) (z0, z1, z2)
    have h6 := OwnF.takeE tri_q h5 (Nat.le_succ m) (by rw [List.length_set]; exact HXL.out) (by omega)
    refine ⟨set_blk (cs := [_, _]) (set_other (set_other (set_other H3.out.1 _ _ (Ne.symm hgb)) _ _ (Ne.symm hgb)) _ _ (Ne.symm hgb)) 1 _, ?_, H3.out.2.2.1, fun k hk => H3.out.2.2.2 k hk⟩
    unfold popped
    rw [HXL.out, Nat.add_sub_cancel]
    exact own_drew1 (OwnF.only h6 (only_set _ _ _ _) fun k hk e => by
      rw [show k = g by simpa [Value.ownBlock] using hk.symm] at e
      exact hgb e)
  have hon : Only (HpBE (.slice (some ⟨g, 0, none⟩) (m + 1) c) b) w (((((W3.setCell ⟨g, 0, none⟩ (.int .i64 z0)).setCell ⟨g, 1, none⟩ (.int .i64 z1)).setCell ⟨g, 2, none⟩ (.int .i64 z2)).setCell ⟨b, 1, none⟩ (.slice (some ⟨g, 0, none⟩) m c)).drew) :=
    (((((Only.of_below HB3.out).trans ((only_set _ g 0 _).mono fun k _ h => .inr (by rw [h]; rfl))).trans ((only_set _ g 1 _).mono fun k _ h => .inr (by rw [h]; rfl))).trans ((only_set _ g 2 _).mono fun k _ h => .inr (by rw [h]; rfl))).trans ((only_set _ b 1 _).mono fun k _ h => .inl h)).trans (Only.of_below (Below.refl _ _).drew)
  have hs4 : w.heap.size ≤ W2.heap.size := HB2.out.size
  have hx4 : (((((W3.setCell ⟨g, 0, none⟩ (.int .i64 z0)).setCell ⟨g, 1, none⟩ (.int .i64 z1)).setCell ⟨g, 2, none⟩ (.int .i64 z2)).setCell ⟨b, 1, none⟩ (.slice (some ⟨g, 0, none⟩) m c)).drew).heap[W2.heap.size]? = some (.cells #[.int .i64 x0, .int .i64 x1, .int .i64 x2] 277 (0, 0)) := set_other (set_other (set_other (set_other HX3.out _ _ (by omega)) _ _ (by omega)) _ _ (by omega)) _ _ (by omega)
  have hr4 : (((((W3.setCell ⟨g, 0, none⟩ (.int .i64 z0)).setCell ⟨g, 1, none⟩ (.int .i64 z1)).setCell ⟨g, 2, none⟩ (.int .i64 z2)).setCell ⟨b, 1, none⟩ (.slice (some ⟨g, 0, none⟩) m c)).drew).heap[w.heap.size]? = some (.cells #[.int .i64 0, .int .i64 0, .int .i64 0] 277 (0, 0)) := set_other (set_other (set_other (set_other HR3.out _ _ (by omega)) _ _ (by omega)) _ _ (by omega)) _ _ (by omega)
  have hml : (popped ((x0, x1, x2) :: l) (z0, z1, z2)).length = m := by rw [popped_length]; simp [HM.out]
  have hm6 : m ≤ 1000000 := by have := HM.out; omega
  have hdn := DownOk.pop HOK.out (z0, z1, z2)
  have hsl4 := hsl.only hon hnx hns
  refine (sinkE_calls bx bs b lo (some ⟨g, 0, none⟩) m c _ _ hH4 hml hdn hm6 hsl4 hnx hns).mono ?_
  rintro e W6 ⟨he, L, hH6, hok6, hpm, hon6⟩
  subst he
  have hnb : ∀ k, w.heap.size ≤ k → ¬ HpBE (.slice (some ⟨g, 0, none⟩) m c) b k := fun k hk h => by
    rcases h with h | h
    · omega
    · have : g = k := by simpa [OwnB, Value.ownBlock] using h
      omega
  have hx6 := hon6.obj hx4 (hnb _ hs4)
  have hr6 := hon6.obj hr4 (hnb _ (Nat.le_refl _))
  have hcx0 : W6.cell? ⟨W2.heap.size, 0, none⟩ = some (.int .i64 x0) := by simp [World.cell?, hx6]
  have hcx1 : W6.cell? ⟨W2.heap.size, 1, none⟩ = some (.int .i64 x1) := by simp [World.cell?, hx6]
  have hcx2 : W6.cell? ⟨W2.heap.size, 2, none⟩ = some (.int .i64 x2) := by simp [World.cell?, hx6]
  have hcr0 : W6.cell? ⟨w.heap.size, 0, none⟩ = some (.int .i64 0) := by simp [World.cell?, hr6]
  have hcr1 : W6.cell? ⟨w.heap.size, 1, none⟩ = some (.int .i64 0) := by simp [World.cell?, hr6]
  have hcr2 : W6.cell? ⟨w.heap.size, 2, none⟩ = some (.int .i64 0) := by simp [World.cell?, hr6]
  have hfr0 : W6.frozen? ⟨w.heap.size, 0, none⟩ = false := by simp [World.frozen?, hr6]
  have hfr1 : W6.frozen? ⟨w.heap.size, 1, none⟩ = false := by simp [World.frozen?, hr6]
  have hfr2 : W6.frozen? ⟨w.heap.size, 2, none⟩ = false := by simp [World.frozen?, hr6]
  have H6 := Lib.hid hH6
  have O6 := Lib.hid hok6
  have P6 := Lib.hid hpm
  have N6 := Lib.hid (hon.trans2E hon6 fun k _ h => h)
  clear hH4 hon hx4 hr4 hml hdn hH6 hok6 hpm hon6 hnb hx6 hr6 hsl4
  go_wp2_with fail
  refine bodyPost_ret ?_ rfl ⟨rfl, .slice (some ⟨g, 0, none⟩) m c, L, ⟨?_, O6.out, ?_, fun k hk => .inl hk⟩, ?_, rfl⟩
  · rw [results_cell_tmp rfl]
    go_simp
  · refine HpE.only H6.out (((only_set _ _ 0 _).trans (only_set _ _ 1 _)).trans (only_set _ _ 2 _)) (by omega) fun k hk h => ?_
    have : g = k := by simpa [Value.ownBlock] using hk
    omega
  · exact N6.out.trans2E (((only_set _ _ 0 _).trans (only_set _ _ 1 _)).trans (only_set _ _ 2 _)) fun k hk h => by omega
  · refine P6.out.trans (List.Perm.cons_inv (a := (x0, x1, x2)) ?_)
    exact popped_perm (by simp) (by rw [HXL.out, Nat.add_sub_cancel]; exact HZL.out)
end Go.Proofs.YticdmglondpgaaaGreat

/-! ## Heap5E: The heap of a selector's entries: New, of none. -/
namespace Go.Proofs.YticdmglondpgaaaGreat
open Go.RowKit
set_option linter.unusedVariables false
set_option maxRecDepth 100000
set_option linter.unusedSimpArgs false

set_option maxHeartbeats 3200000 in
theorem NewE_calls (bx : Nat) (w : World) :
    Calls Tryz.prog 177 #[.func (.func 178) #[] #[.pointer (some ⟨bx, 0, none⟩)], .slice none 0 0] w fun e w' => ∃ b, e = .returned (.pointer (some ⟨b, 0, none⟩)) ∧ w.heap.size ≤ b ∧ HpE bx w' b b (.slice none 0 0) [] ∧ Below w.heap.size w w' := by
  go_enter Tryz.func177, Tryz.ntmps177
  go_wp2_with fail
  obtain ⟨w1, hw⟩ : ∃ W, w.alloc (.cells #[.func (.func 178) #[] #[.pointer (some ⟨bx, 0, none⟩)], .slice none 0 0] 323) = W := ⟨_, rfl⟩
  rw [hw]
  have hH : HpE bx w1 w.heap.size w.heap.size (.slice none 0 0) [] := by
    refine ⟨by rw [← hw]; exact heap_alloc_new w _, OwnF.nil _ _ _, Nat.le_refl _, fun k hk => by simp [Value.ownBlock] at hk⟩
  have hb1 : Below w.heap.size w w1 := by rw [← hw]; exact below_alloc1 (Below.refl _ _) _
  have HH := Lib.hid hH
  clear hw hH
  go_loopg [13] 0 (fun kq v13 w' => kq = 0 ∧ v13 = .int .i64 0 ∧ w' = w1)
  case atStart => exact ⟨rfl, rfl, rfl⟩
  case round =>
    obtain ⟨rfl, rfl, rfl⟩ := hrel
    go_wp2_with fail
    go_ret
    exact ⟨_, rfl, Nat.le_refl _, HH.out, hb1⟩
end Go.Proofs.YticdmglondpgaaaGreat

/-! ## HeapR: The heap of things of two whole numbers (package heap, api.Result): the contract of Push, by a list that is a heap. Condition: the heap's blocks are as the word HpR says; no more than a million things. -/
namespace Go.Proofs.YticdmglondpgaaaGreat
open Go.RowKit
set_option linter.unusedVariables false
set_option maxRecDepth 100000
set_option linter.unusedSimpArgs false

def twoR (p : Int × Int) : List Value := [.int .i64 p.1, .int .i64 p.2]
theorem twoR_q (p : Int × Int) : (twoR p).length = 2 := rfl
theorem twoR_one (p : Int × Int) : ∀ u ∈ twoR p, u.oneCell' = true := by
  intro u hu
  simp [twoR] at hu
  rcases hu with rfl | rfl <;> rfl
def ltR (a b : Int × Int) : Bool := nearB a.1 a.2 b.1 b.2
theorem ltR_iff (a b : Int × Int) : ltR a b = true ↔ a.2 < b.2 ∨ (a.2 = b.2 ∧ a.1 < b.1) := by
  unfold ltR nearB orV cmpV
  rw [decide_eq_true_iff]
  repeat' split
  all_goals omega
theorem ltR_no (a b : Int × Int) : ltR a b = false ↔ ¬ (a.2 < b.2 ∨ (a.2 = b.2 ∧ a.1 < b.1)) := by
  rw [← ltR_iff, Bool.not_eq_true]
theorem ltR_wo : WO ltR := ⟨fun a b h => by rw [ltR_iff] at h; rw [ltR_no]; omega, fun a b c h1 h2 => by rw [ltR_no] at *; omega⟩
theorem infoR : (Tryz.prog.info? 90).map (fun i => (i.zero, i.size, i.bytes)) = some (some (.agg #[.int .i64 0, .int .i64 0]), 2, 16) := by kernel_rfl
def HpBR (v : Value) (b : Nat) (k : Nat) : Prop := k = b ∨ OwnB v k
theorem Only.trans2R {S T : Nat → Prop} {a b c : World} (h1 : Only S a b) (h2 : Only T b c) (h : ∀ k, k < a.heap.size → T k → S k) : Only S a c :=
  ⟨h2.os.trans h1.os, h2.tape.trans h1.tape, h2.output.trans h1.output, Nat.le_trans h1.size h2.size, fun k hk hs => (h2.block k (by have := h1.size; omega) fun ht => hs (h k hk ht)).trans (h1.block k hk hs)⟩
theorem Only.preR {S : Nat → Prop} {a W1 W w2 : World} (h1 : Below a.heap.size a W1) (hg : Only S W w2) (hb : Below W1.heap.size W1 W) : Only S a w2 := (Only.of_below (h1.trans (hb.mono h1.size))).trans hg
theorem at_preR {x v : Option Nat} {W1 W : World} (h : x = v ∨ x = some W.heap.size) (hb : Below W1.heap.size W1 W) : x = v ∨ ∃ k, x = some k ∧ W1.heap.size ≤ k := h.imp id fun h => ⟨_, h, hb.size⟩
end Go.Proofs.YticdmglondpgaaaGreat

/-! ## RevL: A list turned round by exchanges from both ends, in plain Lean. No condition. -/
namespace Go.Proofs.YticdmglondpgaaaGreat
set_option linter.unusedVariables false
set_option maxRecDepth 100000
section
variable {α : Type}
/-- k exchanges of n things are done. -/
def RevAt (n k : Nat) (l L : List α) : Prop := L.length = n ∧ ∀ i, i < n → L[i]? = if i < k ∨ n - 1 - k < i then l[n - 1 - i]? else l[i]?
theorem RevAt.start {n : Nat} (l : List α) (h : l.length = n) : RevAt n 0 l l := ⟨h, fun i hi => by rw [if_neg (by omega)]⟩
theorem RevAt.step {n k m : Nat} {l L : List α} {x y : α} (h : RevAt n k l L) (hl : l.length = n) (hkm : k < m) (hmn : m < n) (hm : n - 1 - k = m) (hx : L[k]? = some x) (hy : L[m]? = some y) : RevAt n (k + 1) l ((L.set k y).set m x) := by
  obtain ⟨h1, h2⟩ := h
  have hxk := h2 k (by omega)
  rw [if_neg (by omega), hx] at hxk
  have hym := h2 m (by omega)
  rw [if_neg (by omega), hy] at hym
  refine ⟨by simp [h1], fun i hi => ?_⟩
  have hg := swp_get (l := L) (i := k) (j := m) (k := i) (a := y) (b := x) (by omega) (by omega)
  unfold swp at hg
  rw [hg]
  by_cases e1 : i = m
  · rw [if_pos e1, if_pos (by omega), hxk, show n - 1 - i = k by omega]
  · rw [if_neg e1]
    by_cases e2 : i = k
    · rw [if_pos e2, if_pos (by omega), hym, show n - 1 - i = m by omega]
    · rw [if_neg e2, h2 i hi]
      by_cases e3 : i < k ∨ n - 1 - k < i
      · rw [if_pos e3, if_pos (by omega)]
      · rw [if_neg e3, if_neg (by omega)]
theorem RevAt.done {n k : Nat} {l L : List α} (h : RevAt n k l L) (hl : l.length = n) (hk : n ≤ 2 * k + 1) : L = l.reverse := by
  obtain ⟨h1, h2⟩ := h
  refine List.ext_getElem? fun i => ?_
  by_cases hi : i < n
  · rw [h2 i hi, List.getElem?_reverse (by omega), hl]
    by_cases e3 : i < k ∨ n - 1 - k < i
    · rw [if_pos e3]
    · rw [if_neg e3, show n - 1 - i = i by omega]
  · rw [List.getElem?_eq_none (by omega), List.getElem?_eq_none (by simp; omega)]
end
end Go.Proofs.YticdmglondpgaaaGreat

/-! ## SortI: The document's sort, in plain Lean: one is put behind the others, till all are. No condition beyond the order's. -/
namespace Go.Proofs.YticdmglondpgaaaGreat
set_option linter.unusedVariables false
set_option maxRecDepth 100000
section
variable {α : Type} {lt : α → α → Bool} {d : α}
theorem rev_ind {P : List α → Prop} (h0 : P []) (h1 : ∀ l x, P l → P (l ++ [x])) (l : List α) : P l := by
  have h : ∀ m : List α, P m.reverse := fun m => by
    induction m with
    | nil => exact h0
    | cons x m ih => rw [List.reverse_cons]; exact h1 _ _ ih
  have := h l.reverse
  rwa [List.reverse_reverse] at this
/-- Where x belongs: behind the last one of the first k that it isn't ahead of. -/
def posI (lt : α → α → Bool) (d x : α) (out : List α) : Nat → Nat
  | 0 => 0
  | k + 1 => if lt x (out.getD k d) = true then posI lt d x out k else k + 1
def insI (lt : α → α → Bool) (d x : α) (out : List α) : List α := out.take (posI lt d x out out.length) ++ [x] ++ out.drop (posI lt d x out out.length)
def sortI (lt : α → α → Bool) (d : α) (l : List α) : List α := l.foldl (fun out x => insI lt d x out) []
theorem posI_le (x : α) (out : List α) : ∀ k, posI lt d x out k ≤ k
  | 0 => Nat.le_refl _
  | k + 1 => by
    unfold posI
    split
    · have := posI_le x out k; omega
    · exact Nat.le_refl _
theorem posI_step {x : α} {out : List α} {k : Nat} (h : lt x (out.getD k d) = true) : posI lt d x out (k + 1) = posI lt d x out k := by rw [posI, if_pos h]
theorem posI_stop {x : α} {out : List α} {k : Nat} (h : lt x (out.getD k d) = false) : posI lt d x out (k + 1) = k + 1 := by rw [posI, if_neg (by rw [h]; exact Bool.false_ne_true)]
theorem insI_length (x : α) (out : List α) : (insI lt d x out).length = out.length + 1 := by
  have := posI_le (lt := lt) (d := d) x out out.length
  simp [insI]; omega
theorem insI_perm (x : α) (out : List α) : (insI lt d x out).Perm (x :: out) := by
  unfold insI
  rw [List.append_assoc]
  have h := List.perm_middle (a := x) (l₁ := out.take (posI lt d x out out.length)) (l₂ := out.drop (posI lt d x out out.length))
  rw [List.take_append_drop] at h
  exact h
theorem sortI_snoc (l : List α) (x : α) : sortI lt d (l ++ [x]) = insI lt d x (sortI lt d l) := by simp [sortI]
theorem sortI_perm (l : List α) : (sortI lt d l).Perm l := by
  refine rev_ind (P := fun l => (sortI lt d l).Perm l) (List.Perm.refl _) (fun l x ih => ?_) l
  rw [sortI_snoc]
  exact (insI_perm x _).trans ((ih.cons x).trans (List.perm_append_comm (l₁ := [x]) (l₂ := l)))
theorem sortI_length (l : List α) : (sortI lt d l).length = l.length := (sortI_perm l).length_eq
/-- In order: none of those behind one is ahead of it. -/
def Srt (lt : α → α → Bool) (l : List α) : Prop := l.Pairwise fun a b => lt b a = false
theorem posI_spec (hw : WO lt) {x : α} {out : List α} (hs : Srt lt out) : ∀ k, k ≤ out.length → (∀ a ∈ out.drop k, lt a x = false) →
    (∀ a ∈ out.take (posI lt d x out k), lt x a = false) ∧ (∀ a ∈ out.drop (posI lt d x out k), lt a x = false)
  | 0, _, h => ⟨fun a ha => by simp [posI] at ha, h⟩
  | k + 1, hk, h => by
    have hget : out[k]? = some (out.getD k d) := by simp [List.getD, show k < out.length by omega]
    cases hlt : lt x (out.getD k d) with
    | true =>
      rw [posI_step hlt]
      refine posI_spec hw hs k (by omega) fun a ha => ?_
      rw [List.drop_eq_getElem_cons (show k < out.length by omega)] at ha
      rcases List.mem_cons.1 ha with rfl | ha
      · have : out[k] = out.getD k d := by simp [List.getD, show k < out.length by omega]
        rw [this]; exact hw.asym _ _ hlt
      · exact h a ha
    | false =>
      rw [posI_stop hlt]
      refine ⟨fun a ha => ?_, h⟩
      obtain ⟨i, hi, rfl⟩ := List.getElem_of_mem ha
      rw [List.length_take] at hi
      have hik : i < out.length := by omega
      rw [List.getElem_take]
      by_cases e : i = k
      · subst e
        have : out[i] = out.getD i d := by simp [List.getD, hik]
        rw [this]; exact hlt
      · have h1 := List.pairwise_iff_getElem.1 hs i k hik (by omega) (by omega)
        have h2 : out[k] = out.getD k d := by simp [List.getD, show k < out.length by omega]
        rw [h2] at h1
        exact hw.trn _ _ _ hlt h1
theorem insI_srt (hw : WO lt) {x : α} {out : List α} (hs : Srt lt out) : Srt lt (insI lt d x out) := by
  obtain ⟨h1, h2⟩ := posI_spec (d := d) (x := x) hw hs out.length (Nat.le_refl _) fun a ha => by simp at ha
  have hpre : Srt lt (out.take (posI lt d x out out.length)) := List.Pairwise.sublist (List.take_sublist _ _) hs
  have hsuf : Srt lt (out.drop (posI lt d x out out.length)) := List.Pairwise.sublist (List.drop_sublist _ _) hs
  unfold insI Srt
  rw [List.append_assoc, List.pairwise_append, List.singleton_append, List.pairwise_cons]
  refine ⟨hpre, ⟨h2, hsuf⟩, fun a ha b hb => ?_⟩
  rcases List.mem_cons.1 hb with rfl | hb
  · exact h1 a ha
  · have h3 : Srt lt (out.take (posI lt d x out out.length) ++ out.drop (posI lt d x out out.length)) := by rw [List.take_append_drop]; exact hs
    exact (List.pairwise_append.1 h3).2.2 a ha b hb
theorem sortI_srt (hw : WO lt) (l : List α) : Srt lt (sortI lt d l) := by
  refine rev_ind (P := fun l => Srt lt (sortI lt d l)) List.Pairwise.nil (fun l x ih => ?_) l
  rw [sortI_snoc]; exact insI_srt hw ih
/-- An order by which alike ones are the same: then what is in order is told by what it holds. -/
theorem srt_uniq (hw : WO lt) (ha : ∀ a b, lt a b = false → lt b a = false → a = b) : ∀ {l m : List α}, Srt lt l → Srt lt m → l.Perm m → l = m
  | [], m, _, _, hp => by have := hp.length_eq; cases m <;> simp_all
  | x :: l, [], _, _, hp => by have := hp.length_eq; simp at this
  | x :: l, y :: m, hl, hm, hp => by
    have hxy : x = y := by
      have h1 : x ∈ y :: m := hp.subset (by simp)
      have h2 : y ∈ x :: l := hp.symm.subset (by simp)
      rcases List.mem_cons.1 h1 with h1 | h1
      · exact h1
      · rcases List.mem_cons.1 h2 with h2 | h2
        · exact h2.symm
        · exact ha _ _ ((List.pairwise_cons.1 hm).1 x h1) ((List.pairwise_cons.1 hl).1 y h2)
    subst hxy
    rw [srt_uniq hw ha (List.pairwise_cons.1 hl).2 (List.pairwise_cons.1 hm).2 (List.Perm.cons_inv hp)]
end
end Go.Proofs.YticdmglondpgaaaGreat
