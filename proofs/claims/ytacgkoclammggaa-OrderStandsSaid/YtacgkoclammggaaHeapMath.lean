
/-
  A heap as a list: sifting up and down, in plain Lean. Condition: the order is one that goes on (WO).
-/
import Derived.Test.YtacgkoclammggaaLib
namespace Go.Proofs.Ytacgkoclammggaa
set_option linter.unusedVariables false
set_option maxRecDepth 100000
set_option linter.unusedSimpArgs false

/-- An order by which of some none is first (or some are alike). -/
structure WO {α : Type} (lt : α → α → Bool) : Prop where
  asym : ∀ a b, lt a b = true → lt b a = false
  trn : ∀ a b c, lt a b = false → lt b c = false → lt a c = false
theorem WO.irr {α : Type} {lt : α → α → Bool} (h : WO lt) (a : α) : lt a a = false := by
  cases h1 : lt a a
  · rfl
  · have := h.asym a a h1
    rw [h1] at this
    exact this
variable {α : Type} {lt : α → α → Bool}
def HeapOk (lt : α → α → Bool) (l : List α) : Prop := ∀ i a b, 0 < i → l[i]? = some a → l[(i - 1) / 2]? = some b → lt a b = false
def UpOk (lt : α → α → Bool) (l : List α) (k : Nat) : Prop :=
  (∀ i a b, 0 < i → i ≠ k → l[i]? = some a → l[(i - 1) / 2]? = some b → lt a b = false) ∧ (∀ i a b, 0 < k → 0 < i → (i - 1) / 2 = k → l[i]? = some a → l[(k - 1) / 2]? = some b → lt a b = false)
def DownOk (lt : α → α → Bool) (l : List α) (k : Nat) : Prop :=
  (∀ i a b, 0 < i → (i - 1) / 2 ≠ k → l[i]? = some a → l[(i - 1) / 2]? = some b → lt a b = false) ∧ (∀ i a b, 0 < k → 0 < i → (i - 1) / 2 = k → l[i]? = some a → l[(k - 1) / 2]? = some b → lt a b = false)
def swp (l : List α) (i j : Nat) (a b : α) : List α := (l.set i a).set j b
theorem swp_length (l : List α) (i j : Nat) (a b : α) : (swp l i j a b).length = l.length := by simp [swp]
theorem swp_get {l : List α} {i j k : Nat} {a b : α} (hi : i < l.length) (hj : j < l.length) : (swp l i j a b)[k]? = if k = j then some b else if k = i then some a else l[k]? := by
  unfold swp
  by_cases h1 : k = j
  · subst h1; simp [hj]
  · by_cases h2 : k = i
    · subst h2; simp [h1, hi, List.getElem?_set, Ne.symm h1]
    · simp [h1, h2, List.getElem?_set, Ne.symm h1, Ne.symm h2]
theorem swp_perm {l : List α} {i j : Nat} {a b : α} (hi : l[i]? = some a) (hj : l[j]? = some b) : (swp l i j b a).Perm l := by
  obtain ⟨h1, rfl⟩ := List.getElem?_eq_some_iff.1 hi
  obtain ⟨h2, rfl⟩ := List.getElem?_eq_some_iff.1 hj
  exact List.set_set_perm h1 h2
theorem get_lt {l : List α} {i : Nat} {a : α} (h : l[i]? = some a) : i < l.length := (List.getElem?_eq_some_iff.1 h).1
theorem UpOk.push {l : List α} (h : HeapOk lt l) (x : α) : UpOk lt (l ++ [x]) l.length := by
  refine ⟨fun i a b h0 hk ha hb => ?_, fun i a b h0 h1 hp ha hb => ?_⟩
  · have hi := get_lt ha
    simp at hi
    rw [List.getElem?_append_left (by omega)] at ha hb
    exact h i a b h0 ha hb
  · have hi := get_lt ha
    simp at hi
    omega
theorem UpOk.stop {l : List α} {k : Nat} (h : UpOk lt l k) (hs : k = 0 ∨ ∀ a b, l[k]? = some a → l[(k - 1) / 2]? = some b → lt a b = false) : HeapOk lt l := fun i a b h0 ha hb => by
  by_cases hk : i = k
  · subst hk
    rcases hs with hs | hs
    · omega
    · exact hs a b ha hb
  · exact h.1 i a b h0 hk ha hb
theorem UpOk.swap (hw : WO lt) {l : List α} {k : Nat} {a b : α} (h : UpOk lt l k) (hk : 0 < k) (ha : l[k]? = some a) (hb : l[(k - 1) / 2]? = some b) (hlt : lt a b = true) : UpOk lt (swp l k ((k - 1) / 2) b a) ((k - 1) / 2) := by
  have h1 := get_lt ha
  have h2 := get_lt hb
  refine ⟨fun i x y h0 hi hx hy => ?_, fun i x y h0 hi0 hp hx hy => ?_⟩
  · rw [swp_get h1 h2] at hx hy
    rw [if_neg hi] at hx
    by_cases hik : i = k
    · subst hik
      rw [if_pos rfl] at hx hy
      injection hx with hx
      injection hy with hy
      subst hx hy
      exact hw.asym _ _ hlt
    · rw [if_neg hik] at hx
      by_cases hpu : (i - 1) / 2 = (k - 1) / 2
      · rw [if_pos hpu] at hy
        injection hy with hy
        subst hy
        have h3 := h.1 i x b h0 hik hx (by rw [hpu]; exact hb)
        exact hw.trn x b _ h3 (hw.asym _ _ hlt)
      · rw [if_neg hpu] at hy
        by_cases hpk : (i - 1) / 2 = k
        · rw [if_pos hpk] at hy
          injection hy with hy
          subst hy
          exact h.2 i x _ hk h0 hpk hx hb
        · rw [if_neg hpk] at hy
          exact h.1 i x y h0 hik hx hy
  · rw [swp_get h1 h2] at hx hy
    rw [if_neg (show ¬ ((k - 1) / 2 - 1) / 2 = (k - 1) / 2 by omega), if_neg (show ¬ ((k - 1) / 2 - 1) / 2 = k by omega)] at hy
    have h3 := h.1 ((k - 1) / 2) b y h0 (by omega) hb hy
    rw [if_neg (show ¬ i = (k - 1) / 2 by omega)] at hx
    by_cases hik : i = k
    · rw [if_pos hik] at hx
      injection hx with hx
      subst hx
      exact h3
    · rw [if_neg hik] at hx
      exact hw.trn x b y (h.1 i x b hi0 hik hx (by rw [hp]; exact hb)) h3
theorem HeapOk.least (hw : WO lt) {l : List α} {x : α} (h : HeapOk lt l) (hx : l[0]? = some x) : ∀ (n i : Nat) (a : α), i ≤ n → l[i]? = some a → lt a x = false
  | n, 0, a, _, ha => by rw [hx] at ha; injection ha with ha; subst ha; exact hw.irr _
  | 0, i + 1, a, hi, ha => by omega
  | n + 1, i + 1, a, hi, ha => by
    have hl := get_lt ha
    have hp : (i + 1 - 1) / 2 < l.length := by omega
    exact hw.trn _ _ _ (h (i + 1) a _ (by omega) ha (List.getElem?_eq_getElem hp)) (HeapOk.least hw h hx n ((i + 1 - 1) / 2) _ (by omega) (List.getElem?_eq_getElem hp))
theorem HeapOk.first (hw : WO lt) {l : List α} {x : α} (h : HeapOk lt l) (hx : l[0]? = some x) {a : α} (ha : a ∈ l) : lt a x = false := by
  obtain ⟨i, hi, rfl⟩ := List.getElem_of_mem ha
  exact h.least hw hx i i _ (Nat.le_refl _) (List.getElem?_eq_getElem hi)
/-- what Pop leaves to be sunk: the last one on top, one less. -/
def popped (l : List α) (z : α) : List α := (l.set 0 z).take (l.length - 1)
theorem popped_get {l : List α} {z : α} {i : Nat} (h : i < l.length - 1) : (popped l z)[i]? = if i = 0 then some z else l[i]? := by
  unfold popped
  rw [List.getElem?_take_of_lt h]
  by_cases h0 : i = 0
  · subst h0; rw [if_pos rfl, List.getElem?_set_self (by omega)]
  · rw [if_neg h0, List.getElem?_set_ne (Ne.symm h0)]
theorem popped_length (l : List α) (z : α) : (popped l z).length = l.length - 1 := by simp [popped]
theorem DownOk.pop {l : List α} (h : HeapOk lt l) (z : α) : DownOk lt (popped l z) 0 := by
  refine ⟨fun i a b h0 hp ha hb => ?_, fun i a b h0 => absurd h0 (Nat.lt_irrefl 0)⟩
  have hi := get_lt ha
  rw [popped_length] at hi
  rw [popped_get (by omega), if_neg (by omega)] at ha
  rw [popped_get (by omega), if_neg hp] at hb
  exact h i a b h0 ha hb
theorem popped_perm {l : List α} {x z : α} (hx : l[0]? = some x) (hz : l[l.length - 1]? = some z) : (x :: popped l z).Perm l := by
  cases l with
  | nil => simp at hx
  | cons y t =>
    simp at hx
    subst hx
    unfold popped
    rcases List.eq_nil_or_concat t with rfl | ⟨t', z', rfl⟩
    · simp
    · simp at hz
      subst hz
      simp
      exact (List.perm_append_comm (l₁ := [z']) (l₂ := t')).trans (List.Perm.refl _)
theorem DownOk.stop {l : List α} {k : Nat} (h : DownOk lt l k) (hs : ∀ i a b, 0 < i → (i - 1) / 2 = k → l[i]? = some a → l[k]? = some b → lt a b = false) : HeapOk lt l := fun i a b h0 ha hb => by
  by_cases hk : (i - 1) / 2 = k
  · exact hs i a b h0 hk ha (by rw [← hk]; exact hb)
  · exact h.1 i a b h0 hk ha hb
theorem DownOk.swap (hw : WO lt) {l : List α} {k j : Nat} {a b : α} (h : DownOk lt l k) (hj0 : 0 < j) (hj : (j - 1) / 2 = k) (ha : l[k]? = some a) (hb : l[j]? = some b) (hlt : lt b a = true)
    (ho : ∀ i x, 0 < i → (i - 1) / 2 = k → l[i]? = some x → lt x b = false) : DownOk lt (swp l k j b a) j := by
  have h1 := get_lt ha
  have h2 := get_lt hb
  refine ⟨fun i x y h0 hp hx hy => ?_, fun i x y _ hi0 hp hx hy => ?_⟩
  · rw [swp_get h1 h2] at hx hy
    rw [if_neg hp] at hy
    by_cases hpk : (i - 1) / 2 = k
    · rw [if_pos hpk] at hy
      injection hy with hy
      subst hy
      by_cases hij : i = j
      · rw [if_pos hij] at hx
        injection hx with hx
        subst hx
        exact hw.asym _ _ hlt
      · rw [if_neg hij, if_neg (show ¬ i = k by omega)] at hx
        exact ho i x h0 hpk hx
    · rw [if_neg hpk] at hy
      rw [if_neg (show ¬ i = j by intro e; rw [e] at hpk; exact hpk hj)] at hx
      by_cases hik : i = k
      · subst hik
        rw [if_pos rfl] at hx
        injection hx with hx
        subst hx
        exact h.2 j _ y h0 hj0 hj hb hy
      · rw [if_neg hik] at hx
        exact h.1 i x y h0 hpk hx hy
  · rw [swp_get h1 h2] at hx hy
    rw [hj] at hy
    rw [if_neg (show ¬ k = j by omega), if_pos rfl] at hy
    injection hy with hy
    subst hy
    rw [if_neg (show ¬ i = j by omega), if_neg (show ¬ i = k by omega)] at hx
    exact h.1 i x b hi0 (by omega) hx (by rw [hp]; exact hb)
end Go.Proofs.Ytacgkoclammggaa
