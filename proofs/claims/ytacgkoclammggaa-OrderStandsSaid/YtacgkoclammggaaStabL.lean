
/-
  The merge's searches, in plain Lean: where one belongs in a sorted piece. Condition: the order is one that goes on (WO).
-/
import Derived.Test.YtacgkoclammggaaStab
namespace Go.Proofs.Ytacgkoclammggaa
set_option linter.unusedVariables false
set_option maxRecDepth 100000
section
variable {α : Type} {lt : α → α → Bool}
theorem srt_mid (hw : WO lt) {T V : List α} {x : α} (h : Srt lt (T ++ V)) (hT : T = [] ∨ ∃ t, T.getLast? = some t ∧ lt x t = false) (hV : V = [] ∨ ∃ v, V.head? = some v ∧ lt v x = false) : Srt lt (T ++ x :: V) := by
  obtain ⟨h1, h2, h3⟩ := srt_app.1 h
  refine srt_app.2 ⟨h1, srt_cons.2 ⟨fun b hb => ?_, h2⟩, fun a ha b hb => ?_⟩
  · rcases hV with rfl | ⟨v, hv, hvx⟩
    · cases hb
    · cases V with
      | nil => cases hb
      | cons v' V =>
        simp at hv
        subst hv
        rcases List.mem_cons.1 hb with rfl | hb
        · exact hvx
        · exact hw.trn _ _ _ ((srt_cons.1 h2).1 b hb) hvx
  · rcases List.mem_cons.1 hb with rfl | hb
    · rcases hT with rfl | ⟨t, ht, hxt⟩
      · cases ha
      · rcases List.eq_nil_or_concat T with rfl | ⟨T', t', rfl⟩
        · cases ha
        · rw [List.concat_eq_append] at *
          simp at ht
          subst ht
          rcases List.mem_append.1 ha with ha | ha
          · exact hw.trn _ _ _ hxt ((srt_app.1 h1).2.2 a ha _ (by simp))
          · simp at ha
            rw [ha]
            exact hxt
    · exact h3 a ha b hb
/-- p of the ones of R are known to come ahead, those from q on not to. -/
def Lo (R : List α) (f : α → Bool) (p : Nat) : Prop := p = 0 ∨ ∃ y, R[p - 1]? = some y ∧ f y = true
def Hi (R : List α) (f : α → Bool) (q : Nat) : Prop := ∀ y, R[q]? = some y → f y = false
theorem Lo.last {R : List α} {f : α → Bool} {p : Nat} (h : Lo R f p) (hp : p ≤ R.length) : R.take p = [] ∨ ∃ t, (R.take p).getLast? = some t ∧ f t = true := by
  rcases h with rfl | ⟨y, hy, hf⟩
  · exact .inl (by simp)
  · cases p with
    | zero => exact .inl (by simp)
    | succ p =>
      refine .inr ⟨y, ?_, hf⟩
      simp at hy
      rw [List.take_add_one, hy]
      simp
theorem Hi.head {R : List α} {f : α → Bool} {p : Nat} (h : Hi R f p) : R.drop p = [] ∨ ∃ v, (R.drop p).head? = some v ∧ f v = false := by
  rcases Nat.lt_or_ge p R.length with hp | hp
  · exact .inr ⟨R[p], by rw [List.drop_eq_getElem_cons hp]; rfl, h _ (List.getElem?_eq_getElem hp)⟩
  · exact .inl (List.drop_of_length_le hp)
end
/-- Both sides, parted where the search ends. -/
theorem sym_split {lt : Int × Int → Int × Int → Bool} {L R : List (Int × Int)} {a m b mid nn s0 r0 s e l r : Nat} (hl : L.length = l) (hr : R.length = r) (hm : a + l = m) (hb : m + r = b) (hnn : mid + m = nn) (hd2 : a + b ≤ 2 * mid + 1) (he : nn - s = e)
    (h0 : (mid < m ∧ s0 = nn - b ∧ r0 = mid) ∨ (¬ mid < m ∧ s0 = a ∧ r0 = m)) (has : a ≤ s0) (hr0 : r0 ≤ m) (h1 : s0 ≤ s) (h2 : s ≤ r0) (h3 : m + r0 ≤ nn) (h4 : nn ≤ b + s0)
    (hlo : s = s0 ∨ (s0 < s ∧ ∃ u v, R[nn - s - m]? = some u ∧ L[s - 1 - a]? = some v ∧ lt u v = false)) (hhi : s = r0 ∨ (s < r0 ∧ ∃ u v, R[nn - 1 - s - m]? = some u ∧ L[s - a]? = some v ∧ lt u v = true)) :
    s ≤ m ∧ m ≤ e ∧ e ≤ b ∧ s + e = mid + m ∧ a ≤ s ∧ ∃ L1 L2 R1 R2, L = L1 ++ L2 ∧ R = R1 ++ R2 ∧ a + L1.length = s ∧ s + L2.length = m ∧ m + R1.length = e ∧ e + R2.length = b ∧
      (L1 = [] ∨ R2 = [] ∨ ∃ u v, L1.getLast? = some u ∧ R2.head? = some v ∧ lt v u = false) ∧ (L2 = [] ∨ R1 = [] ∨ ∃ u v, L2.head? = some u ∧ R1.getLast? = some v ∧ lt v u = true) := by
  have hsm : s ≤ m := by omega
  have hme : m ≤ e := by omega
  have heb : e ≤ b := by omega
  refine ⟨hsm, hme, heb, by omega, by omega, L.take (s - a), L.drop (s - a), R.take (e - m), R.drop (e - m), (List.take_append_drop _ _).symm, (List.take_append_drop _ _).symm, by rw [List.length_take, hl]; omega, by rw [List.length_drop, hl]; omega, by rw [List.length_take, hr]; omega, by rw [List.length_drop, hr]; omega, ?_, ?_⟩
  · rcases hlo with h5 | ⟨h5, u, v, h6, h7, h8⟩
    · rcases h0 with ⟨_, h9, _⟩ | ⟨_, h9, _⟩
      · exact .inr (.inl (List.length_eq_zero_iff.1 (by rw [List.length_drop, hr]; omega)))
      · exact .inl (List.length_eq_zero_iff.1 (by rw [List.length_take, hl]; omega))
    · refine .inr (.inr ⟨v, u, ?_, ?_, h8⟩)
      · rw [List.getLast?_eq_getElem?, List.length_take, hl, Nat.min_eq_left (by omega), List.getElem?_take_of_lt (by omega), ← h7]
        congr 1
        omega
      · rw [List.head?_drop, ← h6, he]
  · rcases hhi with h5 | ⟨h5, u, v, h6, h7, h8⟩
    · rcases h0 with ⟨_, _, h9⟩ | ⟨_, _, h9⟩
      · exact .inr (.inl (List.length_eq_zero_iff.1 (by rw [List.length_take, hr]; omega)))
      · exact .inl (List.length_eq_zero_iff.1 (by rw [List.length_drop, hl]; omega))
    · refine .inr (.inr ⟨v, u, ?_, ?_, h8⟩)
      · rw [List.head?_drop, ← h7]
      · rw [List.getLast?_eq_getElem?, List.length_take, hr, Nat.min_eq_left (by omega), List.getElem?_take_of_lt (by omega), ← h6]
        congr 1
        omega
end Go.Proofs.Ytacgkoclammggaa
