
/-
  What the library's stable sort does, in plain Lean: pieces of a list that are put in order, merged, exchanged. Conditions: the order is one that goes on (WO); what stands ahead may stand ahead (B).
-/
import Derived.Test.YtacgkoclammggaaHeapMath
import Derived.Test.YtacgkoclammggaaSortI
namespace Go.Proofs.Ytacgkoclammggaa
set_option linter.unusedVariables false
set_option maxRecDepth 100000
section
variable {α : Type} {lt cl : α → α → Bool} {B : α → α → Prop}

theorem srt_app {u v : List α} : Srt lt (u ++ v) ↔ Srt lt u ∧ Srt lt v ∧ ∀ a ∈ u, ∀ b ∈ v, lt b a = false := by
  unfold Srt
  rw [List.pairwise_append]
theorem srt_cons {x : α} {v : List α} : Srt lt (x :: v) ↔ (∀ b ∈ v, lt b x = false) ∧ Srt lt v := by
  unfold Srt
  rw [List.pairwise_cons]
/-- One is put where it belongs. -/
theorem srt_ins (hw : WO lt) {T V : List α} {x : α} (h : Srt lt (T ++ V)) (hV : ∀ v ∈ V, lt x v = true) (hT : ∀ t, T.getLast? = some t → lt x t = false) : Srt lt (T ++ x :: V) := by
  obtain ⟨h1, h2, h3⟩ := srt_app.1 h
  refine srt_app.2 ⟨h1, srt_cons.2 ⟨fun b hb => hw.asym _ _ (hV b hb), h2⟩, fun a ha b hb => ?_⟩
  rcases List.mem_cons.1 hb with rfl | hb
  · rcases List.eq_nil_or_concat T with rfl | ⟨T', t, rfl⟩
    · cases ha
    · rw [List.concat_eq_append] at *
      have ht := hT t (by simp)
      rcases List.mem_append.1 ha with ha | ha
      · exact hw.trn _ _ _ ht ((srt_app.1 h1).2.2 a ha t (by simp))
      · simp at ha
        rw [ha]
        exact ht
  · exact h3 a ha b hb
/-- What may stand ahead does. -/
def Ahd (B : α → α → Prop) (u v : List α) : Prop := ∀ x ∈ u, ∀ y ∈ v, B x y
theorem Ahd.perm {u v u' v' : List α} (h : Ahd B u v) (h1 : u'.Perm u) (h2 : v'.Perm v) : Ahd B u' v' := fun x hx y hy => h x (h1.subset hx) y (h2.subset hy)
/-- Two sorted ones, parted at where one goes on with the other: both merges, side by side, are the merge. -/
theorem srt_cross (hw : WO lt) {L1 L2 R1 R2 Z1 Z2 : List α} (hL : Srt lt (L1 ++ L2)) (hR : Srt lt (R1 ++ R2)) (hz1 : Z1.Perm (L1 ++ R1)) (hz2 : Z2.Perm (L2 ++ R2)) (s1 : Srt lt Z1) (s2 : Srt lt Z2)
    (hd : L1 = [] ∨ R2 = [] ∨ ∃ a b, L1.getLast? = some a ∧ R2.head? = some b ∧ lt b a = false) (hu : L2 = [] ∨ R1 = [] ∨ ∃ a b, L2.head? = some a ∧ R1.getLast? = some b ∧ lt b a = true) : Srt lt (Z1 ++ Z2) := by
  obtain ⟨l1, l2, l3⟩ := srt_app.1 hL
  obtain ⟨r1, r2, r3⟩ := srt_app.1 hR
  have last : ∀ {T : List α} {t a : α}, Srt lt T → T.getLast? = some t → a ∈ T → lt t a = false := fun {T t a} hs ht ha => by
    rcases List.eq_nil_or_concat T with rfl | ⟨T', t', rfl⟩
    · cases ha
    · rw [List.concat_eq_append] at *
      simp at ht
      subst ht
      rcases List.mem_append.1 ha with ha | ha
      · exact (srt_app.1 hs).2.2 a ha _ (by simp)
      · simp at ha
        rw [ha]
        exact hw.irr _
  have head : ∀ {T : List α} {t a : α}, Srt lt T → T.head? = some t → a ∈ T → lt a t = false := fun {T t a} hs ht ha => by
    cases T with
    | nil => cases ha
    | cons t' T =>
      simp at ht
      subst ht
      rcases List.mem_cons.1 ha with rfl | ha
      · exact hw.irr _
      · exact (srt_cons.1 hs).1 a ha
  refine srt_app.2 ⟨s1, s2, fun u hu1 v hv1 => ?_⟩
  rcases List.mem_append.1 (hz1.subset hu1) with hu1 | hu1 <;> rcases List.mem_append.1 (hz2.subset hv1) with hv1 | hv1
  · exact l3 u hu1 v hv1
  · rcases hd with rfl | rfl | ⟨a, b, ha, hb, hab⟩
    · cases hu1
    · cases hv1
    · exact hw.trn _ _ _ (head r2 hb hv1) (hw.trn _ _ _ hab (last l1 ha hu1))
  · rcases hu with rfl | rfl | ⟨a, b, ha, hb, hab⟩
    · cases hv1
    · cases hu1
    · exact hw.trn _ _ _ (head l2 ha hv1) (hw.trn _ _ _ (hw.asym _ _ hab) (last r1 hb hu1))
  · exact r3 u hu1 v hv1
/-- Blocks, one behind the other, each in order, those ahead may be. -/
def Blks (lt : α → α → Bool) (B : α → α → Prop) (cs : List (List α)) : Prop := (∀ c ∈ cs, Srt lt c) ∧ cs.Pairwise (Ahd B)
theorem Blks.two {X Y : List (List α)} {c d z : List α} (h : Blks lt B (X ++ c :: d :: Y)) (hz : z.Perm (c ++ d)) (hs : Srt lt z) : Blks lt B (X ++ z :: Y) := by
  obtain ⟨h1, h2⟩ := h
  refine ⟨fun e he => ?_, ?_⟩
  · rcases List.mem_append.1 he with he | he
    · exact h1 e (by simp [he])
    · rcases List.mem_cons.1 he with rfl | he
      · exact hs
      · exact h1 e (by simp [he])
  · rw [List.pairwise_append] at h2 ⊢
    obtain ⟨p1, p2, p3⟩ := h2
    rw [List.pairwise_cons, List.pairwise_cons] at p2
    obtain ⟨q1, q2, q3⟩ := p2
    refine ⟨p1, List.pairwise_cons.2 ⟨fun e he x hx y hy => ?_, q3⟩, fun e he f hf x hx y hy => ?_⟩
    · rcases List.mem_append.1 (hz.subset hx) with hx | hx
      · exact q1 e (by simp [he]) x hx y hy
      · exact q2 e he x hx y hy
    · rcases List.mem_cons.1 hf with rfl | hf
      · rcases List.mem_append.1 (hz.subset hy) with hy | hy
        · exact p3 e he c (by simp) x hx y hy
        · exact p3 e he d (by simp) x hx y hy
      · exact p3 e he f (by simp [hf]) x hx y hy
theorem Blks.ahd {X Y : List (List α)} {c d : List α} (h : Blks lt B (X ++ c :: d :: Y)) : Ahd B c d := by
  have h2 := (List.pairwise_append.1 h.2).2.1
  rw [List.pairwise_cons] at h2
  exact h2.1 d (by simp)
theorem Blks.srt {X Y : List (List α)} {c : List α} (h : Blks lt B (X ++ c :: Y)) : Srt lt c := h.1 c (by simp)
theorem Blks.srt2 {X Y : List (List α)} {c d : List α} (h : Blks lt B (X ++ c :: d :: Y)) : Srt lt d := h.1 d (by simp)
/-- The first pass: a piece is put in order. -/
theorem Blks.one {X : List (List α)} {c z r : List α} (h : Blks lt B X) (ha : ∀ e ∈ X, Ahd B e (c ++ r)) (hz : z.Perm c) (hs : Srt lt z) : Blks lt B (X ++ [z]) := by
  refine ⟨fun e he => ?_, ?_⟩
  · rcases List.mem_append.1 he with he | he
    · exact h.1 e he
    · simp at he
      rw [he]
      exact hs
  · rw [List.pairwise_append]
    refine ⟨h.2, by simp, fun e he f hf x hx y hy => ?_⟩
    simp at hf
    subst hf
    exact ha e he x hx y (List.mem_append_left _ (hz.subset hy))
theorem flat_len {k : Nat} : ∀ {cs : List (List α)}, (∀ c ∈ cs, c.length = k) → cs.flatten.length = cs.length * k
  | [], _ => by simp
  | c :: cs, h => by
    rw [List.flatten_cons, List.length_append, h c (by simp), flat_len fun d hd => h d (by simp [hd]), List.length_cons, Nat.succ_mul, Nat.add_comm]
end
end Go.Proofs.Ytacgkoclammggaa
