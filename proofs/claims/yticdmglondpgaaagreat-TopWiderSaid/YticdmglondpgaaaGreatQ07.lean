/-
  Texts on the program, part 7: Sl, KeepL, KeepE.
-/
import Derived.RangeFuncNested
import Derived.Test.YticdmglondpgaaaGreatQ03

/-! ## Sl: Where a selector lies, and how it goes on. No condition: plain definitions and lemmas. -/
namespace Go.Proofs.YticdmglondpgaaaGreat
open Go.RowKit
set_option linter.unusedVariables false
set_option maxRecDepth 100000

/-- The selector's block, the variable that its closure reads, its heap's block, the heap's row. -/
structure Sl where
  bs : Nat
  bx : Nat
  b : Nat
  v : Value
/-- What the selector's calls may change. -/
def SlB (s : Sl) (k : Nat) : Prop := k = s.bs ∨ k = s.b ∨ OwnB s.v k
/-- The same selector: its row is the same one, or new. -/
def SlTo (s s' : Sl) (n : Nat) : Prop := s'.bs = s.bs ∧ s'.bx = s.bx ∧ s'.b = s.b ∧ ∀ k, s'.v.ownBlock = some k → s.v.ownBlock = some k ∨ n ≤ k
theorem SlTo.refl (s : Sl) (n : Nat) : SlTo s s n := ⟨rfl, rfl, rfl, fun _ h => .inl h⟩
theorem SlTo.trans {s t u : Sl} {n m : Nat} (h : SlTo s t n) (k : SlTo t u m) (hn : n ≤ m) : SlTo s u n := by
  obtain ⟨h1, h2, h3, h4⟩ := h
  obtain ⟨k1, k2, k3, k4⟩ := k
  refine ⟨k1.trans h1, k2.trans h2, k3.trans h3, fun k hk => ?_⟩
  rcases k4 k hk with h | h
  · exact h4 k h
  · exact .inr (by omega)
theorem SlTo.mem {s t : Sl} {n k : Nat} (h : SlTo s t n) (hk : k < n) (hb : SlB t k) : SlB s k := by
  obtain ⟨h1, h2, h3, h4⟩ := h
  rcases hb with hb | hb | hb
  · exact .inl (hb.trans h1)
  · exact .inr (.inl (hb.trans h3))
  · exact .inr (.inr ((h4 k hb).resolve_right (by omega)))
/-- What is changed of the selector as it was, and as it is. -/
theorem Only.sl {s t : Sl} {a b c : World} (h1 : Only (SlB s) a b) (h2 : Only (SlB t) b c) (h : SlTo s t a.heap.size) : Only (SlB s) a c :=
  ⟨h2.os.trans h1.os, h2.tape.trans h1.tape, h2.output.trans h1.output, Nat.le_trans h1.size h2.size, fun k hk hs => (h2.block k (by have := h1.size; omega) fun ht => hs (h.mem hk ht)).trans (h1.block k hk hs)⟩
/-- What an offer makes of what is kept: the last one is on top. -/
def OffR (ah : Int × Int × Int → Int × Int × Int → Bool) (most : Int) (x : Int × Int × Int) (L L' : List (Int × Int × Int)) (ok : Bool) : Prop :=
  ((L.length : Int) < most ∧ ok = true ∧ L'.Perm (x :: L)) ∨ (¬ (L.length : Int) < most ∧ ((L = [] ∧ ok = false ∧ L' = L) ∨ ∃ z r, L = z :: r ∧ ((ah x z = false ∧ ok = false ∧ L' = L) ∨ (ah x z = true ∧ ok = true ∧ L'.Perm (x :: r)))))
theorem only_putObj (W : World) (b : Nat) (o : Obj) : Only (fun k => k = b) W (W.putObj b o) := ⟨rfl, rfl, rfl, by simp, fun k _ hk => World.putObj_heap_other hk⟩
end Go.Proofs.YticdmglondpgaaaGreat

/-! ## KeepL: What a selector keeps, in plain Lean: the first few of all in order. Conditions: the order's. -/
namespace Go.Proofs.YticdmglondpgaaaGreat
set_option linter.unusedVariables false
set_option maxRecDepth 100000

/-- Kept are the first ones of those that were offered, in order. -/
def Keep (ah : Int × Int × Int → Int × Int × Int → Bool) (most : Int) (es L : List (Int × Int × Int)) : Prop := ∃ T, T.Perm es ∧ Srt ah T ∧ L.Perm (T.take most.toNat)
theorem Keep.nil (ah : Int × Int × Int → Int × Int × Int → Bool) (most : Int) : Keep ah most [] [] := ⟨[], List.Perm.refl _, List.Pairwise.nil, by simp⟩
section
variable {ah : Int × Int × Int → Int × Int × Int → Bool} {most : Int} {es L L' : List (Int × Int × Int)} {x : Int × Int × Int} {ok : Bool}
theorem Keep.perm (h : Keep ah most es L) (hp : L'.Perm L) : Keep ah most es L' := by
  obtain ⟨T, h1, h2, h3⟩ := h
  exact ⟨T, h1, h2, hp.trans h3⟩
theorem Keep.length (h : Keep ah most es L) : L.length = min most.toNat es.length := by
  obtain ⟨T, h1, h2, h3⟩ := h
  rw [h3.length_eq, List.length_take, h1.length_eq]
theorem Keep.sub (h : Keep ah most es L) : ∀ a ∈ L, a ∈ es := fun a ha => by
  obtain ⟨T, h1, h2, h3⟩ := h
  exact h1.subset (List.mem_of_mem_take (h3.subset ha))
theorem Keep.step (hw : WO ah) (h : Keep ah most es L) (htop : ∀ z r, L = z :: r → ∀ a ∈ L, ah z a = false) (ho : OffR ah most x L L' ok) : Keep ah most (es ++ [x]) L' := by
  have hlen := h.length
  obtain ⟨T, hp, hs, hL⟩ := h
  obtain ⟨m, hm⟩ : ∃ m, most.toNat = m := ⟨_, rfl⟩
  rw [hm] at hL hlen
  have hTl := hp.length_eq
  have hcomm : ∀ l : List (Int × Int × Int), (x :: l).Perm (l ++ [x]) := fun l => List.perm_append_comm (l₁ := [x]) (l₂ := l)
  rcases ho with ⟨hlt, _, hp'⟩ | ⟨hge, ⟨rfl, _, rfl⟩ | ⟨z, r, rfl, ⟨hx, _, rfl⟩ | ⟨hx, _, hp'⟩⟩⟩
  · refine ⟨sortI ah (0, 0, 0) (es ++ [x]), sortI_perm _, sortI_srt hw _, ?_⟩
    rw [hm, List.take_of_length_le (by rw [sortI_length]; simp; omega)]
    rw [List.take_of_length_le (by omega)] at hL
    exact hp'.trans (((hL.trans hp).cons x).trans ((hcomm es).trans (sortI_perm _).symm))
  · refine ⟨sortI ah (0, 0, 0) (es ++ [x]), sortI_perm _, sortI_srt hw _, ?_⟩
    have : m = 0 := by simp at hge; omega
    rw [hm, this]
    simp
  all_goals
    have hzl : (z :: r).length = m := by simp at hge hlen ⊢; omega
    have htl : (T.take m).length = m := by rw [← hL.length_eq]; exact hzl
    have hpre : Srt ah (T.take m) := List.Pairwise.sublist (List.take_sublist _ _) hs
    have hsuf : Srt ah (T.drop m) := List.Pairwise.sublist (List.drop_sublist _ _) hs
    have hcr : ∀ a ∈ T.take m, ∀ b ∈ T.drop m, ah b a = false := by
      have h3 : Srt ah (T.take m ++ T.drop m) := by rw [List.take_append_drop]; exact hs
      exact (List.pairwise_append.1 h3).2.2
    have hzt : ∀ a ∈ T.take m, ah z a = false := fun a ha => htop z r rfl a (hL.symm.subset ha)
    have hzm : z ∈ T.take m := hL.subset (by simp)
  · refine ⟨T.take m ++ sortI ah (0, 0, 0) (x :: T.drop m), ?_, ?_, ?_⟩
    · refine (List.Perm.append_left _ (sortI_perm _)).trans ((List.perm_middle (a := x) (l₁ := T.take m) (l₂ := T.drop m)).trans ?_)
      rw [List.take_append_drop]
      exact (hp.cons x).trans (hcomm es)
    · unfold Srt
      rw [List.pairwise_append]
      refine ⟨hpre, sortI_srt hw _, fun a ha b hb => ?_⟩
      rcases List.mem_cons.1 ((sortI_perm _).subset hb) with rfl | hb
      · exact hw.trn _ _ _ hx (hzt a ha)
      · exact hcr a ha b hb
    · rw [hm, List.take_left' htl]
      exact hL
  · have hzx : ah z x = false := hw.asym _ _ hx
    have hR : (sortI ah (0, 0, 0) (x :: r)).length = m := by rw [sortI_length]; simpa using hzl
    have hrT : ∀ a ∈ r, a ∈ T.take m := fun a ha => hL.subset (List.mem_cons_of_mem _ ha)
    refine ⟨sortI ah (0, 0, 0) (x :: r) ++ (z :: T.drop m), ?_, ?_, ?_⟩
    · refine (List.Perm.append_right _ (sortI_perm _)).trans ?_
      have h1 : (x :: r ++ z :: T.drop m).Perm (x :: (z :: r ++ T.drop m)) := (List.perm_middle (a := z) (l₁ := r) (l₂ := T.drop m)).cons x
      have h2 : (z :: r ++ T.drop m).Perm T := by
        have := List.Perm.append_right (T.drop m) hL
        rwa [List.take_append_drop] at this
      exact h1.trans (((h2.trans hp).cons x).trans (hcomm es))
    · unfold Srt
      rw [List.pairwise_append, List.pairwise_cons]
      refine ⟨sortI_srt hw _, ⟨fun b hb => hcr z hzm b hb, hsuf⟩, fun a ha b hb => ?_⟩
      rcases List.mem_cons.1 ((sortI_perm _).subset ha) with rfl | ha
      · rcases List.mem_cons.1 hb with rfl | hb
        · exact hzx
        · exact hw.trn _ _ _ (hcr z hzm b hb) hzx
      · rcases List.mem_cons.1 hb with rfl | hb
        · exact hzt a (hrT a ha)
        · exact hcr a (hrT a ha) b hb
    · rw [hm, List.take_left' hR]
      exact hp'.trans (sortI_perm _).symm
theorem OffR.kept (hx : x ∉ L) (ho : OffR ah most x L L' ok) : ok = true ↔ x ∈ L' := by
  rcases ho with ⟨_, rfl, hp⟩ | ⟨_, ⟨rfl, rfl, rfl⟩ | ⟨z, r, rfl, ⟨_, rfl, rfl⟩ | ⟨_, rfl, hp⟩⟩⟩
  · exact ⟨fun _ => hp.symm.subset (by simp), fun _ => rfl⟩
  · exact ⟨fun h => absurd h (by simp), fun h => absurd h (by simp)⟩
  · exact ⟨fun h => absurd h (by simp), fun h => absurd h hx⟩
  · exact ⟨fun _ => hp.symm.subset (by simp), fun _ => rfl⟩
end
/-- Things, and when they were offered. -/
def ents (l : List (Int × Int)) : List (Int × Int × Int) := l.zipIdx.map fun p => (p.1.1, p.1.2, (p.2 : Int))
theorem ents_snoc (l : List (Int × Int)) (x : Int × Int) : ents (l ++ [x]) = ents l ++ [(x.1, x.2, (l.length : Int))] := by simp [ents, List.zipIdx_append]
theorem ents_length (l : List (Int × Int)) : (ents l).length = l.length := by simp [ents]
theorem ents_at {l : List (Int × Int)} {a : Int × Int × Int} (h : a ∈ ents l) : ∃ i : Nat, a.2.2 = (i : Int) ∧ l[i]? = some (a.1, a.2.1) := by
  unfold ents at h
  obtain ⟨⟨p, i⟩, hp, rfl⟩ := List.mem_map.1 h
  exact ⟨i, rfl, by have h := List.mem_zipIdx_iff_getElem?.1 hp; simpa using h⟩
theorem ents_lt {l : List (Int × Int)} {a : Int × Int × Int} (h : a ∈ ents l) : 0 ≤ a.2.2 ∧ a.2.2 < (l.length : Int) := by
  obtain ⟨i, hi, hl⟩ := ents_at h
  have := (List.getElem?_eq_some_iff.1 hl).1
  omega
theorem ents_new (l : List (Int × Int)) (x : Int × Int) : (x.1, x.2, (l.length : Int)) ∉ ents l := fun h => by
  have h := (ents_lt h).2
  simp only at h
  omega
theorem ents_fst (l : List (Int × Int)) : (ents l).map (fun p => (p.1, p.2.1)) = l := by
  unfold ents
  rw [List.map_map]
  have : ((fun p : Int × Int × Int => (p.1, p.2.1)) ∘ fun p : (Int × Int) × Nat => (p.1.1, p.1.2, (p.2 : Int))) = Prod.fst := by
    funext p; rfl
  rw [this, List.zipIdx_map_fst]
/-- The first k of what holds k that are no later than x: x plays no part. -/
theorem sort_late {α : Type} {lt : α → α → Bool} {d : α} (hw : WO lt) (ha : ∀ a b, lt a b = false → lt b a = false → a = b) {es : List α} {x : α} {k : Nat} (h : k ≤ es.countP (fun a => !lt x a)) : (sortI lt d (es ++ [x])).take k = (sortI lt d es).take k := by
  obtain ⟨T, hT⟩ : ∃ T, sortI lt d es = T := ⟨_, rfl⟩
  have hp : T.Perm es := by rw [← hT]; exact sortI_perm _
  have hs : Srt lt T := by rw [← hT]; exact sortI_srt hw _
  rw [← hp.countP_eq] at h
  have hk : k ≤ T.length := Nat.le_trans h (List.countP_le_length)
  have hfirst : ∀ a ∈ T.take k, lt x a = false := by
    intro a ham
    obtain ⟨j, hj, rfl⟩ := List.getElem_of_mem ham
    rw [List.length_take] at hj
    rw [List.getElem_take]
    have hjk : j < k := by omega
    have hjT : j < T.length := by omega
    cases hlt : lt x T[j] with
    | false => rfl
    | true =>
      exfalso
      have hdrop : (T.drop j).countP (fun a => !lt x a) = 0 := by
        rw [List.countP_eq_zero]
        intro b hb
        obtain ⟨i, hi, rfl⟩ := List.getElem_of_mem hb
        rw [List.length_drop] at hi
        rw [List.getElem_drop]
        have hba : lt T[j + i] T[j] = false := by
          by_cases e : i = 0
          · subst e
            cases hc : lt T[j + 0] T[j] with
            | false => rfl
            | true =>
              have e : lt T[j] T[j] = true := hc
              exact absurd (hw.asym _ _ e) (by rw [e]; simp)
          · exact List.pairwise_iff_getElem.1 hs j (j + i) hjT (by omega) (by omega)
        cases hxb : lt x T[j + i] with
        | true => simp
        | false => exact absurd (hw.trn _ _ _ hxb hba) (by rw [hlt]; simp)
      have hc : T.countP (fun a => !lt x a) = (T.take j).countP (fun a => !lt x a) + (T.drop j).countP (fun a => !lt x a) := by rw [← List.countP_append, List.take_append_drop]
      have hle : (T.take j).countP (fun a => !lt x a) ≤ (T.take j).length := List.countP_le_length
      rw [List.length_take] at hle
      omega
  have hpre : Srt lt (T.take k) := List.Pairwise.sublist (List.take_sublist _ _) hs
  have hcr : ∀ a ∈ T.take k, ∀ b ∈ T.drop k, lt b a = false := by
    have h3 : Srt lt (T.take k ++ T.drop k) := by rw [List.take_append_drop]; exact hs
    exact (List.pairwise_append.1 h3).2.2
  have hnew : sortI lt d (es ++ [x]) = T.take k ++ sortI lt d (x :: T.drop k) := by
    refine srt_uniq hw ha (sortI_srt hw _) ?_ ((sortI_perm _).trans ?_)
    · unfold Srt
      rw [List.pairwise_append]
      refine ⟨hpre, sortI_srt hw _, fun a ha' b hb => ?_⟩
      rcases List.mem_cons.1 ((sortI_perm _).subset hb) with rfl | hb
      · exact hfirst a ha'
      · exact hcr a ha' b hb
    · refine (List.perm_append_comm (l₁ := es) (l₂ := [x])).trans ?_
      refine List.Perm.trans ?_ (List.Perm.append_left _ (sortI_perm _)).symm
      refine List.Perm.trans ?_ (List.perm_middle (a := x) (l₁ := T.take k) (l₂ := T.drop k)).symm
      rw [List.take_append_drop]
      exact hp.symm.cons x
  rw [hnew, List.take_left' (by rw [List.length_take]; omega), hT]
end Go.Proofs.YticdmglondpgaaaGreat

/-! ## KeepE: What a selector of results keeps, in plain Lean: just the first ones of all in order. No condition. -/
namespace Go.Proofs.YticdmglondpgaaaGreat
set_option linter.unusedVariables false
set_option maxRecDepth 100000

theorem aheadE_wo : WO aheadE := ⟨fun a b h => ltE_wo.asym b a h, fun a b c h1 h2 => ltE_wo.trn c b a h2 h1⟩
theorem aheadE_anti (a b : Int × Int × Int) (h1 : aheadE a b = false) (h2 : aheadE b a = false) : a = b := by
  have h1 : ltE b a = false := h1
  have h2 : ltE a b = false := h2
  rw [ltE_no] at h1 h2
  exact Prod.ext (by omega) (Prod.ext (by omega) (by omega))
theorem ltR_anti2 (a b : Int × Int) (h1 : ltR a b = false) (h2 : ltR b a = false) : a = b := by
  rw [ltR_no] at h1 h2
  exact Prod.ext (by omega) (by omega)
theorem aheadE_fst {a b : Int × Int × Int} (h : aheadE a b = false) : ltR (a.1, a.2.1) (b.1, b.2.1) = false := by
  have h : ltE b a = false := h
  rw [ltE_no] at h
  rw [ltR_no]
  simp only
  omega
theorem srtE_fst {S : List (Int × Int × Int)} (h : Srt aheadE S) : Srt ltR (S.map fun p => (p.1, p.2.1)) := by
  unfold Srt at h ⊢
  rw [List.pairwise_map]
  exact h.imp fun h => aheadE_fst h
/-- Later ones are ahead just by what they are. -/
theorem aheadE_late {x z : Int × Int × Int} (h : z.2.2 < x.2.2) : aheadE x z = ltR (x.1, x.2.1) (z.1, z.2.1) := by
  rw [Bool.eq_iff_iff]
  have h1 := ltE_iff z x
  have h2 := ltR_iff (x.1, x.2.1) (z.1, z.2.1)
  have h3 : (aheadE x z = true) ↔ (ltE z x = true) := Iff.rfl
  rw [h3, h1, h2]
  simp only
  omega
theorem keepE {xs : List (Int × Int)} {most : Int} {L S : List (Int × Int × Int)} (h : Keep aheadE most (ents xs) L) (hp : S.Perm L) (hs : Srt aheadE S) : S.map (fun p => (p.1, p.2.1)) = (sortI ltR (0, 0) xs).take most.toNat := by
  obtain ⟨T, h1, h2, h3⟩ := h
  have e1 : S = T.take most.toNat := srt_uniq aheadE_wo aheadE_anti hs (List.Pairwise.sublist (List.take_sublist _ _) h2) (hp.trans h3)
  have e2 : T.map (fun p => (p.1, p.2.1)) = sortI ltR (0, 0) xs := by
    refine srt_uniq ltR_wo ltR_anti2 (srtE_fst h2) (sortI_srt ltR_wo xs) ?_
    have := h1.map (fun p : Int × Int × Int => (p.1, p.2.1))
    rw [ents_fst] at this
    exact this.trans (sortI_perm xs).symm
  rw [e1, List.map_take, e2]
theorem topE {z : Int × Int × Int} {r : List (Int × Int × Int)} (h : HeapOk ltE (z :: r)) : ∀ a ∈ z :: r, aheadE z a = false := fun a ha => h.first ltE_wo (by simp) ha
theorem Keep.offE {most : Int} {xs : List (Int × Int)} {L L' : List (Int × Int × Int)} {x : Int × Int} {ok : Bool} (h : Keep aheadE most (ents xs) L) (hok : HeapOk ltE L) (ho : OffR aheadE most (x.1, x.2, (xs.length : Int)) L L' ok) : Keep aheadE most (ents (xs ++ [x])) L' := by
  rw [ents_snoc]
  exact h.step aheadE_wo (fun z r e a ha => by subst e; exact topE hok a ha) ho
end Go.Proofs.YticdmglondpgaaaGreat
