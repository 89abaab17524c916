
/-
  What a selector of pairs keeps, in plain Lean: the first ones of all in order, of like ones as they stood. Condition: the pairs are numbers, and where they stand.
-/
import Derived.Test.YtacgkoclammggaaKeepL
import Derived.Test.YtacgkoclammggaaEntQ
import Derived.Test.YtacgkoclammggaaLexP
namespace Go.Proofs.Ytacgkoclammggaa
set_option linter.unusedVariables false
set_option maxRecDepth 100000

theorem aheadQ_wo : WO aheadQ := ⟨fun a b h => ltQ_wo.asym b a h, fun a b c h1 h2 => ltQ_wo.trn c b a h2 h1⟩
/-- Each stands where it says. -/
def Inc (xs : List (Int × Int)) : Prop := ∀ (i : Nat) x, xs[i]? = some x → x.2 = (i : Int)
theorem Inc.sorted {xs : List (Int × Int)} (h : Inc xs) : xs.Pairwise fun a b => a.2 < b.2 := by
  rw [List.pairwise_iff_getElem]
  intro i j hi hj hij
  rw [h i _ (List.getElem?_eq_getElem hi), h j _ (List.getElem?_eq_getElem hj)]
  omega
theorem Inc.ents {xs : List (Int × Int)} (h : Inc xs) {a : Int × Int × Int} (ha : a ∈ ents xs) : a.2.1 = a.2.2 := by
  obtain ⟨i, hi, hx⟩ := ents_at ha
  rw [hi]
  exact h i _ hx
theorem aheadQ_lex {a b : Int × Int × Int} (ha : a.2.1 = a.2.2) (hb : b.2.1 = b.2.2) : aheadQ a b = lexP (a.1, a.2.1) (b.1, b.2.1) := by
  rw [Bool.eq_iff_iff]
  have h1 := ltQ_iff b a
  have h3 : (aheadQ a b = true) ↔ (ltQ b a = true) := Iff.rfl
  rw [h3, h1, lexP_iff]
  simp only
  omega
theorem srtQ_lex {S : List (Int × Int × Int)} (hm : ∀ a ∈ S, a.2.1 = a.2.2) (h : Srt aheadQ S) : Srt lexP (S.map fun p => (p.1, p.2.1)) := by
  unfold Srt at h ⊢
  rw [List.pairwise_map]
  exact h.imp_of_mem fun ha hb h => by rw [← aheadQ_lex (hm _ hb) (hm _ ha)]; exact h
theorem keepQ {xs : List (Int × Int)} {most : Int} {L S : List (Int × Int × Int)} (hi : Inc xs) (h : Keep aheadQ most (ents xs) L) (hp : S.Perm L) (hs : Srt aheadQ S) : S.map (fun p => (p.1, p.2.1)) = (sortI ltP (0, 0) xs).take most.toNat := by
  have hsub : ∀ a ∈ L, a ∈ Go.Proofs.Ytacgkoclammggaa.ents xs := h.sub
  obtain ⟨T, h1, h2, h3⟩ := h
  have hT : ∀ a ∈ T, a.2.1 = a.2.2 := fun a ha => hi.ents (h1.subset ha)
  have e1 : S.map (fun p => (p.1, p.2.1)) = (T.take most.toNat).map fun p => (p.1, p.2.1) :=
    srt_uniq lexP_wo lexP_anti (srtQ_lex (fun a ha => hi.ents (hsub a (hp.subset ha))) hs) (srtQ_lex (fun a ha => hT a (List.mem_of_mem_take ha)) (List.Pairwise.sublist (List.take_sublist _ _) h2)) ((hp.trans h3).map _)
  have e2 : T.map (fun p => (p.1, p.2.1)) = sortI lexP (0, 0) xs := by
    refine srt_uniq lexP_wo lexP_anti (srtQ_lex hT h2) (sortI_srt lexP_wo xs) ?_
    have := h1.map (fun p : Int × Int × Int => (p.1, p.2.1))
    rw [ents_fst] at this
    exact this.trans (sortI_perm xs).symm
  rw [e1, List.map_take, e2, sort_lex hi.sorted]
theorem topQ {z : Int × Int × Int} {r : List (Int × Int × Int)} (h : HeapOk ltQ (z :: r)) : ∀ a ∈ z :: r, aheadQ z a = false := fun a ha => h.first ltQ_wo (by simp) ha
theorem Keep.offQ {most : Int} {xs : List (Int × Int)} {L L' : List (Int × Int × Int)} {x : Int × Int} {ok : Bool} (h : Keep aheadQ most (ents xs) L) (hok : HeapOk ltQ L) (ho : OffR aheadQ most (x.1, x.2, (xs.length : Int)) L L' ok) : Keep aheadQ most (ents (xs ++ [x])) L' := by
  rw [ents_snoc]
  exact h.step aheadQ_wo (fun z r e a ha => by subst e; exact topQ hok a ha) ho
/-- What is kept, in order. -/
theorem Keep.some {ah : Int × Int × Int → Int × Int × Int → Bool} {most : Int} {es L : List (Int × Int × Int)} (h : Keep ah most es L) : ∃ S, S.Perm L ∧ Srt ah S := by
  obtain ⟨T, h1, h2, h3⟩ := h
  exact ⟨_, h3.symm, List.Pairwise.sublist (List.take_sublist _ _) h2⟩
/-- Whether the newest one is kept. -/
theorem keepQ_in {xs : List (Int × Int)} {most : Int} {L L' : List (Int × Int × Int)} {x : Int × Int} {ok : Bool} (hi : Inc (xs ++ [x])) (h : Keep aheadQ most (ents xs) L) (h' : Keep aheadQ most (ents (xs ++ [x])) L') (ho : OffR aheadQ most (x.1, x.2, (xs.length : Int)) L L' ok) :
    ok = decide (x ∈ (sortI ltP (0, 0) (xs ++ [x])).take most.toNat) := by
  obtain ⟨S, hp, hs⟩ := h'.some
  rw [← keepQ hi h' hp hs, Bool.eq_iff_iff, decide_eq_true_iff, ho.kept fun hx => ents_new xs x (h.sub _ hx)]
  constructor
  · exact fun hx => List.mem_map.2 ⟨_, hp.symm.subset hx, rfl⟩
  · intro hx
    obtain ⟨a, ha, he⟩ := List.mem_map.1 hx
    have hm := hp.subset ha
    have h2 := hi.ents (h'.sub _ hm)
    have h3 := hi xs.length x (by simp)
    have e1 : a.1 = x.1 := congrArg Prod.fst he
    have e2 : a.2.1 = x.2 := congrArg Prod.snd he
    have : a = (x.1, x.2, (xs.length : Int)) := Prod.ext e1 (Prod.ext e2 (by rw [← h2, e2, h3]))
    rw [← this]
    exact hm
/-- The one on top, and whether there is one. -/
def lastQ : List (Int × Int × Int) → Int × Int
  | [] => (0, 0)
  | z :: _ => (z.1, z.2.1)
def isQ : List (Int × Int × Int) → Bool
  | [] => false
  | _ :: _ => true
theorem keepQ_len {xs : List (Int × Int)} {most : Int} {L : List (Int × Int × Int)} (hi : Inc xs) (h : Keep aheadQ most (ents xs) L) : L.length = ((sortI ltP (0, 0) xs).take most.toNat).length := by
  obtain ⟨S, hp, hs⟩ := h.some
  rw [← keepQ hi h hp hs, List.length_map, hp.length_eq]
theorem isQ_len (L : List (Int × Int × Int)) : isQ L = decide (0 < (L.length : Int)) := by
  cases L with
  | nil => rfl
  | cons z r => simp [isQ]
theorem keepQ_last {xs : List (Int × Int)} {most : Int} {L : List (Int × Int × Int)} (hi : Inc xs) (h : Keep aheadQ most (ents xs) L) (hok : HeapOk ltQ L) (n : Nat) (hn : L.length = n + 1) : ((sortI ltP (0, 0) xs).take most.toNat)[n]? = some (lastQ L) := by
  obtain ⟨S, hp, hs⟩ := h.some
  rw [← keepQ hi h hp hs]
  cases L with
  | nil => cases hn
  | cons z r =>
    have hz := topQ hok
    have hl : n < S.length := by rw [hp.length_eq, hn]; exact Nat.lt_succ_self n
    have h1 : aheadQ z S[n] = false := hz _ (hp.subset (List.getElem_mem hl))
    have h2 : aheadQ S[n] z = false := by
      obtain ⟨j, hj, e⟩ := List.getElem_of_mem (hp.symm.subset (show z ∈ z :: r by simp))
      by_cases hjn : j = n
      · subst hjn
        rw [e]
        cases hc : aheadQ z z with
        | false => rfl
        | true => exact absurd (aheadQ_wo.asym _ _ hc) (by rw [hc]; simp)
      · rw [← e]
        exact List.pairwise_iff_getElem.1 hs j n hj hl (by have := hp.length_eq; omega)
    have hzm := hi.ents (h.sub _ (show z ∈ z :: r by simp))
    have hsm := hi.ents (h.sub _ (hp.subset (List.getElem_mem hl)))
    rw [aheadQ_lex hzm hsm] at h1
    rw [aheadQ_lex hsm hzm] at h2
    have e := lexP_anti _ _ h1 h2
    rw [List.getElem?_map, List.getElem?_eq_getElem hl]
    exact congrArg Option.some e.symm
end Go.Proofs.Ytacgkoclammggaa
