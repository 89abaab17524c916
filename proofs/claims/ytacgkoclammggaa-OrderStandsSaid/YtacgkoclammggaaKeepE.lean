
/-
  What a selector of results keeps, in plain Lean: just the first ones of all in order. No condition.
-/
import Derived.Test.YtacgkoclammggaaKeepL
import Derived.Test.YtacgkoclammggaaEntE
import Derived.Test.YtacgkoclammggaaHeapR
namespace Go.Proofs.Ytacgkoclammggaa
set_option linter.unusedVariables false
set_option maxRecDepth 100000

theorem aheadE_wo : WO aheadE := ⟨fun a b h => ltE_wo.asym b a h, fun a b c h1 h2 => ltE_wo.trn c b a h2 h1⟩
theorem aheadE_anti (a b : Int × Int × Int) (h1 : aheadE a b = false) (h2 : aheadE b a = false) : a = b := by
  have h1 : ltE b a = false := h1
  have h2 : ltE a b = false := h2
  rw [ltE_no] at h1 h2
  exact Prod.ext (by omega) (Prod.ext (by omega) (by omega))
theorem ltR_anti2 (a b : Int × Int) (h1 : ltR a b = false) (h2 : ltR b a = false) : a = b := by
  rw [ltR_no] at h1 h2
  exact Prod.ext (by omega) (by omega)
theorem aheadE_fst {a b : Int × Int × Int} (h : aheadE a b = false) : ltR (a.1, a.2.1) (b.1, b.2.1) = false := by
  have h : ltE b a = false := h
  rw [ltE_no] at h
  rw [ltR_no]
  simp only
  omega
theorem srtE_fst {S : List (Int × Int × Int)} (h : Srt aheadE S) : Srt ltR (S.map fun p => (p.1, p.2.1)) := by
  unfold Srt at h ⊢
  rw [List.pairwise_map]
  exact h.imp fun h => aheadE_fst h
/-- Later ones are ahead just by what they are. -/
theorem aheadE_late {x z : Int × Int × Int} (h : z.2.2 < x.2.2) : aheadE x z = ltR (x.1, x.2.1) (z.1, z.2.1) := by
  rw [Bool.eq_iff_iff]
  have h1 := ltE_iff z x
  have h2 := ltR_iff (x.1, x.2.1) (z.1, z.2.1)
  have h3 : (aheadE x z = true) ↔ (ltE z x = true) := Iff.rfl
  rw [h3, h1, h2]
  simp only
  omega
theorem keepE {xs : List (Int × Int)} {most : Int} {L S : List (Int × Int × Int)} (h : Keep aheadE most (ents xs) L) (hp : S.Perm L) (hs : Srt aheadE S) : S.map (fun p => (p.1, p.2.1)) = (sortI ltR (0, 0) xs).take most.toNat := by
  obtain ⟨T, h1, h2, h3⟩ := h
  have e1 : S = T.take most.toNat := srt_uniq aheadE_wo aheadE_anti hs (List.Pairwise.sublist (List.take_sublist _ _) h2) (hp.trans h3)
  have e2 : T.map (fun p => (p.1, p.2.1)) = sortI ltR (0, 0) xs := by
    refine srt_uniq ltR_wo ltR_anti2 (srtE_fst h2) (sortI_srt ltR_wo xs) ?_
    have := h1.map (fun p : Int × Int × Int => (p.1, p.2.1))
    rw [ents_fst] at this
    exact this.trans (sortI_perm xs).symm
  rw [e1, List.map_take, e2]
theorem topE {z : Int × Int × Int} {r : List (Int × Int × Int)} (h : HeapOk ltE (z :: r)) : ∀ a ∈ z :: r, aheadE z a = false := fun a ha => h.first ltE_wo (by simp) ha
theorem Keep.offE {most : Int} {xs : List (Int × Int)} {L L' : List (Int × Int × Int)} {x : Int × Int} {ok : Bool} (h : Keep aheadE most (ents xs) L) (hok : HeapOk ltE L) (ho : OffR aheadE most (x.1, x.2, (xs.length : Int)) L L' ok) : Keep aheadE most (ents (xs ++ [x])) L' := by
  rw [ents_snoc]
  exact h.step aheadE_wo (fun z r e a ha => by subst e; exact topE hok a ha) ho
end Go.Proofs.Ytacgkoclammggaa
