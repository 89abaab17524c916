/-
  Texts on the program, part 10: QuietR.
-/
import Derived.Sort.QuietIn
import Derived.Test.YticdmglondpgaaaGreatQ08

/-! ## QuietR: A region that draws its order and only reads, inside a round of a range over a function: one walk of the text's order serves every order. Condition: no operation is a 'defer'. -/
namespace Go.Proofs.YticdmglondpgaaaGreat
open Go.RowKit
set_option linter.unusedVariables false
set_option maxRecDepth 100000
section
variable {F : Fence} {n : Nat} {P : Program} {ops : Array Oper} {Q : Exit → Act → World → Prop}
def noDefer (o : Oper) : Bool := match o.op with
  | .defer _ => false
  | _ => true
theorem noDefer_spec {o : Oper} (h : noDefer o = true) : ∀ c, o.op ≠ .defer c := fun c hc => by
  unfold noDefer at h
  rw [hc] at h
  cases h
theorem wpOpIn_round {l i : Nat} (hnd : ops.all noDefer = true) (hro : F.round = none) {K K' : Act → World → Prop} (hK : ∀ a w, K a w → K' a w) {a : Act} {w : World} (h : wpOpIn F n P ops Q i K a w) : wpOpIn (F.inRound l) n P ops Q i K' a w := by
  have h := wpOpIn_mono hK h
  unfold Go.wpOpIn at h ⊢
  cases ho : ops[i]? with
  | none => simpa only [ho] using h
  | some o =>
    simp only [ho] at h ⊢
    have hd : ∀ c, o.op ≠ .defer c := noDefer_spec (by
      obtain ⟨hi, hx⟩ := Array.getElem?_eq_some_iff.1 ho
      have := Array.all_eq_true.1 hnd i hi
      rwa [hx] at this)
    split
    · rename_i hw
      rw [if_pos hw] at h
      unfold Oper.wpIn at h ⊢
      rw [Oper.semAt_plain _ _ _ hd] at h ⊢
      exact ⟨h.1, h.2⟩
    · rename_i hw
      rw [if_neg hw] at h
      exact h
theorem wpAnyIn_round {l : Nat} {md : Region.Mode} (hnd : ops.all noDefer = true) (hro : F.round = none) : ∀ (fuel : Nat) (listed : Array Bool) (a : Act) (w : World), wpAnyIn F n P md ops Q fuel listed a w → wpAnyIn (F.inRound l) n P md ops Q fuel listed a w
  | 0, _, _, _, h => h
  | fuel + 1, listed, a, w, h => ⟨h.1, fun i hi => wpOpIn_round hnd hro (fun a w => wpAnyIn_round hnd hro fuel _ a w) (h.2 i hi)⟩
theorem wpIn_region_quiet_round {id l : Nat} {a : Act} {w : World} {xs : List Oper} (hro : F.round = none) (hm : P.follows .mixedOrders = true) (hB : Region.lexB .any xs.toArray = true) (hnd : xs.toArray.all noDefer = true)
    (h : wpQuietIn F n P xs.toArray (fun w' => ∃ n, w' = w.drewN n) (fun a' => ∀ w', (∃ n, w' = w.drewN n) → Q .normal a' w') xs a) : (Code.region id xs.toArray true).wpIn (F.inRound l) n P Q a w := by
  simp only [Region.lexB, Bool.and_eq_true] at hB
  refine wpIn_region_any hm (wpAnyIn_round hnd hro _ _ _ _ (wpAnyIn_of_quiet (C := fun w' => ∃ n, w' = w.drewN n) (Q := fun a' => ∀ w', (∃ n, w' = w.drewN n) → Q .normal a' w') hro (fun _ w' hw' h => h w' hw') _ _ _ _ ⟨1, rfl⟩ ?_))
  have := wpAnyQIn_lex (F := F) (n := n) (C := fun w' => ∃ n, w' = w.drewN n) (md := .any) hB.1 xs 0 (Array.replicate xs.toArray.size false) a (by simp) (by simpa using hB.2) h
  simpa using this
end
end Go.Proofs.YticdmglondpgaaaGreat
