/-
  Texts on the program, part 1: Leave.
-/
import Derived.Conc.HoldsTime
import Derived.Conc.LeavingOf
import Derived.SizedLaws

/-! ## Leave: From the contract of a call that starts no goroutine to a row that says 'leaving' and lets time pass. No condition beyond the contract's. -/
namespace Go.Proofs.YticdmglondpgaaaGreat
open Go Go.Conc Go.ConcM
set_option linter.unusedVariables false
set_option maxRecDepth 100000
theorem leaving_of_handed {a : Assume} {C : Checked} {os : Os} {f : FuncId} {r : Reach} {Pre : World → Array Value → Prop} {Post : World → Array Value → Value → World → Prop} (h : ReturnsInHanded a C os f r Pre Post) : ReturnsInLeavingWide a C os f r Pre Post := fun enter => by
  obtain ⟨e1, e2, e3, e4, all⟩ := h enter
  refine ⟨e1, e2, e3, e4, fun w tape i hf => ?_⟩
  obtain ⟨n, v, w', b1, b2, b3, b4, ⟨j, last, c1, c2, c3, c4, c5⟩, b6⟩ := all w tape i hf
  exact ⟨n, v, w', b1, b2, b3, b4, ⟨j, last, c1, c2, c4, onlyLeaving_of_quiet c3, c5⟩, b6⟩
section
variable {H : Type} {enc : TypeId × Value → H}
theorem leavingTime_of_calls {a : Assume} {C : Checked} {os : Os} {f : FuncId} {fn : Func} {s : ChangeSpec} {F : Stop.Interp} {conds : List PathCond} {apart fresh handsOn : Bool}
    (own : ownKnob C.prog.godebug = none) (started : os.Started) (noInit : C.prog.inits.idxOf? f = none) (hfn : C.prog.funcs[f]? = some fn)
    (witness : ∃ (w : World) (tape : Tape) (i : Input), w.os = os ∧ (w.forCall tape i).Shaped C.prog ∧ i.vars = [] ∧ Input.okWide C.prog (w.forCall tape i) .any w.heap.size f i ∧
      s.pre6 enc C.prog fn conds apart (w.forCall tape i).memory i.args ∧ a.holds C.prog (lone (Frame.enter C.prog f i.args .normal) [] (w.forCall tape i)))
    (contract : ∀ (W : World) (base : Nat) (args : Array Value) (ds gs : List (DataW H)) (before : List MemPlace),
      (∀ (j : Nat) t v, fn.params[j]? = some t → args[j]? = some v → Value.okWide C.prog W .any base t v) →
      DataW.Whole enc C.prog fn.params.toList s.vars apart W args.toList ds gs before →
      conds.all (PathCond.test C.prog ⟨fn.params.toList, ds, s.plain.varTypes C.prog, gs⟩) = true →
      (DataW.weightsEach C.prog (fn.params.toList ++ s.plain.varTypes C.prog) (ds ++ gs)).all (· ≤ reachBytes) = true →
      a.holds C.prog (lone (Frame.enter C.prog f args .normal) [] W) →
      Calls C.prog f args W fun e W' => ∃ v, e = .returned v ∧ s.post enc C.prog fn apart fresh handsOn false W args v W' ∧ W'.os = W.os) :
    ReturnsInLeavingWide a C os f .any (s.pre6 enc C.prog fn conds apart) ((OpenSpec.ofChange s).postWith enc C.prog fn F (outsideKept [.timePasses]) apart fresh handsOn) := by
  refine leaving_of_handed (returnsInHanded_of_calls own started noInit witness ?_)
  intro w tape i _ _ _ hok hpre hholds
  obtain ⟨_, _, _, fn', hfn', _, _, _, _, hval⟩ := hok
  have e : fn' = fn := Option.some.inj (hfn'.symm.trans hfn)
  subst e
  obtain ⟨⟨ds, gs, before, hw, hc⟩, hz⟩ := hpre
  have hw' := DataW.Whole.of_heap (w' := w.forCall tape i) (by rfl) hw
  refine (contract (w.forCall tape i) w.heap.size i.args ds gs before hval hw' hc (hz.weights hw) hholds).mono fun e W' ⟨v, he, hp, ho⟩ => ?_
  subst he
  refine postWith_blind (postWith_of_post ?_ ?_)
  · have hW : ({ W' with os := (w.forCall tape i).os } : World) = W' := by rw [← ho]
    rw [hW]; exact hp
  · rw [ho]; exact OsLater.refl _
end
end Go.Proofs.YticdmglondpgaaaGreat
