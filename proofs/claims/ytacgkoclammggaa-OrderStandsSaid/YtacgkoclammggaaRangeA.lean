
/-
  The same law of a range over a function, where what is yielded is boxed ahead of the body (the code of the assignment lays new blocks). Condition: as of wpIn_rangeD.
-/
import Derived.Test.YtacgkoclammggaaRange
namespace Go.Proofs.Ytacgkoclammggaa
open Go.RowKit
set_option linter.unusedVariables false
set_option maxRecDepth 100000
variable {F : Fence} {n : Nat} {P : Program}

theorem wpIn_rangeA {α : Type} {g : Operand} {ps : Array Tmp} {assign body : Code} {Q : Exit → Act → World → Prop} {a : Act} {w : World}
    (hro : F.round = none) (h1 : 1 ≤ n) {gf : Nat} {lb : Array Value} (hg : a.eval g = .func (.func gf) #[] lb) (hFg : F.fn gf) (eg : ∀ args W, (callFunc gf args).run P W = .ok (.enter gf args) W)
    {encs : α → Array Value} {D : Nat → Prop} {Kp : World → World → Prop} {XP : List α → α → World → World → Prop} {S Sp : List α → World → Prop} {N : Nat} (hseq : IterD F (n - 1) P gf lb encs D Kp XP S Sp N w) (hD : ∀ k, D k → k < w.heap.size)
    (hKt : ∀ {A B C : World}, Kp A B → Kp B C → Kp A C) (hKb : ∀ (W : World) (l : Nat) (o o' : Obj), w.heap.size ≤ l → W.heap[l]? = some o → o.isCells = false → Kp W (W.putObj l o'))
    (hS : ∀ xs A B, S xs A → Kp A B → S xs B) (hSp : ∀ xs A B, Sp xs A → Kp A B → Sp xs B) (hps : ∀ x, (encs x).size = ps.size)
    (I : List α → World → Prop) (Ix : Code → List α → World → Prop) (hI : ∀ pre A B, I pre A → Step D w.heap.size A B → I pre B) (hIx : ∀ c pre A B, Ix c pre A → Step D w.heap.size A B → Ix c pre B) (h0 : I [] w) (a₁ : α → World → Act) (asg : α → World → World) (hasg : ∀ x W, Below W.heap.size W (asg x W)) (hKa : ∀ x W, Kp W (asg x W))
    (hassign : ∀ (l : Nat) (x : α) (W : World) (K : Act → World → Prop), K (a₁ x W) (asg x W) →
      assign.wpIn (F.inRound l) (n - 1 - 1) P (Exit.then K (fun _ _ _ => False)) { tmps := (ps.zip (encs x)).foldl (fun t (p, v) => t.setIfInBounds p v) a.tmps, defers := [] } W)
    (hbody : ∀ (l : Nat) (pre : List α) (x : α) (A0 W0 W : World) (o' : Obj), W = (asg x W0).putObj (w.heap.size + 1) o' → I pre W → pre.length < N → (w.heap.size + 2 ≤ A0.heap.size ∧ A0.heap.size ≤ W0.heap.size) → I pre A0 → Step D w.heap.size A0 W → XP pre x A0 W0 → body.wpIn (F.inRound l) (n - 1 - 1) P (leftD w.heap.size Kp I Ix (pre ++ [x]) W) (a₁ x W0) W)
    (hdone : ∀ (b : Nat) (xs : List α) (W : World), b = w.heap.size → S xs W → I xs W → W.heap[b]? = some (.deferred (some [])) → Q .normal { a with defers := { target := .collected b, args := #[] } :: a.defers } W)
    (hstop : ∀ (b : Nat) (c : Code) (pre : List α) (W : World), b = w.heap.size → Sp pre W → Ix c pre W → W.heap[b]? = some (.deferred (some [])) → c.wpIn F n P Q { a with defers := { target := .collected b, args := #[] } :: a.defers } W) :
    (Code.rangeFunc g ps assign body).wpIn F n P Q a w := by
  refine wpIn_rangeFunc fun fn hfn => ?_
  rw [hro]
  obtain ⟨R, hR⟩ : ∃ R : LoopState → Option Code → Loop, R = fun st pe => { state := st, pending := pe, fn, tmps := a.tmps, params := ps, assign, body, defers := w.heap.size } := ⟨_, rfl⟩
  obtain ⟨B, hB⟩ : ∃ B, w.heap.size = B := ⟨_, rfl⟩
  obtain ⟨W1, hW1⟩ : ∃ W1, (w.alloc (.deferred (some []))).alloc (.loop (R .ready none)) = W1 := ⟨_, rfl⟩
  have hL1 : W1.heap[B + 1]? = some (.loop (R .ready none)) := by
    have h := World.alloc_heap_new (w.alloc (.deferred (some []))) (.loop (R .ready none))
    rw [World.size_alloc, hW1, hB] at h
    exact h
  have hd0 : (w.alloc (.deferred (some []))).heap[B]? = some (.deferred (some [])) := by rw [← hB]; exact World.alloc_heap_new w _
  have hd1 : W1.heap[B]? = some (.deferred (some [])) := by
    rw [← hW1]
    exact (Below.heap_alloc _ _ _ (by rw [World.size_alloc, hB]; omega)).trans hd0
  have hs1 : Step D w.heap.size w W1 := by rw [← hW1]; exact Step.of_only ((Only.of_below (below_alloc1 (Below.refl _ _) _)).trans (Only.of_below (below_alloc1 (Below.refl _ _) _)))
  have hb1 : Below w.heap.size w W1 := by rw [← hW1]; exact below_alloc1 (below_alloc1 (Below.refl _ _) _) _
  have hnD : ¬ D B ∧ ¬ D (B + 1) := ⟨fun h => by have := hD _ h; omega, fun h => by have := hD _ h; omega⟩
  refine ⟨B + 1, [{ target := .collected B, args := #[] }], W1, { target := .fn (.func gf) lb, args := #[.func (.yield (B + 1)) #[] #[]] }, W1, gf, #[.func (.yield (B + 1)) #[] #[]] ++ lb, W1, ?_, ?_, ?_, ?_, fun _ => h1, ?_⟩
  · rw [← hW1, hR, ← hB]; exact run_enterLoop_outer _ _ _ _ _
  · simp only [resolve, hg]
    simp [go_sem]
  · intro f' hf'
    simp [Target.leads] at hf'
    subst hf'
    exact hFg
  · simp [invoke, go_sem, eg]
  refine (hseq (B + 1) (fun pre W => I pre W ∧ W.heap[B + 1]? = some (.loop (R .ready none)) ∧ W.heap[B]? = some (.deferred (some [])))
    (fun pre W => ∃ c, Ix c pre W ∧ W.heap[B + 1]? = some (.loop (R .done (some c))) ∧ W.heap[B]? = some (.deferred (some []))) W1 hb1
    (fun pre X Y h ho => ⟨hI _ _ _ h.1 (Step.of_only ho), ho.obj h.2.1 hnD.2, ho.obj h.2.2 hnD.1⟩)
    (fun pre X Y h ho => by obtain ⟨c, h2, h3, h4⟩ := h; exact ⟨c, hIx _ _ _ _ h2 (Step.of_only ho), ho.obj h3 hnD.2, ho.obj h4 hnD.1⟩)
    ?_ ⟨hI _ _ _ h0 hs1, hL1, hd1⟩).mono ?_
  · rintro pre x A0 W ⟨hi0, hl0, hd0'⟩ hoA hlen hx
    have hi := hI _ _ _ hi0 (Step.of_only (B := w.heap.size) hoA)
    have hl := hoA.obj hl0 hnD.2
    have hd := hoA.obj hd0' hnD.1
    have hzA : w.heap.size + 2 ≤ A0.heap.size := by have := (Array.getElem?_eq_some_iff.1 hl0).1; omega
    have hlt : B + 1 < W.heap.size := (Array.getElem?_eq_some_iff.1 hl).1
    have hy := run_yield (P := P) (args := encs x) hl (by rw [hR]; exact hps x)
    rw [hR] at hy
    have hbV := hasg x W
    have hlV : (asg x W).heap[B + 1]? = _ := obj_below hbV hl hlt
    have hdV : (asg x W).heap[B]? = _ := obj_below hbV hd (by omega)
    have hltV : B + 1 < (asg x W).heap.size := by have := hbV.size; omega
    refine ⟨fn, _, assign, body, hy, roundIn_of_wpIn hfn (hassign _ x W _ ⟨_, run_beginRound hlV (by rw [hR]), ?_⟩)⟩
    obtain ⟨X, hX⟩ : ∃ X, (asg x W).putObj (B + 1) (.loop { R .ready none with state := .busy }) = X := ⟨_, rfl⟩
    rw [hX]
    have hlX : X.heap[B + 1]? = some (.loop { R .ready none with state := .busy }) := by rw [← hX]; exact World.putObj_heap_same hltV
    have hdX : X.heap[B]? = some (.deferred (some [])) := by rw [← hX]; exact (World.putObj_heap_other (by omega)).trans hdV
    have hkX : Kp W X := hKt (hKa x W) (by rw [← hX]; exact hKb _ _ _ _ (by omega) hlV rfl)
    have hsWX : Step D w.heap.size W X := (Step.of_only (Only.of_below hbV)).trans (by rw [← hX, hB]; exact Step.putObj _)
    have hiX : I pre X := hI _ _ _ hi hsWX
    have hzX : w.heap.size + 2 ≤ A0.heap.size ∧ A0.heap.size ≤ W.heap.size := ⟨hzA, hoA.size⟩
    have hstX : Step D w.heap.size A0 X := (Step.of_only (B := w.heap.size) hoA).trans hsWX
    refine wpIn_mono (hbody _ pre x A0 W X _ (by rw [← hX, ← hB]) hiX hlen hzX hi0 hstX hx) ?_
    have fin : ∀ (jump : Option Code) (Y : World), KeepsFrom w.heap.size X Y →
        (Instr.endRound (B + 1) jump).run P Y = .ok (.bool jump.isNone) (Y.putObj (B + 1) (.loop (R (if jump.isNone then .ready else .done) jump))) ∧
        (Y.putObj (B + 1) (.loop (R (if jump.isNone then .ready else .done) jump))).heap[B + 1]? = some (.loop (R (if jump.isNone then .ready else .done) jump)) ∧
        (Y.putObj (B + 1) (.loop (R (if jump.isNone then .ready else .done) jump))).heap[B]? = some (.deferred (some [])) ∧
        Step D w.heap.size Y (Y.putObj (B + 1) (.loop (R (if jump.isNone then .ready else .done) jump))) ∧ Kp Y (Y.putObj (B + 1) (.loop (R (if jump.isNone then .ready else .done) jump))) := fun jump Y hk => by
      have hl3 := hk.same _ _ (by omega) hlX rfl
      have hd3 := hk.same _ _ (by omega) hdX rfl
      have hr := run_endRound (P := P) jump hl3
      rw [hR] at hr ⊢
      exact ⟨hr, World.putObj_heap_same (Array.getElem?_eq_some_iff.1 hl3).1, (World.putObj_heap_other (by omega)).trans hd3, (by rw [hB]; exact Step.putObj _), hKb _ _ _ _ (by omega) hl3 rfl⟩
    rintro e a3 Y hp
    cases e with
    | normal =>
      obtain ⟨hk3, hkp, hi3⟩ := hp
      obtain ⟨hr, hl4, hd4, hst, hk4⟩ := fin none Y hk3
      exact ⟨_, _, hr, .inl ⟨rfl, ⟨hI _ _ _ hi3 hst, hl4, hd4⟩, hKt (hKt hkX hkp) hk4⟩⟩
    | ret =>
      obtain ⟨hk3, hkp, hi3⟩ := hp
      obtain ⟨hr, hl4, hd4, hst, hk4⟩ := fin (some .ret) Y hk3
      exact ⟨_, _, hr, .inr ⟨rfl, ⟨.ret, hIx _ _ _ _ hi3 hst, hl4, hd4⟩, hKt (hKt hkX hkp) hk4⟩⟩
    | exit id =>
      obtain ⟨hk3, hkp, hi3⟩ := hp
      obtain ⟨hr, hl4, hd4, hst, hk4⟩ := fin (some (.exit id)) Y hk3
      exact ⟨_, _, hr, .inr ⟨rfl, ⟨.exit id, hIx _ _ _ _ hi3 hst, hl4, hd4⟩, hKt (hKt hkX hkp) hk4⟩⟩
    | goto t =>
      obtain ⟨hk3, hkp, hi3⟩ := hp
      obtain ⟨hr, hl4, hd4, hst, hk4⟩ := fin (some (.goto t)) Y hk3
      exact ⟨_, _, hr, .inr ⟨rfl, ⟨.goto t, hIx _ _ _ _ hi3 hst, hl4, hd4⟩, hKt (hKt hkX hkp) hk4⟩⟩
    | panic ch => exact hp.elim
    | outgrown => exact hp.elim
  · rintro e Y ⟨⟨v, rfl⟩, (⟨xs, hs, hi, hl, hd⟩ | ⟨pre, hs, c, hi, hl, hd⟩)⟩
    · have hr := run_endLoop (P := P) hl (by rw [hR]; simp)
      have hlt := (Array.getElem?_eq_some_iff.1 hl).1
      refine ⟨none, _, by rw [hR] at hr; exact hr, ?_⟩
      exact hdone B xs _ hB.symm (hS _ _ _ hs (hKb _ _ _ _ (by omega) hl rfl)) (hI _ _ _ hi ((by rw [hB]; exact Step.putObj _))) ((World.putObj_heap_other (by omega)).trans hd)
    · have hr := run_endLoop (P := P) hl (by rw [hR]; simp)
      refine ⟨some c, _, by rw [hR] at hr; exact hr, ?_⟩
      exact hstop B c pre _ hB.symm (hSp _ _ _ hs (hKb _ _ _ _ (by omega) hl rfl)) (hIx _ _ _ _ hi ((by rw [hB]; exact Step.putObj _))) ((World.putObj_heap_other (by omega)).trans hd)

end Go.Proofs.Ytacgkoclammggaa
