
/-
  A range over a function whose iterator changes cells between two rounds (a source that is drawn of, a heap that is popped): the law of the statement, over an iterator's contract that names the blocks D which it may change and what it holds at the end. Condition: the loop's body keeps what the iterator asks (Kp), and the caller's word I abides the iterator's steps.
-/
import Derived.Test.YtacgkoclammggaaLib
import Derived.RangeFuncNested
import Derived.RangeFuncBound
import Derived.RangeFuncCalls
import Derived.RangeFuncLeaves
import Derived.WalkKit
import Derived.OwnWalkIn
import Derived.TacticsInMore
import Derived.LoopNIn
import Derived.LoopIn
namespace Go.Proofs.Ytacgkoclammggaa
open Go.RowKit
set_option linter.unusedVariables false
set_option maxRecDepth 100000

/-- Nothing has turned but blocks of D, and the loop's own, B + 1. -/
def Step (D : Nat → Prop) (B : Nat) (w w' : World) : Prop := Only (fun k => D k ∨ k = B + 1) w w'
theorem Step.of_only {D : Nat → Prop} {B : Nat} {w w' : World} (h : Only D w w') : Step D B w w' := Only.mono h fun _ _ h => .inl h
theorem Step.putObj {D : Nat → Prop} {B : Nat} {w : World} (o' : Obj) : Step D B w (w.putObj (B + 1) o') :=
  ⟨rfl, rfl, rfl, by simp, fun k _ hk => World.putObj_heap_other fun e => hk (.inr e)⟩

variable {F : Fence} {n : Nat} {P : Program}

/-- The contract of an iterator that may change blocks of D: X of what is yielded, S, Sp of the world at its end. -/
def IterD {α : Type} (F : Fence) (n : Nat) (P : Program) (g : Nat) (lb : Array Value) (encs : α → Array Value) (D : Nat → Prop) (Kp : World → World → Prop) (X : List α → α → World → World → Prop) (S Sp : List α → World → Prop) (N : Nat) (w : World) : Prop :=
  ∀ (l : Nat) (J Jx : List α → World → Prop) (W : World), Below w.heap.size w W → (∀ pre A B, J pre A → Only D A B → J pre B) → (∀ pre A B, Jx pre A → Only D A B → Jx pre B) →
    (∀ pre x A0 A, J pre A0 → Only D A0 A → pre.length < N → X pre x A0 A → YieldAt F (n - 1) P l (encs x) A fun e B =>
      (e = .returned (.bool true) ∧ J (pre ++ [x]) B ∧ Kp A B) ∨ (e = .returned (.bool false) ∧ Jx (pre ++ [x]) B ∧ Kp A B)) →
    J [] W →
    CallsIn F n P g (#[.func (.yield l) #[] #[]] ++ lb) W fun e B => (∃ v, e = .returned v) ∧ ((∃ xs, S xs B ∧ J xs B) ∨ (∃ pre, Sp pre B ∧ Jx pre B))

/-- How a round's body is left. -/
def leftD {α : Type} (B : Nat) (Kp : World → World → Prop) (I : List α → World → Prop) (Ix : Code → List α → World → Prop) (xs : List α) (W : World) : Exit → Act → World → Prop
  | .normal, _, W' => KeepsFrom B W W' ∧ Kp W W' ∧ I xs W'
  | .ret, _, W' => KeepsFrom B W W' ∧ Kp W W' ∧ Ix .ret xs W'
  | .exit id, _, W' => KeepsFrom B W W' ∧ Kp W W' ∧ Ix (.exit id) xs W'
  | .goto t, _, W' => KeepsFrom B W W' ∧ Kp W W' ∧ Ix (.goto t) xs W'
  | .panic _, _, _ => False
  | .outgrown, _, _ => False

theorem wpIn_rangeD {α : Type} {g : Operand} {ps : Array Tmp} {assign body : Code} {Q : Exit → Act → World → Prop} {a : Act} {w : World}
    (hro : F.round = none) (h1 : 1 ≤ n) {gf : Nat} {lb : Array Value} (hg : a.eval g = .func (.func gf) #[] lb) (hFg : F.fn gf) (eg : ∀ args W, (callFunc gf args).run P W = .ok (.enter gf args) W)
    {encs : α → Array Value} {D : Nat → Prop} {Kp : World → World → Prop} {XP : List α → α → World → World → Prop} {S Sp : List α → World → Prop} {N : Nat} (hseq : IterD F (n - 1) P gf lb encs D Kp XP S Sp N w) (hD : ∀ k, D k → k < w.heap.size)
    (hKt : ∀ {A B C : World}, Kp A B → Kp B C → Kp A C) (hKb : ∀ (W : World) (l : Nat) (o o' : Obj), w.heap.size ≤ l → W.heap[l]? = some o → o.isCells = false → Kp W (W.putObj l o'))
    (hXp : ∀ pre x A0 W o', w.heap.size + 2 ≤ A0.heap.size → XP pre x A0 W → XP pre x A0 (W.putObj (w.heap.size + 1) o')) (hS : ∀ xs A B, S xs A → Kp A B → S xs B) (hSp : ∀ xs A B, Sp xs A → Kp A B → Sp xs B) (hps : ∀ x, (encs x).size = ps.size)
    (I : List α → World → Prop) (Ix : Code → List α → World → Prop) (hI : ∀ pre A B, I pre A → Step D w.heap.size A B → I pre B) (hIx : ∀ c pre A B, Ix c pre A → Step D w.heap.size A B → Ix c pre B) (h0 : I [] w) (a₁ : α → Act)
    (hassign : ∀ (l : Nat) (x : α) (W : World) (K : Act → World → Prop), K (a₁ x) W →
      assign.wpIn (F.inRound l) (n - 1 - 1) P (Exit.then K (fun _ _ _ => False)) { tmps := (ps.zip (encs x)).foldl (fun t (p, v) => t.setIfInBounds p v) a.tmps, defers := [] } W)
    (hbody : ∀ (l : Nat) (pre : List α) (x : α) (A0 W : World), I pre W → pre.length < N → (w.heap.size + 2 ≤ A0.heap.size ∧ A0.heap.size ≤ W.heap.size) → I pre A0 → Step D w.heap.size A0 W → XP pre x A0 W → body.wpIn (F.inRound l) (n - 1 - 1) P (leftD w.heap.size Kp I Ix (pre ++ [x]) W) (a₁ x) W)
    (hdone : ∀ (b : Nat) (xs : List α) (W : World), b = w.heap.size → S xs W → I xs W → W.heap[b]? = some (.deferred (some [])) → Q .normal { a with defers := { target := .collected b, args := #[] } :: a.defers } W)
    (hstop : ∀ (b : Nat) (c : Code) (pre : List α) (W : World), b = w.heap.size → Sp pre W → Ix c pre W → W.heap[b]? = some (.deferred (some [])) → c.wpIn F n P Q { a with defers := { target := .collected b, args := #[] } :: a.defers } W) :
    (Code.rangeFunc g ps assign body).wpIn F n P Q a w := by
  refine wpIn_rangeFunc fun fn hfn => ?_
  rw [hro]
  obtain ⟨R, hR⟩ : ∃ R : LoopState → Option Code → Loop, R = fun st pe => { state := st, pending := pe, fn, tmps := a.tmps, params := ps, assign, body, defers := w.heap.size } := ⟨_, rfl⟩
  obtain ⟨B, hB⟩ : ∃ B, w.heap.size = B := ⟨_, rfl⟩
  obtain ⟨W1, hW1⟩ : ∃ W1, (w.alloc (.deferred (some []))).alloc (.loop (R .ready none)) = W1 := ⟨_, rfl⟩
  have hL1 : W1.heap[B + 1]? = some (.loop (R .ready none)) := by
    have h := World.alloc_heap_new (w.alloc (.deferred (some []))) (.loop (R .ready none))
    rw [World.size_alloc, hW1, hB] at h
    exact h
  have hd0 : (w.alloc (.deferred (some []))).heap[B]? = some (.deferred (some [])) := by rw [← hB]; exact World.alloc_heap_new w _
  have hd1 : W1.heap[B]? = some (.deferred (some [])) := by
    rw [← hW1]
    exact (Below.heap_alloc _ _ _ (by rw [World.size_alloc, hB]; omega)).trans hd0
  have hs1 : Step D w.heap.size w W1 := by rw [← hW1]; exact Step.of_only ((Only.of_below (below_alloc1 (Below.refl _ _) _)).trans (Only.of_below (below_alloc1 (Below.refl _ _) _)))
  have hb1 : Below w.heap.size w W1 := by rw [← hW1]; exact below_alloc1 (below_alloc1 (Below.refl _ _) _) _
  have hnD : ¬ D B ∧ ¬ D (B + 1) := ⟨fun h => by have := hD _ h; omega, fun h => by have := hD _ h; omega⟩
  refine ⟨B + 1, [{ target := .collected B, args := #[] }], W1, { target := .fn (.func gf) lb, args := #[.func (.yield (B + 1)) #[] #[]] }, W1, gf, #[.func (.yield (B + 1)) #[] #[]] ++ lb, W1, ?_, ?_, ?_, ?_, fun _ => h1, ?_⟩
  · rw [← hW1, hR, ← hB]; exact run_enterLoop_outer _ _ _ _ _
  · simp only [resolve, hg]
    simp [go_sem]
  · intro f' hf'
    simp [Target.leads] at hf'
    subst hf'
    exact hFg
  · simp [invoke, go_sem, eg]
  refine (hseq (B + 1) (fun pre W => I pre W ∧ W.heap[B + 1]? = some (.loop (R .ready none)) ∧ W.heap[B]? = some (.deferred (some [])))
    (fun pre W => ∃ c, Ix c pre W ∧ W.heap[B + 1]? = some (.loop (R .done (some c))) ∧ W.heap[B]? = some (.deferred (some []))) W1 hb1
    (fun pre X Y h ho => ⟨hI _ _ _ h.1 (Step.of_only ho), ho.obj h.2.1 hnD.2, ho.obj h.2.2 hnD.1⟩)
    (fun pre X Y h ho => by obtain ⟨c, h2, h3, h4⟩ := h; exact ⟨c, hIx _ _ _ _ h2 (Step.of_only ho), ho.obj h3 hnD.2, ho.obj h4 hnD.1⟩)
    ?_ ⟨hI _ _ _ h0 hs1, hL1, hd1⟩).mono ?_
  · rintro pre x A0 W ⟨hi0, hl0, hd0'⟩ hoA hlen hx
    have hi := hI _ _ _ hi0 (Step.of_only (B := w.heap.size) hoA)
    have hl := hoA.obj hl0 hnD.2
    have hd := hoA.obj hd0' hnD.1
    have hzA : w.heap.size + 2 ≤ A0.heap.size := by have := (Array.getElem?_eq_some_iff.1 hl0).1; omega
    have hlt : B + 1 < W.heap.size := (Array.getElem?_eq_some_iff.1 hl).1
    have hy := run_yield (P := P) (args := encs x) hl (by rw [hR]; exact hps x)
    rw [hR] at hy
    refine ⟨fn, _, assign, body, hy, roundIn_of_wpIn hfn (hassign _ x W _ ⟨_, run_beginRound hl (by rw [hR]), ?_⟩)⟩
    obtain ⟨X, hX⟩ : ∃ X, W.putObj (B + 1) (.loop { R .ready none with state := .busy }) = X := ⟨_, rfl⟩
    rw [hX]
    have hlX : X.heap[B + 1]? = some (.loop { R .ready none with state := .busy }) := by rw [← hX]; exact World.putObj_heap_same hlt
    have hdX : X.heap[B]? = some (.deferred (some [])) := by rw [← hX]; exact (World.putObj_heap_other (by omega)).trans hd
    have hkX : Kp W X := by rw [← hX]; exact hKb _ _ _ _ (by omega) hl rfl
    have hiX : I pre X := hI _ _ _ hi (by rw [← hX, hB]; exact Step.putObj _)
    have hxX : XP pre x A0 X := by rw [← hX, ← hB]; exact hXp _ _ _ _ _ hzA hx
    have hzX : w.heap.size + 2 ≤ A0.heap.size ∧ A0.heap.size ≤ X.heap.size := ⟨hzA, by rw [← hX, World.putObj_size]; exact hoA.size⟩
    have hstX : Step D w.heap.size A0 X := (Step.of_only (B := w.heap.size) hoA).trans (by rw [← hX, hB]; exact Step.putObj _)
    refine wpIn_mono (hbody _ pre x A0 X hiX hlen hzX hi0 hstX hxX) ?_
    have fin : ∀ (jump : Option Code) (Y : World), KeepsFrom w.heap.size X Y →
        (Instr.endRound (B + 1) jump).run P Y = .ok (.bool jump.isNone) (Y.putObj (B + 1) (.loop (R (if jump.isNone then .ready else .done) jump))) ∧
        (Y.putObj (B + 1) (.loop (R (if jump.isNone then .ready else .done) jump))).heap[B + 1]? = some (.loop (R (if jump.isNone then .ready else .done) jump)) ∧
        (Y.putObj (B + 1) (.loop (R (if jump.isNone then .ready else .done) jump))).heap[B]? = some (.deferred (some [])) ∧
        Step D w.heap.size Y (Y.putObj (B + 1) (.loop (R (if jump.isNone then .ready else .done) jump))) ∧ Kp Y (Y.putObj (B + 1) (.loop (R (if jump.isNone then .ready else .done) jump))) := fun jump Y hk => by
      have hl3 := hk.same _ _ (by omega) hlX rfl
      have hd3 := hk.same _ _ (by omega) hdX rfl
      have hr := run_endRound (P := P) jump hl3
      rw [hR] at hr ⊢
      exact ⟨hr, World.putObj_heap_same (Array.getElem?_eq_some_iff.1 hl3).1, (World.putObj_heap_other (by omega)).trans hd3, (by rw [hB]; exact Step.putObj _), hKb _ _ _ _ (by omega) hl3 rfl⟩
    rintro e a3 Y hp
    cases e with
    | normal =>
      obtain ⟨hk3, hkp, hi3⟩ := hp
      obtain ⟨hr, hl4, hd4, hst, hk4⟩ := fin none Y hk3
      exact ⟨_, _, hr, .inl ⟨rfl, ⟨hI _ _ _ hi3 hst, hl4, hd4⟩, hKt (hKt hkX hkp) hk4⟩⟩
    | ret =>
      obtain ⟨hk3, hkp, hi3⟩ := hp
      obtain ⟨hr, hl4, hd4, hst, hk4⟩ := fin (some .ret) Y hk3
      exact ⟨_, _, hr, .inr ⟨rfl, ⟨.ret, hIx _ _ _ _ hi3 hst, hl4, hd4⟩, hKt (hKt hkX hkp) hk4⟩⟩
    | exit id =>
      obtain ⟨hk3, hkp, hi3⟩ := hp
      obtain ⟨hr, hl4, hd4, hst, hk4⟩ := fin (some (.exit id)) Y hk3
      exact ⟨_, _, hr, .inr ⟨rfl, ⟨.exit id, hIx _ _ _ _ hi3 hst, hl4, hd4⟩, hKt (hKt hkX hkp) hk4⟩⟩
    | goto t =>
      obtain ⟨hk3, hkp, hi3⟩ := hp
      obtain ⟨hr, hl4, hd4, hst, hk4⟩ := fin (some (.goto t)) Y hk3
      exact ⟨_, _, hr, .inr ⟨rfl, ⟨.goto t, hIx _ _ _ _ hi3 hst, hl4, hd4⟩, hKt (hKt hkX hkp) hk4⟩⟩
    | panic ch => exact hp.elim
    | outgrown => exact hp.elim
  · rintro e Y ⟨⟨v, rfl⟩, (⟨xs, hs, hi, hl, hd⟩ | ⟨pre, hs, c, hi, hl, hd⟩)⟩
    · have hr := run_endLoop (P := P) hl (by rw [hR]; simp)
      have hlt := (Array.getElem?_eq_some_iff.1 hl).1
      refine ⟨none, _, by rw [hR] at hr; exact hr, ?_⟩
      exact hdone B xs _ hB.symm (hS _ _ _ hs (hKb _ _ _ _ (by omega) hl rfl)) (hI _ _ _ hi ((by rw [hB]; exact Step.putObj _))) ((World.putObj_heap_other (by omega)).trans hd)
    · have hr := run_endLoop (P := P) hl (by rw [hR]; simp)
      refine ⟨some c, _, by rw [hR] at hr; exact hr, ?_⟩
      exact hstop B c pre _ hB.symm (hSp _ _ _ hs (hKb _ _ _ _ (by omega) hl rfl)) (hIx _ _ _ _ hi ((by rw [hB]; exact Step.putObj _))) ((World.putObj_heap_other (by omega)).trans hd)

theorem results_boxed {P : Program} {w : World} {fn : Func} {t : Tmp} {T : TypeId} (h : fn.results = #[.cell t T]) (hT : P.underlying T = some .bool) (tmps : Array Value) (b : Nat) (v : Bool) (ht : tmps.getD t undef = .pointer (some ⟨b, 0, none⟩)) (hc : w.cell? ⟨b, 0, none⟩ = some (.bool v)) :
    (results fn tmps).run P w = .ok (.bool v) w := by
  have ht2 : tmps[t]?.getD undef = .pointer (some ⟨b, 0, none⟩) := by simpa using ht
  simp [results, h, ht2, loadVar, go_sem, isAgg, run_underlying hT, hc]
theorem own_cells {w : World} {base : Nat} {e : TypeId} {size n : Nat} {v : Value} {xs : List Value} (h : w.ownsRow base e size v n xs) (k : Nat) (hk : v.ownBlock = some k) : ∃ cs t f, w.heap[k]? = some (.cells cs t f) := by
  rcases h.2 with ⟨rfl, _⟩ | ⟨g, cap, cur, rfl, hb, hg, _⟩
  · simp [Value.ownBlock] at hk
  · obtain rfl : g = k := by simpa [Value.ownBlock] using hk
    exact ⟨_, _, _, hg⟩
theorem wpListIn_app (w : World) {ops : Array Oper} {rest : List Oper} {o : Oper} {a : Act} {Q : Exit → Act → World → Prop} (hgd : o.guard = none) (s x : Operand) (t e : TypeId)
    (ho : o.op = .call { callee := .builtin .append, args := #[s, x], argTypes := #[t, t] })
    (z : Value) (size bytes : Nat) (ht : P.underlying t = some (.slice e)) (hinfo : (P.info? e).map (fun i => (i.zero, i.size, i.bytes)) = some (some z, size, bytes)) (hzs : z.cells.size = size) (hsz : 0 < size) (hb0 : 0 < bytes)
    (base : Nat) (v : Value) (m0 : Nat) (xs : List Value) (hs : a.eval s = v) (A : Option Addr) (m c : Nat) (hx : a.eval x = .slice A m c) (hown : w.ownsRow base e size v m0 xs) (hbase : base ≤ w.heap.size)
    (news : List Value) (hl : news.length = m * size) (hnews : RdC w A news) (h1 : ∀ u ∈ news, u.oneCell' = true) (hbytes : (m0 + m) * bytes ≤ 140737488355328)
    (h : ∀ v' w', w'.ownsRow base e size v' (m0 + m) (xs ++ news) → Only (OwnB v) w w' → (v'.ownBlock = v.ownBlock ∨ v'.ownBlock = some w.heap.size) → (v' = .slice none 0 0 ↔ v = .slice none 0 0 ∧ m = 0) → wpListIn F n P ops Q rest (a.put o.dst v') w') :
    wpListIn F n P ops Q (o :: rest) a w := by
  obtain ⟨v1, w1, hr, h2, h3, h4, h5⟩ := run_app (P := P) w t o.type e z size bytes ht hinfo hzs hsz hb0 base v m0 xs hown hbase A m c news hl hnews h1 hbytes
  refine wpListIn_plain hgd fun K hK' => ?_
  unfold Oper.wpIn
  refine ⟨?_, ?_⟩
  · simp [Oper.about, ho, resolve, Target.leads, Sem.run_pure]
  · rw [Oper.semAt_plain F _ _ (by rw [ho]; intro c hc'; cases hc')]
    simp only [execOp, ho, resolve, invoke, builtin, Sem.run_bind, Sem.run_pure, Result.andThen_ok, List.map_toArray, List.map_cons, List.map_nil, hs, hx, hr]
    exact hK' _ _ (h v1 w1 h2 (only_grown h3) h4 h5)
end Go.Proofs.Ytacgkoclammggaa
