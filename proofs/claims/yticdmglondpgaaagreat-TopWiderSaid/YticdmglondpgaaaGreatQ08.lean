/-
  Texts on the program, part 8: Range, RangeF, Range2, Strm3, Drn, RangeA, RangeN, Values, RangeAN.
-/
import Derived.RangeFuncNested
import Derived.RangeFuncBound
import Derived.RangeFuncCalls
import Derived.RangeFuncLeaves
import Derived.WalkKit
import Derived.OwnWalkIn
import Derived.TacticsInMore
import Derived.LoopNIn
import Derived.LoopIn
import Derived.Test.YticdmglondpgaaaGreatQ02
import Derived.Test.YticdmglondpgaaaGreatQ03

/-! ## Range: A range over a function whose iterator changes cells between two rounds (a source that is drawn of, a heap that is popped): the law of the statement, over an iterator's contract that names the blocks D which it may change and what it holds at the end. Condition: the loop's body keeps what the iterator asks (Kp), and the caller's word I abides the iterator's steps. -/
namespace Go.Proofs.YticdmglondpgaaaGreat
open Go.RowKit
set_option linter.unusedVariables false
set_option maxRecDepth 100000

/-- Nothing has turned but blocks of D, and the loop's own, B + 1. -/
def Step (D : Nat → Prop) (B : Nat) (w w' : World) : Prop := Only (fun k => D k ∨ k = B + 1) w w'
theorem Step.of_only {D : Nat → Prop} {B : Nat} {w w' : World} (h : Only D w w') : Step D B w w' := Only.mono h fun _ _ h => .inl h
theorem Step.putObj {D : Nat → Prop} {B : Nat} {w : World} (o' : Obj) : Step D B w (w.putObj (B + 1) o') :=
  ⟨rfl, rfl, rfl, by simp, fun k _ hk => World.putObj_heap_other fun e => hk (.inr e)⟩

variable {F : Fence} {n : Nat} {P : Program}

/-- The contract of an iterator that may change blocks of D: X of what is yielded, S, Sp of the world at its end. -/
def IterD {α : Type} (F : Fence) (n : Nat) (P : Program) (g : Nat) (lb : Array Value) (encs : α → Array Value) (D : Nat → Prop) (Kp : World → World → Prop) (X : List α → α → World → World → Prop) (S Sp : List α → World → Prop) (N : Nat) (w : World) : Prop :=
  ∀ (l : Nat) (J Jx : List α → World → Prop) (W : World), Below w.heap.size w W → (∀ pre A B, J pre A → Only D A B → J pre B) → (∀ pre A B, Jx pre A → Only D A B → Jx pre B) →
    (∀ pre x A0 A, J pre A0 → Only D A0 A → pre.length < N → X pre x A0 A → YieldAt F (n - 1) P l (encs x) A fun e B =>
      (e = .returned (.bool true) ∧ J (pre ++ [x]) B ∧ Kp A B) ∨ (e = .returned (.bool false) ∧ Jx (pre ++ [x]) B ∧ Kp A B)) →
    J [] W →
    CallsIn F n P g (#[.func (.yield l) #[] #[]] ++ lb) W fun e B => (∃ v, e = .returned v) ∧ ((∃ xs, S xs B ∧ J xs B) ∨ (∃ pre, Sp pre B ∧ Jx pre B))

/-- How a round's body is left. -/
def leftD {α : Type} (B : Nat) (Kp : World → World → Prop) (I : List α → World → Prop) (Ix : Code → List α → World → Prop) (xs : List α) (W : World) : Exit → Act → World → Prop
  | .normal, _, W' => KeepsFrom B W W' ∧ Kp W W' ∧ I xs W'
  | .ret, _, W' => KeepsFrom B W W' ∧ Kp W W' ∧ Ix .ret xs W'
  | .exit id, _, W' => KeepsFrom B W W' ∧ Kp W W' ∧ Ix (.exit id) xs W'
  | .goto t, _, W' => KeepsFrom B W W' ∧ Kp W W' ∧ Ix (.goto t) xs W'
  | .panic _, _, _ => False
  | .outgrown, _, _ => False

theorem wpIn_rangeD {α : Type} {g : Operand} {ps : Array Tmp} {assign body : Code} {Q : Exit → Act → World → Prop} {a : Act} {w : World}
    (hro : F.round = none) (h1 : 1 ≤ n) {gf : Nat} {lb : Array Value} (hg : a.eval g = .func (.func gf) #[] lb) (hFg : F.fn gf) (eg : ∀ args W, (callFunc gf args).run P W = .ok (.enter gf args) W)
    {encs : α → Array Value} {D : Nat → Prop} {Kp : World → World → Prop} {XP : List α → α → World → World → Prop} {S Sp : List α → World → Prop} {N : Nat} (hseq : IterD F (n - 1) P gf lb encs D Kp XP S Sp N w) (hD : ∀ k, D k → k < w.heap.size)
    (hKt : ∀ {A B C : World}, Kp A B → Kp B C → Kp A C) (hKb : ∀ (W : World) (l : Nat) (o o' : Obj), w.heap.size ≤ l → W.heap[l]? = some o → o.isCells = false → Kp W (W.putObj l o'))
    (hXp : ∀ pre x A0 W o', w.heap.size + 2 ≤ A0.heap.size → XP pre x A0 W → XP pre x A0 (W.putObj (w.heap.size + 1) o')) (hS : ∀ xs A B, S xs A → Kp A B → S xs B) (hSp : ∀ xs A B, Sp xs A → Kp A B → Sp xs B) (hps : ∀ x, (encs x).size = ps.size)
    (I : List α → World → Prop) (Ix : Code → List α → World → Prop) (hI : ∀ pre A B, I pre A → Step D w.heap.size A B → I pre B) (hIx : ∀ c pre A B, Ix c pre A → Step D w.heap.size A B → Ix c pre B) (h0 : I [] w) (a₁ : α → Act)
    (hassign : ∀ (l : Nat) (x : α) (W : World) (K : Act → World → Prop), K (a₁ x) W →
      assign.wpIn (F.inRound l) (n - 1 - 1) P (Exit.then K (fun _ _ _ => False)) { tmps := (ps.zip (encs x)).foldl (fun t (p, v) => t.setIfInBounds p v) a.tmps, defers := [] } W)
    (hbody : ∀ (l : Nat) (pre : List α) (x : α) (A0 W : World), I pre W → pre.length < N → (w.heap.size + 2 ≤ A0.heap.size ∧ A0.heap.size ≤ W.heap.size) → I pre A0 → Step D w.heap.size A0 W → XP pre x A0 W → body.wpIn (F.inRound l) (n - 1 - 1) P (leftD w.heap.size Kp I Ix (pre ++ [x]) W) (a₁ x) W)
    (hdone : ∀ (b : Nat) (xs : List α) (W : World), b = w.heap.size → S xs W → I xs W → W.heap[b]? = some (.deferred (some [])) → Q .normal { a with defers := { target := .collected b, args := #[] } :: a.defers } W)
    (hstop : ∀ (b : Nat) (c : Code) (pre : List α) (W : World), b = w.heap.size → Sp pre W → Ix c pre W → W.heap[b]? = some (.deferred (some [])) → c.wpIn F n P Q { a with defers := { target := .collected b, args := #[] } :: a.defers } W) :
    (Code.rangeFunc g ps assign body).wpIn F n P Q a w := by
  refine wpIn_rangeFunc fun fn hfn => ?_
  rw [hro]
  obtain ⟨R, hR⟩ : ∃ R : LoopState → Option Code → Loop, R = fun st pe => { state := st, pending := pe, fn, tmps := a.tmps, params := ps, assign, body, defers := w.heap.size } := ⟨_, rfl⟩
  obtain ⟨B, hB⟩ : ∃ B, w.heap.size = B := ⟨_, rfl⟩
  obtain ⟨W1, hW1⟩ : ∃ W1, (w.alloc (.deferred (some []))).alloc (.loop (R .ready none)) = W1 := ⟨_, rfl⟩
  have hL1 : W1.heap[B + 1]? = some (.loop (R .ready none)) := by
    have h := World.alloc_heap_new (w.alloc (.deferred (some []))) (.loop (R .ready none))
    rw [World.size_alloc, hW1, hB] at h
    exact h
  have hd0 : (w.alloc (.deferred (some []))).heap[B]? = some (.deferred (some [])) := by rw [← hB]; exact World.alloc_heap_new w _
  have hd1 : W1.heap[B]? = some (.deferred (some [])) := by
    rw [← hW1]
    exact (Below.heap_alloc _ _ _ (by rw [World.size_alloc, hB]; omega)).trans hd0
  have hs1 : Step D w.heap.size w W1 := by rw [← hW1]; exact Step.of_only ((Only.of_below (below_alloc1 (Below.refl _ _) _)).trans (Only.of_below (below_alloc1 (Below.refl _ _) _)))
  have hb1 : Below w.heap.size w W1 := by rw [← hW1]; exact below_alloc1 (below_alloc1 (Below.refl _ _) _) _
  have hnD : ¬ D B ∧ ¬ D (B + 1) := ⟨fun h => by have := hD _ h; omega, fun h => by have := hD _ h; omega⟩
  refine ⟨B + 1, [{ target := .collected B, args := #[] }], W1, { target := .fn (.func gf) lb, args := #[.func (.yield (B + 1)) #[] #[]] }, W1, gf, #[.func (.yield (B + 1)) #[] #[]] ++ lb, W1, ?_, ?_, ?_, ?_, fun _ => h1, ?_⟩
  · rw [← hW1, hR, ← hB]; exact run_enterLoop_outer _ _ _ _ _
  · simp only [resolve, hg]
    simp [go_sem]
  · intro f' hf'
    simp [Target.leads] at hf'
    subst hf'
    exact hFg
  · simp [invoke, go_sem, eg]
  refine (hseq (B + 1) (fun pre W => I pre W ∧ W.heap[B + 1]? = some (.loop (R .ready none)) ∧ W.heap[B]? = some (.deferred (some [])))
    (fun pre W => ∃ c, Ix c pre W ∧ W.heap[B + 1]? = some (.loop (R .done (some c))) ∧ W.heap[B]? = some (.deferred (some []))) W1 hb1
    (fun pre X Y h ho => ⟨hI _ _ _ h.1 (Step.of_only ho), ho.obj h.2.1 hnD.2, ho.obj h.2.2 hnD.1⟩)
    (fun pre X Y h ho => by obtain ⟨c, h2, h3, h4⟩ := h; exact ⟨c, hIx _ _ _ _ h2 (Step.of_only ho), ho.obj h3 hnD.2, ho.obj h4 hnD.1⟩)
    ?_ ⟨hI _ _ _ h0 hs1, hL1, hd1⟩).mono ?_
  · rintro pre x A0 W ⟨hi0, hl0, hd0'⟩ hoA hlen hx
    have hi := hI _ _ _ hi0 (Step.of_only (B := w.heap.size) hoA)
    have hl := hoA.obj hl0 hnD.2
    have hd := hoA.obj hd0' hnD.1
    have hzA : w.heap.size + 2 ≤ A0.heap.size := by have := (Array.getElem?_eq_some_iff.1 hl0).1; omega
    have hlt : B + 1 < W.heap.size := (Array.getElem?_eq_some_iff.1 hl).1
    have hy := run_yield (P := P) (args := encs x) hl (by rw [hR]; exact hps x)
    rw [hR] at hy
    refine ⟨fn, _, assign, body, hy, roundIn_of_wpIn hfn (hassign _ x W _ ⟨_, run_beginRound hl (by rw [hR]), ?_⟩)⟩
    obtain ⟨X, hX⟩ : ∃ X, W.putObj (B + 1) (.loop { R .ready none with state := .busy }) = X := ⟨_, rfl⟩
    rw [hX]
    have hlX : X.heap[B + 1]? = some (.loop { R .ready none with state := .busy }) := by rw [← hX]; exact World.putObj_heap_same hlt
    have hdX : X.heap[B]? = some (.deferred (some [])) := by rw [← hX]; exact (World.putObj_heap_other (by omega)).trans hd
    have hkX : Kp W X := by rw [← hX]; exact hKb _ _ _ _ (by omega) hl rfl
    have hiX : I pre X := hI _ _ _ hi (by rw [← hX, hB]; exact Step.putObj _)
    have hxX : XP pre x A0 X := by rw [← hX, ← hB]; exact hXp _ _ _ _ _ hzA hx
    have hzX : w.heap.size + 2 ≤ A0.heap.size ∧ A0.heap.size ≤ X.heap.size := ⟨hzA, by rw [← hX, World.putObj_size]; exact hoA.size⟩
    have hstX : Step D w.heap.size A0 X := (Step.of_only (B := w.heap.size) hoA).trans (by rw [← hX, hB]; exact Step.putObj _)
    refine wpIn_mono (hbody _ pre x A0 X hiX hlen hzX hi0 hstX hxX) ?_
    have fin : ∀ (jump : Option Code) (Y : World), KeepsFrom w.heap.size X Y →
        (Instr.endRound (B + 1) jump).run P Y = .ok (.bool jump.isNone) (Y.putObj (B + 1) (.loop (R (if jump.isNone then .ready else .done) jump))) ∧
        (Y.putObj (B + 1) (.loop (R (if jump.isNone then .ready else .done) jump))).heap[B + 1]? = some (.loop (R (if jump.isNone then .ready else .done) jump)) ∧
        (Y.putObj (B + 1) (.loop (R (if jump.isNone then .ready else .done) jump))).heap[B]? = some (.deferred (some [])) ∧
        Step D w.heap.size Y (Y.putObj (B + 1) (.loop (R (if jump.isNone then .ready else .done) jump))) ∧ Kp Y (Y.putObj (B + 1) (.loop (R (if jump.isNone then .ready else .done) jump))) := fun jump Y hk => by
      have hl3 := hk.same _ _ (by omega) hlX rfl
      have hd3 := hk.same _ _ (by omega) hdX rfl
      have hr := run_endRound (P := P) jump hl3
      rw [hR] at hr ⊢
      exact ⟨hr, World.putObj_heap_same (Array.getElem?_eq_some_iff.1 hl3).1, (World.putObj_heap_other (by omega)).trans hd3, (by rw [hB]; exact Step.putObj _), hKb _ _ _ _ (by omega) hl3 rfl⟩
    rintro e a3 Y hp
    cases e with
    | normal =>
      obtain ⟨hk3, hkp, hi3⟩ := hp
      obtain ⟨hr, hl4, hd4, hst, hk4⟩ := fin none Y hk3
      exact ⟨_, _, hr, .inl ⟨rfl, ⟨hI _ _ _ hi3 hst, hl4, hd4⟩, hKt (hKt hkX hkp) hk4⟩⟩
    | ret =>
      obtain ⟨hk3, hkp, hi3⟩ := hp
      obtain ⟨hr, hl4, hd4, hst, hk4⟩ := fin (some .ret) Y hk3
      exact ⟨_, _, hr, .inr ⟨rfl, ⟨.ret, hIx _ _ _ _ hi3 hst, hl4, hd4⟩, hKt (hKt hkX hkp) hk4⟩⟩
    | exit id =>
      obtain ⟨hk3, hkp, hi3⟩ := hp
      obtain ⟨hr, hl4, hd4, hst, hk4⟩ := fin (some (.exit id)) Y hk3
      exact ⟨_, _, hr, .inr ⟨rfl, ⟨.exit id, hIx _ _ _ _ hi3 hst, hl4, hd4⟩, hKt (hKt hkX hkp) hk4⟩⟩
    | goto t =>
      obtain ⟨hk3, hkp, hi3⟩ := hp
      obtain ⟨hr, hl4, hd4, hst, hk4⟩ := fin (some (.goto t)) Y hk3
      exact ⟨_, _, hr, .inr ⟨rfl, ⟨.goto t, hIx _ _ _ _ hi3 hst, hl4, hd4⟩, hKt (hKt hkX hkp) hk4⟩⟩
    | panic ch => exact hp.elim
    | outgrown => exact hp.elim
  · rintro e Y ⟨⟨v, rfl⟩, (⟨xs, hs, hi, hl, hd⟩ | ⟨pre, hs, c, hi, hl, hd⟩)⟩
    · have hr := run_endLoop (P := P) hl (by rw [hR]; simp)
      have hlt := (Array.getElem?_eq_some_iff.1 hl).1
      refine ⟨none, _, by rw [hR] at hr; exact hr, ?_⟩
      exact hdone B xs _ hB.symm (hS _ _ _ hs (hKb _ _ _ _ (by omega) hl rfl)) (hI _ _ _ hi ((by rw [hB]; exact Step.putObj _))) ((World.putObj_heap_other (by omega)).trans hd)
    · have hr := run_endLoop (P := P) hl (by rw [hR]; simp)
      refine ⟨some c, _, by rw [hR] at hr; exact hr, ?_⟩
      exact hstop B c pre _ hB.symm (hSp _ _ _ hs (hKb _ _ _ _ (by omega) hl rfl)) (hIx _ _ _ _ hi ((by rw [hB]; exact Step.putObj _))) ((World.putObj_heap_other (by omega)).trans hd)

theorem results_boxed {P : Program} {w : World} {fn : Func} {t : Tmp} {T : TypeId} (h : fn.results = #[.cell t T]) (hT : P.underlying T = some .bool) (tmps : Array Value) (b : Nat) (v : Bool) (ht : tmps.getD t undef = .pointer (some ⟨b, 0, none⟩)) (hc : w.cell? ⟨b, 0, none⟩ = some (.bool v)) :
    (results fn tmps).run P w = .ok (.bool v) w := by
  have ht2 : tmps[t]?.getD undef = .pointer (some ⟨b, 0, none⟩) := by simpa using ht
  simp [results, h, ht2, loadVar, go_sem, isAgg, run_underlying hT, hc]
theorem own_cells {w : World} {base : Nat} {e : TypeId} {size n : Nat} {v : Value} {xs : List Value} (h : w.ownsRow base e size v n xs) (k : Nat) (hk : v.ownBlock = some k) : ∃ cs t f, w.heap[k]? = some (.cells cs t f) := by
  rcases h.2 with ⟨rfl, _⟩ | ⟨g, cap, cur, rfl, hb, hg, _⟩
  · simp [Value.ownBlock] at hk
  · obtain rfl : g = k := by simpa [Value.ownBlock] using hk
    exact ⟨_, _, _, hg⟩
theorem wpListIn_app (w : World) {ops : Array Oper} {rest : List Oper} {o : Oper} {a : Act} {Q : Exit → Act → World → Prop} (hgd : o.guard = none) (s x : Operand) (t e : TypeId)
    (ho : o.op = .call { callee := .builtin .append, args := #[s, x], argTypes := #[t, t] })
    (z : Value) (size bytes : Nat) (ht : P.underlying t = some (.slice e)) (hinfo : (P.info? e).map (fun i => (i.zero, i.size, i.bytes)) = some (some z, size, bytes)) (hzs : z.cells.size = size) (hsz : 0 < size) (hb0 : 0 < bytes)
    (base : Nat) (v : Value) (m0 : Nat) (xs : List Value) (hs : a.eval s = v) (A : Option Addr) (m c : Nat) (hx : a.eval x = .slice A m c) (hown : w.ownsRow base e size v m0 xs) (hbase : base ≤ w.heap.size)
    (news : List Value) (hl : news.length = m * size) (hnews : RdC w A news) (h1 : ∀ u ∈ news, u.oneCell' = true) (hbytes : (m0 + m) * bytes ≤ 140737488355328)
    (h : ∀ v' w', w'.ownsRow base e size v' (m0 + m) (xs ++ news) → Only (OwnB v) w w' → (v'.ownBlock = v.ownBlock ∨ v'.ownBlock = some w.heap.size) → (v' = .slice none 0 0 ↔ v = .slice none 0 0 ∧ m = 0) → wpListIn F n P ops Q rest (a.put o.dst v') w') :
    wpListIn F n P ops Q (o :: rest) a w := by
  obtain ⟨v1, w1, hr, h2, h3, h4, h5⟩ := run_app (P := P) w t o.type e z size bytes ht hinfo hzs hsz hb0 base v m0 xs hown hbase A m c news hl hnews h1 hbytes
  refine wpListIn_plain hgd fun K hK' => ?_
  unfold Oper.wpIn
  refine ⟨?_, ?_⟩
  · simp [Oper.about, ho, resolve, Target.leads, Sem.run_pure]
  · rw [Oper.semAt_plain F _ _ (by rw [ho]; intro c hc'; cases hc')]
    simp only [execOp, ho, resolve, invoke, builtin, Sem.run_bind, Sem.run_pure, Result.andThen_ok, List.map_toArray, List.map_cons, List.map_nil, hs, hx, hr]
    exact hK' _ _ (h v1 w1 h2 (only_grown h3) h4 h5)
end Go.Proofs.YticdmglondpgaaaGreat

/-! ## RangeF: A range over a function whose iterator changes cells that it has made itself (a stack between two rounds), too. Condition: as of wpIn_rangeD; the caller's word I abides all that is new. -/
namespace Go.Proofs.YticdmglondpgaaaGreat
open Go.RowKit
set_option linter.unusedVariables false
set_option maxRecDepth 100000

/-- Nothing has turned but blocks of D, and what is new behind B. -/
def StepF (D : Nat → Prop) (B : Nat) (w w' : World) : Prop := Only (fun k => D k ∨ B + 1 ≤ k) w w'
theorem StepF.of_only {D : Nat → Prop} {B : Nat} {w w' : World} (h : Only D w w') : StepF D B w w' := Only.mono h fun _ _ h => .inl h
theorem StepF.putObj {D : Nat → Prop} {B : Nat} {w : World} (o' : Obj) : StepF D B w (w.putObj (B + 1) o') :=
  ⟨rfl, rfl, rfl, by simp, fun k _ hk => World.putObj_heap_other fun e => hk (.inr (by omega))⟩

variable {F : Fence} {n : Nat} {P : Program}

/-- The contract of an iterator that may change blocks of D, and what it made itself. -/
def IterF {α : Type} (F : Fence) (n : Nat) (P : Program) (g : Nat) (lb : Array Value) (encs : α → Array Value) (D : Nat → Prop) (Kp : World → World → Prop) (X : List α → α → World → World → Prop) (S Sp : List α → World → Prop) (N : Nat) (w : World) : Prop :=
  ∀ (l : Nat) (J Jx : List α → World → Prop) (W : World), Below w.heap.size w W → (∀ pre A B, J pre A → Only (fun k => D k ∨ W.heap.size ≤ k) A B → J pre B) → (∀ pre A B, Jx pre A → Only (fun k => D k ∨ W.heap.size ≤ k) A B → Jx pre B) →
    (∀ pre x A0 A, J pre A0 → Only (fun k => D k ∨ W.heap.size ≤ k) A0 A → pre.length < N → X pre x A0 A → YieldAt F (n - 1) P l (encs x) A fun e B =>
      (e = .returned (.bool true) ∧ J (pre ++ [x]) B ∧ Kp A B) ∨ (e = .returned (.bool false) ∧ Jx (pre ++ [x]) B ∧ Kp A B)) →
    J [] W →
    CallsIn F n P g (#[.func (.yield l) #[] #[]] ++ lb) W fun e B => (∃ v, e = .returned v) ∧ ((∃ xs, S xs B ∧ J xs B) ∨ (∃ pre, Sp pre B ∧ Jx pre B))

theorem wpIn_rangeF {α : Type} {g : Operand} {ps : Array Tmp} {assign body : Code} {Q : Exit → Act → World → Prop} {a : Act} {w : World}
    (hro : F.round = none) (h1 : 1 ≤ n) {gf : Nat} {lb : Array Value} (hg : a.eval g = .func (.func gf) #[] lb) (hFg : F.fn gf) (eg : ∀ args W, (callFunc gf args).run P W = .ok (.enter gf args) W)
    {encs : α → Array Value} {D : Nat → Prop} {Kp : World → World → Prop} {XP : List α → α → World → World → Prop} {S Sp : List α → World → Prop} {N : Nat} (hseq : IterF F (n - 1) P gf lb encs D Kp XP S Sp N w) (hD : ∀ k, D k → k < w.heap.size)
    (hKt : ∀ {A B C : World}, Kp A B → Kp B C → Kp A C) (hKb : ∀ (W : World) (l : Nat) (o o' : Obj), w.heap.size ≤ l → W.heap[l]? = some o → o.isCells = false → Kp W (W.putObj l o'))
    (hXp : ∀ pre x A0 W o', w.heap.size + 2 ≤ A0.heap.size → XP pre x A0 W → XP pre x A0 (W.putObj (w.heap.size + 1) o')) (hS : ∀ xs A B, S xs A → Kp A B → S xs B) (hSp : ∀ xs A B, Sp xs A → Kp A B → Sp xs B) (hps : ∀ x, (encs x).size = ps.size)
    (I : List α → World → Prop) (Ix : Code → List α → World → Prop) (hI : ∀ pre A B, I pre A → StepF D w.heap.size A B → I pre B) (hIx : ∀ c pre A B, Ix c pre A → StepF D w.heap.size A B → Ix c pre B) (h0 : I [] w) (a₁ : α → Act)
    (hassign : ∀ (l : Nat) (x : α) (W : World) (K : Act → World → Prop), K (a₁ x) W →
      assign.wpIn (F.inRound l) (n - 1 - 1) P (Exit.then K (fun _ _ _ => False)) { tmps := (ps.zip (encs x)).foldl (fun t (p, v) => t.setIfInBounds p v) a.tmps, defers := [] } W)
    (hbody : ∀ (l : Nat) (pre : List α) (x : α) (A0 W : World), I pre W → pre.length < N → (w.heap.size + 2 ≤ A0.heap.size ∧ A0.heap.size ≤ W.heap.size) → I pre A0 → StepF D w.heap.size A0 W → XP pre x A0 W → body.wpIn (F.inRound l) (n - 1 - 1) P (leftD w.heap.size Kp I Ix (pre ++ [x]) W) (a₁ x) W)
    (hdone : ∀ (b : Nat) (xs : List α) (W : World), b = w.heap.size → S xs W → I xs W → W.heap[b]? = some (.deferred (some [])) → Q .normal { a with defers := { target := .collected b, args := #[] } :: a.defers } W)
    (hstop : ∀ (b : Nat) (c : Code) (pre : List α) (W : World), b = w.heap.size → Sp pre W → Ix c pre W → W.heap[b]? = some (.deferred (some [])) → c.wpIn F n P Q { a with defers := { target := .collected b, args := #[] } :: a.defers } W) :
    (Code.rangeFunc g ps assign body).wpIn F n P Q a w := by
  refine wpIn_rangeFunc fun fn hfn => ?_
  rw [hro]
  obtain ⟨R, hR⟩ : ∃ R : LoopState → Option Code → Loop, R = fun st pe => { state := st, pending := pe, fn, tmps := a.tmps, params := ps, assign, body, defers := w.heap.size } := ⟨_, rfl⟩
  obtain ⟨B, hB⟩ : ∃ B, w.heap.size = B := ⟨_, rfl⟩
  obtain ⟨W1, hW1⟩ : ∃ W1, (w.alloc (.deferred (some []))).alloc (.loop (R .ready none)) = W1 := ⟨_, rfl⟩
  have hL1 : W1.heap[B + 1]? = some (.loop (R .ready none)) := by
    have h := World.alloc_heap_new (w.alloc (.deferred (some []))) (.loop (R .ready none))
    rw [World.size_alloc, hW1, hB] at h
    exact h
  have hd0 : (w.alloc (.deferred (some []))).heap[B]? = some (.deferred (some [])) := by rw [← hB]; exact World.alloc_heap_new w _
  have hd1 : W1.heap[B]? = some (.deferred (some [])) := by
    rw [← hW1]
    exact (Below.heap_alloc _ _ _ (by rw [World.size_alloc, hB]; omega)).trans hd0
  have hs1 : StepF D w.heap.size w W1 := by rw [← hW1]; exact StepF.of_only ((Only.of_below (below_alloc1 (Below.refl _ _) _)).trans (Only.of_below (below_alloc1 (Below.refl _ _) _)))
  have hb1 : Below w.heap.size w W1 := by rw [← hW1]; exact below_alloc1 (below_alloc1 (Below.refl _ _) _) _
  have hz1 : W1.heap.size = B + 2 := by rw [← hW1, World.size_alloc, World.size_alloc, hB]
  have hnD : ¬ (D B ∨ W1.heap.size ≤ B) ∧ ¬ (D (B + 1) ∨ W1.heap.size ≤ B + 1) := ⟨fun h => h.elim (fun h => by have := hD _ h; omega) fun h => by omega, fun h => h.elim (fun h => by have := hD _ h; omega) fun h => by omega⟩
  have hof : ∀ {X Y : World}, Only (fun k => D k ∨ W1.heap.size ≤ k) X Y → StepF D w.heap.size X Y := fun h => Only.mono h fun k _ h => h.elim .inl fun h => .inr (by omega)
  refine ⟨B + 1, [{ target := .collected B, args := #[] }], W1, { target := .fn (.func gf) lb, args := #[.func (.yield (B + 1)) #[] #[]] }, W1, gf, #[.func (.yield (B + 1)) #[] #[]] ++ lb, W1, ?_, ?_, ?_, ?_, fun _ => h1, ?_⟩
  · rw [← hW1, hR, ← hB]; exact run_enterLoop_outer _ _ _ _ _
  · simp only [resolve, hg]
    simp [go_sem]
  · intro f' hf'
    simp [Target.leads] at hf'
    subst hf'
    exact hFg
  · simp [invoke, go_sem, eg]
  refine (hseq (B + 1) (fun pre W => I pre W ∧ W.heap[B + 1]? = some (.loop (R .ready none)) ∧ W.heap[B]? = some (.deferred (some [])))
    (fun pre W => ∃ c, Ix c pre W ∧ W.heap[B + 1]? = some (.loop (R .done (some c))) ∧ W.heap[B]? = some (.deferred (some []))) W1 hb1
    (fun pre X Y h ho => ⟨hI _ _ _ h.1 (hof ho), ho.obj h.2.1 hnD.2, ho.obj h.2.2 hnD.1⟩)
    (fun pre X Y h ho => by obtain ⟨c, h2, h3, h4⟩ := h; exact ⟨c, hIx _ _ _ _ h2 (hof ho), ho.obj h3 hnD.2, ho.obj h4 hnD.1⟩)
    ?_ ⟨hI _ _ _ h0 hs1, hL1, hd1⟩).mono ?_
  · rintro pre x A0 W ⟨hi0, hl0, hd0'⟩ hoA hlen hx
    have hi := hI _ _ _ hi0 (hof hoA)
    have hl := hoA.obj hl0 hnD.2
    have hd := hoA.obj hd0' hnD.1
    have hzA : w.heap.size + 2 ≤ A0.heap.size := by have := (Array.getElem?_eq_some_iff.1 hl0).1; omega
    have hlt : B + 1 < W.heap.size := (Array.getElem?_eq_some_iff.1 hl).1
    have hy := run_yield (P := P) (args := encs x) hl (by rw [hR]; exact hps x)
    rw [hR] at hy
    refine ⟨fn, _, assign, body, hy, roundIn_of_wpIn hfn (hassign _ x W _ ⟨_, run_beginRound hl (by rw [hR]), ?_⟩)⟩
    obtain ⟨X, hX⟩ : ∃ X, W.putObj (B + 1) (.loop { R .ready none with state := .busy }) = X := ⟨_, rfl⟩
    rw [hX]
    have hlX : X.heap[B + 1]? = some (.loop { R .ready none with state := .busy }) := by rw [← hX]; exact World.putObj_heap_same hlt
    have hdX : X.heap[B]? = some (.deferred (some [])) := by rw [← hX]; exact (World.putObj_heap_other (by omega)).trans hd
    have hkX : Kp W X := by rw [← hX]; exact hKb _ _ _ _ (by omega) hl rfl
    have hiX : I pre X := hI _ _ _ hi (by rw [← hX, hB]; exact StepF.putObj _)
    have hxX : XP pre x A0 X := by rw [← hX, ← hB]; exact hXp _ _ _ _ _ hzA hx
    have hzX : w.heap.size + 2 ≤ A0.heap.size ∧ A0.heap.size ≤ X.heap.size := ⟨hzA, by rw [← hX, World.putObj_size]; exact hoA.size⟩
    have hstX : StepF D w.heap.size A0 X := (hof hoA).trans (by rw [← hX, hB]; exact StepF.putObj _)
    refine wpIn_mono (hbody _ pre x A0 X hiX hlen hzX hi0 hstX hxX) ?_
    have fin : ∀ (jump : Option Code) (Y : World), KeepsFrom w.heap.size X Y →
        (Instr.endRound (B + 1) jump).run P Y = .ok (.bool jump.isNone) (Y.putObj (B + 1) (.loop (R (if jump.isNone then .ready else .done) jump))) ∧
        (Y.putObj (B + 1) (.loop (R (if jump.isNone then .ready else .done) jump))).heap[B + 1]? = some (.loop (R (if jump.isNone then .ready else .done) jump)) ∧
        (Y.putObj (B + 1) (.loop (R (if jump.isNone then .ready else .done) jump))).heap[B]? = some (.deferred (some [])) ∧
        StepF D w.heap.size Y (Y.putObj (B + 1) (.loop (R (if jump.isNone then .ready else .done) jump))) ∧ Kp Y (Y.putObj (B + 1) (.loop (R (if jump.isNone then .ready else .done) jump))) := fun jump Y hk => by
      have hl3 := hk.same _ _ (by omega) hlX rfl
      have hd3 := hk.same _ _ (by omega) hdX rfl
      have hr := run_endRound (P := P) jump hl3
      rw [hR] at hr ⊢
      exact ⟨hr, World.putObj_heap_same (Array.getElem?_eq_some_iff.1 hl3).1, (World.putObj_heap_other (by omega)).trans hd3, (by rw [hB]; exact StepF.putObj _), hKb _ _ _ _ (by omega) hl3 rfl⟩
    rintro e a3 Y hp
    cases e with
    | normal =>
      obtain ⟨hk3, hkp, hi3⟩ := hp
      obtain ⟨hr, hl4, hd4, hst, hk4⟩ := fin none Y hk3
      exact ⟨_, _, hr, .inl ⟨rfl, ⟨hI _ _ _ hi3 hst, hl4, hd4⟩, hKt (hKt hkX hkp) hk4⟩⟩
    | ret =>
      obtain ⟨hk3, hkp, hi3⟩ := hp
      obtain ⟨hr, hl4, hd4, hst, hk4⟩ := fin (some .ret) Y hk3
      exact ⟨_, _, hr, .inr ⟨rfl, ⟨.ret, hIx _ _ _ _ hi3 hst, hl4, hd4⟩, hKt (hKt hkX hkp) hk4⟩⟩
    | exit id =>
      obtain ⟨hk3, hkp, hi3⟩ := hp
      obtain ⟨hr, hl4, hd4, hst, hk4⟩ := fin (some (.exit id)) Y hk3
      exact ⟨_, _, hr, .inr ⟨rfl, ⟨.exit id, hIx _ _ _ _ hi3 hst, hl4, hd4⟩, hKt (hKt hkX hkp) hk4⟩⟩
    | goto t =>
      obtain ⟨hk3, hkp, hi3⟩ := hp
      obtain ⟨hr, hl4, hd4, hst, hk4⟩ := fin (some (.goto t)) Y hk3
      exact ⟨_, _, hr, .inr ⟨rfl, ⟨.goto t, hIx _ _ _ _ hi3 hst, hl4, hd4⟩, hKt (hKt hkX hkp) hk4⟩⟩
    | panic ch => exact hp.elim
    | outgrown => exact hp.elim
  · rintro e Y ⟨⟨v, rfl⟩, (⟨xs, hs, hi, hl, hd⟩ | ⟨pre, hs, c, hi, hl, hd⟩)⟩
    · have hr := run_endLoop (P := P) hl (by rw [hR]; simp)
      have hlt := (Array.getElem?_eq_some_iff.1 hl).1
      refine ⟨none, _, by rw [hR] at hr; exact hr, ?_⟩
      exact hdone B xs _ hB.symm (hS _ _ _ hs (hKb _ _ _ _ (by omega) hl rfl)) (hI _ _ _ hi ((by rw [hB]; exact StepF.putObj _))) ((World.putObj_heap_other (by omega)).trans hd)
    · have hr := run_endLoop (P := P) hl (by rw [hR]; simp)
      refine ⟨some c, _, by rw [hR] at hr; exact hr, ?_⟩
      exact hstop B c pre _ hB.symm (hSp _ _ _ hs (hKb _ _ _ _ (by omega) hl rfl)) (hIx _ _ _ _ hi ((by rw [hB]; exact StepF.putObj _))) ((World.putObj_heap_other (by omega)).trans hd)

end Go.Proofs.YticdmglondpgaaaGreat

/-! ## Range2: A range over a function whose iterator changes cells, where a round may change whatever is not the loop's own. Condition: as of wpIn_rangeD; the round keeps the loop's two blocks. -/
namespace Go.Proofs.YticdmglondpgaaaGreat
open Go.RowKit
set_option linter.unusedVariables false
set_option maxRecDepth 100000
variable {F : Fence} {n : Nat} {P : Program}

/-- The loop's own two blocks, B and B + 1, are kept. -/
structure Keeps2 (B : Nat) (W W' : World) : Prop where
  size : W.heap.size ≤ W'.heap.size
  d : ∀ o : Obj, W.heap[B]? = some o → W'.heap[B]? = some o
  l : ∀ o : Obj, W.heap[B + 1]? = some o → W'.heap[B + 1]? = some o
theorem Keeps2.of_only {B : Nat} {S : Nat → Prop} {W W' : World} (h : Only S W W') (h0 : ¬ S B) (h1 : ¬ S (B + 1)) : Keeps2 B W W' :=
  ⟨h.size, fun o ho => h.obj ho h0, fun o ho => h.obj ho h1⟩
/-- How a round's body is left. -/
def leftD2 {α : Type} (B : Nat) (Kp : World → World → Prop) (I : List α → World → Prop) (Ix : Code → List α → World → Prop) (xs : List α) (W : World) : Exit → Act → World → Prop
  | .normal, _, W' => Keeps2 B W W' ∧ Kp W W' ∧ I xs W'
  | .ret, _, W' => Keeps2 B W W' ∧ Kp W W' ∧ Ix .ret xs W'
  | .exit id, _, W' => Keeps2 B W W' ∧ Kp W W' ∧ Ix (.exit id) xs W'
  | .goto t, _, W' => Keeps2 B W W' ∧ Kp W W' ∧ Ix (.goto t) xs W'
  | .panic _, _, _ => False
  | .outgrown, _, _ => False

theorem wpIn_rangeD2 {α : Type} {g : Operand} {ps : Array Tmp} {assign body : Code} {Q : Exit → Act → World → Prop} {a : Act} {w : World}
    (hro : F.round = none) (h1 : 1 ≤ n) {gf : Nat} {lb : Array Value} (hg : a.eval g = .func (.func gf) #[] lb) (hFg : F.fn gf) (eg : ∀ args W, (callFunc gf args).run P W = .ok (.enter gf args) W)
    {encs : α → Array Value} {D : Nat → Prop} {Kp : World → World → Prop} {XP : List α → α → World → World → Prop} {S Sp : List α → World → Prop} {N : Nat} (hseq : IterD F (n - 1) P gf lb encs D Kp XP S Sp N w) (hD : ∀ k, D k → k < w.heap.size)
    (hKt : ∀ {A B C : World}, Kp A B → Kp B C → Kp A C) (hKb : ∀ (W : World) (l : Nat) (o o' : Obj), w.heap.size ≤ l → W.heap[l]? = some o → o.isCells = false → Kp W (W.putObj l o'))
    (hXp : ∀ pre x A0 W o', w.heap.size + 2 ≤ A0.heap.size → XP pre x A0 W → XP pre x A0 (W.putObj (w.heap.size + 1) o')) (hS : ∀ xs A B, S xs A → Kp A B → S xs B) (hSp : ∀ xs A B, Sp xs A → Kp A B → Sp xs B) (hps : ∀ x, (encs x).size = ps.size)
    (I : List α → World → Prop) (Ix : Code → List α → World → Prop) (hI : ∀ pre A B, I pre A → Step D w.heap.size A B → I pre B) (hIx : ∀ c pre A B, Ix c pre A → Step D w.heap.size A B → Ix c pre B) (h0 : I [] w) (a₁ : α → Act)
    (hassign : ∀ (l : Nat) (x : α) (W : World) (K : Act → World → Prop), K (a₁ x) W →
      assign.wpIn (F.inRound l) (n - 1 - 1) P (Exit.then K (fun _ _ _ => False)) { tmps := (ps.zip (encs x)).foldl (fun t (p, v) => t.setIfInBounds p v) a.tmps, defers := [] } W)
    (hbody : ∀ (l : Nat) (pre : List α) (x : α) (A0 W : World), I pre W → pre.length < N → (w.heap.size + 2 ≤ A0.heap.size ∧ A0.heap.size ≤ W.heap.size) → I pre A0 → Step D w.heap.size A0 W → XP pre x A0 W → body.wpIn (F.inRound l) (n - 1 - 1) P (leftD2 w.heap.size Kp I Ix (pre ++ [x]) W) (a₁ x) W)
    (hdone : ∀ (b : Nat) (xs : List α) (W : World), b = w.heap.size → S xs W → I xs W → W.heap[b]? = some (.deferred (some [])) → Q .normal { a with defers := { target := .collected b, args := #[] } :: a.defers } W)
    (hstop : ∀ (b : Nat) (c : Code) (pre : List α) (W : World), b = w.heap.size → Sp pre W → Ix c pre W → W.heap[b]? = some (.deferred (some [])) → c.wpIn F n P Q { a with defers := { target := .collected b, args := #[] } :: a.defers } W) :
    (Code.rangeFunc g ps assign body).wpIn F n P Q a w := by
  refine wpIn_rangeFunc fun fn hfn => ?_
  rw [hro]
  obtain ⟨R, hR⟩ : ∃ R : LoopState → Option Code → Loop, R = fun st pe => { state := st, pending := pe, fn, tmps := a.tmps, params := ps, assign, body, defers := w.heap.size } := ⟨_, rfl⟩
  obtain ⟨B, hB⟩ : ∃ B, w.heap.size = B := ⟨_, rfl⟩
  obtain ⟨W1, hW1⟩ : ∃ W1, (w.alloc (.deferred (some []))).alloc (.loop (R .ready none)) = W1 := ⟨_, rfl⟩
  have hL1 : W1.heap[B + 1]? = some (.loop (R .ready none)) := by
    have h := World.alloc_heap_new (w.alloc (.deferred (some []))) (.loop (R .ready none))
    rw [World.size_alloc, hW1, hB] at h
    exact h
  have hd0 : (w.alloc (.deferred (some []))).heap[B]? = some (.deferred (some [])) := by rw [← hB]; exact World.alloc_heap_new w _
  have hd1 : W1.heap[B]? = some (.deferred (some [])) := by
    rw [← hW1]
    exact (Below.heap_alloc _ _ _ (by rw [World.size_alloc, hB]; omega)).trans hd0
  have hs1 : Step D w.heap.size w W1 := by rw [← hW1]; exact Step.of_only ((Only.of_below (below_alloc1 (Below.refl _ _) _)).trans (Only.of_below (below_alloc1 (Below.refl _ _) _)))
  have hb1 : Below w.heap.size w W1 := by rw [← hW1]; exact below_alloc1 (below_alloc1 (Below.refl _ _) _) _
  have hnD : ¬ D B ∧ ¬ D (B + 1) := ⟨fun h => by have := hD _ h; omega, fun h => by have := hD _ h; omega⟩
  refine ⟨B + 1, [{ target := .collected B, args := #[] }], W1, { target := .fn (.func gf) lb, args := #[.func (.yield (B + 1)) #[] #[]] }, W1, gf, #[.func (.yield (B + 1)) #[] #[]] ++ lb, W1, ?_, ?_, ?_, ?_, fun _ => h1, ?_⟩
  · rw [← hW1, hR, ← hB]; exact run_enterLoop_outer _ _ _ _ _
  · simp only [resolve, hg]
    simp [go_sem]
  · intro f' hf'
    simp [Target.leads] at hf'
    subst hf'
    exact hFg
  · simp [invoke, go_sem, eg]
  refine (hseq (B + 1) (fun pre W => I pre W ∧ W.heap[B + 1]? = some (.loop (R .ready none)) ∧ W.heap[B]? = some (.deferred (some [])))
    (fun pre W => ∃ c, Ix c pre W ∧ W.heap[B + 1]? = some (.loop (R .done (some c))) ∧ W.heap[B]? = some (.deferred (some []))) W1 hb1
    (fun pre X Y h ho => ⟨hI _ _ _ h.1 (Step.of_only ho), ho.obj h.2.1 hnD.2, ho.obj h.2.2 hnD.1⟩)
    (fun pre X Y h ho => by obtain ⟨c, h2, h3, h4⟩ := h; exact ⟨c, hIx _ _ _ _ h2 (Step.of_only ho), ho.obj h3 hnD.2, ho.obj h4 hnD.1⟩)
    ?_ ⟨hI _ _ _ h0 hs1, hL1, hd1⟩).mono ?_
  · rintro pre x A0 W ⟨hi0, hl0, hd0'⟩ hoA hlen hx
    have hi := hI _ _ _ hi0 (Step.of_only (B := w.heap.size) hoA)
    have hl := hoA.obj hl0 hnD.2
    have hd := hoA.obj hd0' hnD.1
    have hzA : w.heap.size + 2 ≤ A0.heap.size := by have := (Array.getElem?_eq_some_iff.1 hl0).1; omega
    have hlt : B + 1 < W.heap.size := (Array.getElem?_eq_some_iff.1 hl).1
    have hy := run_yield (P := P) (args := encs x) hl (by rw [hR]; exact hps x)
    rw [hR] at hy
    refine ⟨fn, _, assign, body, hy, roundIn_of_wpIn hfn (hassign _ x W _ ⟨_, run_beginRound hl (by rw [hR]), ?_⟩)⟩
    obtain ⟨X, hX⟩ : ∃ X, W.putObj (B + 1) (.loop { R .ready none with state := .busy }) = X := ⟨_, rfl⟩
    rw [hX]
    have hlX : X.heap[B + 1]? = some (.loop { R .ready none with state := .busy }) := by rw [← hX]; exact World.putObj_heap_same hlt
    have hdX : X.heap[B]? = some (.deferred (some [])) := by rw [← hX]; exact (World.putObj_heap_other (by omega)).trans hd
    have hkX : Kp W X := by rw [← hX]; exact hKb _ _ _ _ (by omega) hl rfl
    have hiX : I pre X := hI _ _ _ hi (by rw [← hX, hB]; exact Step.putObj _)
    have hxX : XP pre x A0 X := by rw [← hX, ← hB]; exact hXp _ _ _ _ _ hzA hx
    have hzX : w.heap.size + 2 ≤ A0.heap.size ∧ A0.heap.size ≤ X.heap.size := ⟨hzA, by rw [← hX, World.putObj_size]; exact hoA.size⟩
    have hstX : Step D w.heap.size A0 X := (Step.of_only (B := w.heap.size) hoA).trans (by rw [← hX, hB]; exact Step.putObj _)
    refine wpIn_mono (hbody _ pre x A0 X hiX hlen hzX hi0 hstX hxX) ?_
    have fin : ∀ (jump : Option Code) (Y : World), Keeps2 w.heap.size X Y →
        (Instr.endRound (B + 1) jump).run P Y = .ok (.bool jump.isNone) (Y.putObj (B + 1) (.loop (R (if jump.isNone then .ready else .done) jump))) ∧
        (Y.putObj (B + 1) (.loop (R (if jump.isNone then .ready else .done) jump))).heap[B + 1]? = some (.loop (R (if jump.isNone then .ready else .done) jump)) ∧
        (Y.putObj (B + 1) (.loop (R (if jump.isNone then .ready else .done) jump))).heap[B]? = some (.deferred (some [])) ∧
        Step D w.heap.size Y (Y.putObj (B + 1) (.loop (R (if jump.isNone then .ready else .done) jump))) ∧ Kp Y (Y.putObj (B + 1) (.loop (R (if jump.isNone then .ready else .done) jump))) := fun jump Y hk => by
      have hl3 := (hB ▸ hk : Keeps2 B X Y).l _ hlX
      have hd3 := (hB ▸ hk : Keeps2 B X Y).d _ hdX
      have hr := run_endRound (P := P) jump hl3
      rw [hR] at hr ⊢
      exact ⟨hr, World.putObj_heap_same (Array.getElem?_eq_some_iff.1 hl3).1, (World.putObj_heap_other (by omega)).trans hd3, (by rw [hB]; exact Step.putObj _), hKb _ _ _ _ (by omega) hl3 rfl⟩
    rintro e a3 Y hp
    cases e with
    | normal =>
      obtain ⟨hk3, hkp, hi3⟩ := hp
      obtain ⟨hr, hl4, hd4, hst, hk4⟩ := fin none Y hk3
      exact ⟨_, _, hr, .inl ⟨rfl, ⟨hI _ _ _ hi3 hst, hl4, hd4⟩, hKt (hKt hkX hkp) hk4⟩⟩
    | ret =>
      obtain ⟨hk3, hkp, hi3⟩ := hp
      obtain ⟨hr, hl4, hd4, hst, hk4⟩ := fin (some .ret) Y hk3
      exact ⟨_, _, hr, .inr ⟨rfl, ⟨.ret, hIx _ _ _ _ hi3 hst, hl4, hd4⟩, hKt (hKt hkX hkp) hk4⟩⟩
    | exit id =>
      obtain ⟨hk3, hkp, hi3⟩ := hp
      obtain ⟨hr, hl4, hd4, hst, hk4⟩ := fin (some (.exit id)) Y hk3
      exact ⟨_, _, hr, .inr ⟨rfl, ⟨.exit id, hIx _ _ _ _ hi3 hst, hl4, hd4⟩, hKt (hKt hkX hkp) hk4⟩⟩
    | goto t =>
      obtain ⟨hk3, hkp, hi3⟩ := hp
      obtain ⟨hr, hl4, hd4, hst, hk4⟩ := fin (some (.goto t)) Y hk3
      exact ⟨_, _, hr, .inr ⟨rfl, ⟨.goto t, hIx _ _ _ _ hi3 hst, hl4, hd4⟩, hKt (hKt hkX hkp) hk4⟩⟩
    | panic ch => exact hp.elim
    | outgrown => exact hp.elim
  · rintro e Y ⟨⟨v, rfl⟩, (⟨xs, hs, hi, hl, hd⟩ | ⟨pre, hs, c, hi, hl, hd⟩)⟩
    · have hr := run_endLoop (P := P) hl (by rw [hR]; simp)
      have hlt := (Array.getElem?_eq_some_iff.1 hl).1
      refine ⟨none, _, by rw [hR] at hr; exact hr, ?_⟩
      exact hdone B xs _ hB.symm (hS _ _ _ hs (hKb _ _ _ _ (by omega) hl rfl)) (hI _ _ _ hi ((by rw [hB]; exact Step.putObj _))) ((World.putObj_heap_other (by omega)).trans hd)
    · have hr := run_endLoop (P := P) hl (by rw [hR]; simp)
      refine ⟨some c, _, by rw [hR] at hr; exact hr, ?_⟩
      exact hstop B c pre _ hB.symm (hSp _ _ _ hs (hKb _ _ _ _ (by omega) hl rfl)) (hIx _ _ _ _ hi ((by rw [hB]; exact Step.putObj _))) ((World.putObj_heap_other (by omega)).trans hd)

end Go.Proofs.YticdmglondpgaaaGreat

/-! ## Strm3: All trees' streams (stream.All): the iterator, and the row of sources that a caller keeps of it. Condition: the list reads as numbers of 64 bits. -/
namespace Go.Proofs.YticdmglondpgaaaGreat
open Go.RowKit
set_option linter.unusedVariables false
set_option maxRecDepth 100000
set_option linter.unusedSimpArgs false
attribute [local go_sem] Oper.semAt_some

theorem All_calls (scr : Bool) (seed : Int) (A : Option Addr) (n c : Nat) (trees : Int) (w : World) :
    Calls Tryz.prog 73 #[.agg #[.bool scr, .int .u64 seed, .slice A n c], .int .i64 trees] w fun e w' => e = .returned (.func (.func 118) #[] #[.pointer (some ⟨w.heap.size + 1, 0, none⟩), .pointer (some ⟨w.heap.size, 0, none⟩)]) ∧ w' = (w.alloc (.cells #[.bool scr, .int .u64 seed, .slice A n c] 26)).alloc (.cells #[.int .i64 trees] 3) := by
  go_enter Tryz.func73, Tryz.ntmps73
  go_wp2_with fail
  go_ret
  exact ⟨rfl, rfl⟩
/-- The caller keeps what was before it, and both boxes. -/
def KpB (w0 : World) (bD bT : Nat) (A B : World) : Prop := Only (fun k => ¬ (k < w0.heap.size ∨ k = bD ∨ k = bT)) A B
/-- What is yielded: the next number, and a source that lies in new memory. -/
def XS (scr : Bool) (seed : Int) (l : List Int) (trees : Int) (pre : List (Int × TypeId × Addr)) (x : Int × TypeId × Addr) (A0 W : World) : Prop :=
  x.1 = pre.length ∧ ∃ lo hi, A0.heap.size ≤ lo ∧ hi ≤ W.heap.size ∧ At W lo hi (.iface x.2.1 (.pointer (some x.2.2))) (offT scr seed l pre.length trees) 0
theorem KpB.putObj {w0 W : World} {bD bT k : Nat} {o' : Obj} (h0 : w0.heap.size ≤ k) (h1 : k ≠ bD) (h2 : k ≠ bT) : KpB w0 bD bT W (W.putObj k o') :=
  ⟨rfl, rfl, rfl, by simp, fun j _ hk => World.putObj_heap_other fun e => hk fun h => by omega⟩
theorem XS.putObj {scr : Bool} {seed : Int} {l : List Int} {trees : Int} {n : Nat} (pre : List (Int × TypeId × Addr)) (x : Int × TypeId × Addr) (A0 W : World) (o' : Obj) (hz : n + 2 ≤ A0.heap.size) (h : XS scr seed l trees pre x A0 W) : XS scr seed l trees pre x A0 (W.putObj (n + 1) o') := by
  obtain ⟨h1, lo, hi, h2, h3, h4⟩ := h
  have ho : Only (fun k => k = n + 1) W (W.putObj (n + 1) o') := ⟨rfl, rfl, rfl, by simp, fun j _ hk => World.putObj_heap_other hk⟩
  exact ⟨h1, lo, hi, h2, by simpa using h3, h4.only ho fun b hb1 hb2 h => by omega⟩
set_option maxHeartbeats 1600000 in
theorem all_iter (m bD bT : Nat) (scr : Bool) (seed : Int) (A : Option Addr) (c : Nat) (l : List Int) (trees : Int) (n : Nat) (w0 w : World) (hnn : trees.toNat = n) (hn : n ≤ 1000) (hw : Below w0.heap.size w0 w) (ha : Rd w0 .u64 A l) (hu : U64 l) (hl : l.length ≤ 1000000)
    (hbD : w.heap[bD]? = some (.cells #[.bool scr, .int .u64 seed, .slice A l.length c] 26 (0, 0))) (hbT : w.heap[bT]? = some (.cells #[.int .i64 trees] 3 (0, 0))) :
    IterD Fence.wide m Tryz.prog 118 #[.pointer (some ⟨bT, 0, none⟩), .pointer (some ⟨bD, 0, none⟩)] (fun x : Int × TypeId × Addr => #[.int .i64 x.1, .iface x.2.1 (.pointer (some x.2.2))]) (fun _ => False) (KpB w0 bD bT) (XS scr seed l trees)
      (fun xs W => xs.length = n) (fun xs W => True) n w := by
  intro lp J Jx W hW hJ hJx hY h0
  have HNN := Lib.hid hnn
  clear hnn
  refine callsIn_of_wp Tryz.func118 rfl trivial ?_ rfl
  simp only [Tryz.ntmps118, List.size_toArray, List.length_cons, List.length_nil, Nat.reduceAdd, Nat.reduceSub, Array.replicate_succ, Array.replicate_zero, List.push_toArray, List.append_toArray, List.nil_append, List.cons_append]
  have hD0 := obj_below hW hbD (obj_lt hbD)
  have hT0 := obj_below hW hbT (obj_lt hbT)
  have hcT0 : W.cell? ⟨bT, 0, none⟩ = some (.int .i64 trees) := by simp [World.cell?, hT0]
  have hB0 : Below w0.heap.size w0 W := hw.trans (hW.mono hw.size)
  have HJ := Lib.hid hJ
  have HJX := Lib.hid hJx
  have HY := Lib.hid hY
  have H0 := Lib.hid h0
  have KA := Lib.hid ha
  have HU := Lib.hid hu
  have HD0 := Lib.hid hD0
  have HT0 := Lib.hid hT0
  clear hJ hJx hY h0 ha hu hD0 hT0 hbD hbT
  gi_wp2
  gi_loopw [6] (fun v6 wr => ∃ k : Nat, k ≤ n ∧ v6 = .int .i64 k ∧ ∃ pre : List (Int × TypeId × Addr), pre.length = k ∧ J pre wr ∧ Below w0.heap.size w0 wr ∧ wr.heap[bD]? = some (.cells #[.bool scr, .int .u64 seed, .slice A l.length c] 26 (0, 0)) ∧ wr.heap[bT]? = some (.cells #[.int .i64 trees] 3 (0, 0))) (fun v6 _ => n - (intOf v6).toNat)
  case atStart => exact ⟨0, Nat.zero_le _, rfl, [], rfl, H0.out, hB0, HD0.out, HT0.out⟩
  case round =>
    clear HD0 HT0 H0 hcT0 hB0
    obtain ⟨k, hk, rfl, pre, hpl, hJs, hB, hD, hT⟩ := hrel
    have HPL := Lib.hid hpl
    have HJS := Lib.hid hJs
    have hd0 : wr.cell? ⟨bD, 0, none⟩ = some (.bool scr) := by simp [World.cell?, hD]
    have hd1 : wr.cell? ⟨bD, 1, none⟩ = some (.int .u64 seed) := by simp [World.cell?, hD]
    have hd2 : wr.cell? ⟨bD, 2, none⟩ = some (.slice A l.length c) := by simp [World.cell?, hD]
    have ht0 : wr.cell? ⟨bT, 0, none⟩ = some (.int .i64 trees) := by simp [World.cell?, hT]
    have HD := Lib.hid hD
    have HT := Lib.hid hT
    clear hpl hJs hD hT
    by_cases hlt0 : (k : Int) < trees
    · have hlt : k < n := by have := HNN.out; omega
      have htr : trees ≤ 1000 := by have := HNN.out; omega
      have hlt0' : decide ((k : Int) < trees) = true := decide_eq_true hlt0
      gi_wp2
      refine ⟨trivial, (fun h => by cases h), (callsIn_wide.2 (sOf_calls scr seed A c l k trees _ (KA.out.below hB) HU.out hl (by omega))).mono ?_⟩
      rintro e w2 ⟨v, he, hs, hbn, T, p, rfl⟩
      subst he
      obtain ⟨T, a, e1, hT'⟩ := hs.shape
      injection e1 with e1 e2
      subst e1 e2
      have hat := At.of_src hs
      have hoA : Only (fun _ => False) wr w2 := Only.of_below hbn
      obtain ⟨fn, tmps, assign, body, hy, hR⟩ := HY.out pre (((k : Nat) : Int), T, a) wr w2 HJS.out hoA (by rw [HPL.out]; exact hlt) ⟨by rw [HPL.out], wr.heap.size, w2.heap.size, Nat.le_refl _, Nat.le_refl _, by rw [HPL.out]; exact hat⟩
      have HRD := Lib.hid hR
      have HD2 := Lib.hid (obj_below hbn HD.out (obj_lt HD.out))
      have HT2 := Lib.hid (obj_below hbn HT.out (obj_lt HT.out))
      have hB2 : Below w0.heap.size w0 w2 := hB.trans (hbn.mono hB.size)
      clear hs hat hoA hbn hR HD HT
      gi_wp2
      refine ⟨(fun h => by cases h), HRD.out.mono ?_⟩
      rintro e W3 (⟨rfl, hJ3, hk3⟩ | ⟨rfl, hJx3, hk3⟩)
      · have HJ3 := Lib.hid hJ3
        have hB3 : Below w0.heap.size w0 W3 := hB2.trans (Only.below hk3 hB2.size fun k hk h => h (.inl hk))
        have HD3 := Lib.hid (Only.obj hk3 HD2.out fun h => h (.inr (.inl rfl)))
        have HT3 := Lib.hid (Only.obj hk3 HT2.out fun h => h (.inr (.inr rfl)))
        clear hJ3 hk3
        gi_wp2
        go_roundw
        case rel => exact ⟨k + 1, by omega, by simp, _, by simp [HPL.out], HJ3.out, hB3, HD3.out, HT3.out⟩
        case measure => simp [intOf]; omega
      · have HJ3 := Lib.hid hJx3
        clear hJx3 hk3
        gi_wp2
        refine bodyPost_ret (results_none rfl _ _ _) rfl ?_
        exact ⟨⟨_, rfl⟩, .inr ⟨_, trivial, HJ3.out⟩⟩
    · obtain rfl : k = n := by have := HNN.out; omega
      have hlt0' : decide ((k : Int) < trees) = false := decide_eq_false hlt0
      gi_wp2
      go_end0
      exact ⟨⟨_, rfl⟩, .inl ⟨_, HPL.out, HJS.out⟩⟩

/-! ### a row of sources that is the call's own -/
/-- The row v of sources xs: the j-th lies between lo j and hi j, tells s j, from the k j-th number on. -/
structure SR (W : World) (b0 : Nat) (s : Nat → Nat → Int) (kk : Nat → Nat) (n : Nat) (v : Value) (xs : List Value) (lo hi : Nat → Nat) : Prop where
  row : W.ownsRow b0 46 1 v n xs
  len : xs.length = n
  src : ∀ j, j < n → ∃ T a, xs[j]? = some (.iface T (.pointer (some a))) ∧ At W (lo j) (hi j) (.iface T (.pointer (some a))) (s j) (kk j)
  bnd : ∀ j, j < n → b0 ≤ lo j ∧ hi j ≤ W.heap.size
  dis : ∀ i j, i < n → j < n → i ≠ j → hi i ≤ lo j ∨ hi j ≤ lo i
  own : ∀ j b, j < n → v.ownBlock = some b → b < lo j ∨ hi j ≤ b
theorem SR.start (W : World) (b0 : Nat) (s : Nat → Nat → Int) (kk : Nat → Nat) : SR W b0 s kk 0 (.slice none 0 0) [] (fun _ => 0) (fun _ => 0) :=
  ⟨World.ownsRow_nil _ _ _ _, rfl, fun j h => by omega, fun j h => by omega, fun i j h => by omega, fun j b h => by omega⟩
theorem SR.only {W W' : World} {S : Nat → Prop} {b0 : Nat} {s : Nat → Nat → Int} {kk : Nat → Nat} {n : Nat} {v : Value} {xs : List Value} {lo hi : Nat → Nat} (h : SR W b0 s kk n v xs lo hi) (ho : Only S W W') (hs : ∀ b, b0 ≤ b → b < W.heap.size → ¬ S b) : SR W' b0 s kk n v xs lo hi where
  row := row_only h.row ho fun b hb => hs b (own_base h.row b hb) (row_lt h.row b hb)
  len := h.len
  src := fun j hj => by
    obtain ⟨T, a, h1, h2⟩ := h.src j hj
    exact ⟨T, a, h1, h2.only ho fun b hb1 hb2 => hs b (by have := (h.bnd j hj).1; omega) (by have := (h.bnd j hj).2; omega)⟩
  bnd := fun j hj => ⟨(h.bnd j hj).1, Nat.le_trans (h.bnd j hj).2 ho.size⟩
  dis := h.dis
  own := h.own
theorem SR.add {A0 W W1 W2 : World} {b0 lo' hi' : Nat} {s : Nat → Nat → Int} {kk : Nat → Nat} {n : Nat} {v v' : Value} {xs : List Value} {lo hi : Nat → Nat} {T : TypeId} {a : Addr} (h : SR W b0 s kk n v xs lo hi) (h0 : SR A0 b0 s kk n v xs lo hi) (hb : b0 ≤ A0.heap.size)
    (hat : At W lo' hi' (.iface T (.pointer (some a))) (s n) (kk n)) (hlo : A0.heap.size ≤ lo') (hhi : hi' ≤ W.heap.size) (h1 : Only (fun _ => False) W W1) (hrow : W2.ownsRow b0 46 1 v' (n + 1) (xs ++ [.iface T (.pointer (some a))])) (ho : Only (OwnB v) W1 W2)
    (hv : v'.ownBlock = v.ownBlock ∨ v'.ownBlock = some W1.heap.size) : SR W2 b0 s kk (n + 1) v' (xs ++ [.iface T (.pointer (some a))]) (fun j => if j < n then lo j else lo') (fun j => if j < n then hi j else hi') where
  row := hrow
  len := by simp [h.len]
  src := fun j hj => by
    by_cases hj2 : j < n
    · obtain ⟨T', a', e1, e2⟩ := h.src j hj2
      refine ⟨T', a', by rw [List.getElem?_append_left (by rw [h.len]; exact hj2)]; exact e1, ?_⟩
      simp only [if_pos hj2]
      exact (e2.only h1 fun _ _ _ h => h).only ho fun b hb1 hb2 hob => by have := h.own j b hj2 hob; omega
    · obtain rfl : j = n := by omega
      refine ⟨T, a, by rw [List.getElem?_append_right (by rw [h.len]; exact Nat.le_refl _), h.len]; simp, ?_⟩
      simp only [if_neg hj2]
      exact (hat.only h1 fun _ _ _ h => h).only ho fun b hb1 hb2 hob => by have := row_lt h0.row b hob; omega
  bnd := fun j hj => by
    have hz1 := h1.size
    have hz2 := ho.size
    by_cases hj2 : j < n
    · simp only [if_pos hj2]
      have := h.bnd j hj2
      omega
    · simp only [if_neg hj2]
      omega
  dis := fun i j hi2 hj2 hij => by
    by_cases hi3 : i < n
    · by_cases hj3 : j < n
      · simp only [if_pos hi3, if_pos hj3]; exact h.dis i j hi3 hj3 hij
      · simp only [if_pos hi3, if_neg hj3]; have := (h0.bnd i hi3).2; omega
    · by_cases hj3 : j < n
      · simp only [if_neg hi3, if_pos hj3]; have := (h0.bnd j hj3).2; omega
      · omega
  own := fun j b hj hob => by
    have hz1 := h1.size
    rcases hv with hv | hv
    · rw [hv] at hob
      by_cases hj2 : j < n
      · simp only [if_pos hj2]; exact h.own j b hj2 hob
      · simp only [if_neg hj2]; have := row_lt h0.row b hob; omega
    · rw [hv] at hob
      injection hob with hob
      by_cases hj2 : j < n
      · simp only [if_pos hj2]; have := (h.bnd j hj2).2; omega
      · simp only [if_neg hj2]; omega
theorem SR.draw {W W' : World} {b0 : Nat} {s : Nat → Nat → Int} {kk : Nat → Nat} {n i : Nat} {v : Value} {xs : List Value} {lo hi : Nat → Nat} {T : TypeId} {a : Addr} (h : SR W b0 s kk n v xs lo hi) (hi2 : i < n) (hx : xs[i]? = some (.iface T (.pointer (some a))))
    (hat : At W' (lo i) (hi i) (.iface T (.pointer (some a))) (s i) (kk i + 1)) (ho : Only (Within (lo i) (hi i)) W W') : SR W' b0 s (fun j => if j = i then kk j + 1 else kk j) n v xs lo hi where
  row := row_only h.row ho fun b hb hw => by have := h.own i b hi2 hb; have h1 := hw.1; have h2 := hw.2; omega
  len := h.len
  src := fun j hj => by
    by_cases hji : j = i
    · subst hji
      exact ⟨T, a, hx, by simp only [if_pos rfl]; exact hat⟩
    · obtain ⟨T', a', e1, e2⟩ := h.src j hj
      refine ⟨T', a', e1, ?_⟩
      simp only [if_neg hji]
      exact e2.only ho fun b hb1 hb2 hw => by have := h.dis i j hi2 hj (by omega); have h1 := hw.1; have h2 := hw.2; omega
  bnd := fun j hj => ⟨(h.bnd j hj).1, Nat.le_trans (h.bnd j hj).2 ho.size⟩
  dis := h.dis
  own := h.own
theorem SR.read {W : World} {b0 : Nat} {s : Nat → Nat → Int} {kk : Nat → Nat} {n : Nat} {v : Value} {xs : List Value} {lo hi : Nat → Nat} (h : SR W b0 s kk n v xs lo hi) (j : Nat) (hj : j < n) :
    ∃ A c T a, v = .slice (some A) n c ∧ W.cell? (A.add j) = some (.iface T (.pointer (some a))) ∧ xs[j]? = some (.iface T (.pointer (some a))) ∧ At W (lo j) (hi j) (.iface T (.pointer (some a))) (s j) (kk j) := by
  obtain ⟨A, c, rfl, _⟩ := own_shape h.row
  obtain ⟨T, a, e1, e2⟩ := h.src j hj
  obtain ⟨g, rfl, _, hc, _⟩ := own_cell h.row j hj
  exact ⟨⟨g, 0, none⟩, c, T, a, rfl, by rw [add_plain, hc]; exact e1, e1, e2⟩
theorem SR.shape {W : World} {b0 : Nat} {s : Nat → Nat → Int} {kk : Nat → Nat} {n : Nat} {v : Value} {xs : List Value} {lo hi : Nat → Nat} (h : SR W b0 s kk n v xs lo hi) : ∃ A c, v = .slice A n c := by
  obtain ⟨A, c, rfl, _⟩ := own_shape h.row
  exact ⟨A, c, rfl⟩
theorem SR.congr {W : World} {b0 : Nat} {s : Nat → Nat → Int} {kk kk' : Nat → Nat} {n : Nat} {v : Value} {xs : List Value} {lo hi : Nat → Nat} (h : SR W b0 s kk n v xs lo hi) (hk : ∀ j, j < n → kk' j = kk j) : SR W b0 s kk' n v xs lo hi where
  row := h.row
  len := h.len
  src := fun j hj => by rw [hk j hj]; exact h.src j hj
  bnd := h.bnd
  dis := h.dis
  own := h.own
end Go.Proofs.YticdmglondpgaaaGreat

/-! ## Drn: What is drained of a heap, in plain Lean: pre has come, L is left. No condition beyond the order's. -/
namespace Go.Proofs.YticdmglondpgaaaGreat
open Go.RowKit
set_option linter.unusedVariables false
set_option maxRecDepth 100000
section
variable {α : Type} {lt : α → α → Bool}
def Drn (lt : α → α → Bool) (l pre L : List α) : Prop := (pre ++ L).Perm l ∧ pre.Pairwise (fun a b => lt b a = false) ∧ ∀ a ∈ pre, ∀ b ∈ L, lt b a = false
theorem Drn.nil {l L : List α} (h : L.Perm l) : Drn lt l [] L := ⟨h, List.Pairwise.nil, fun a ha => by simp at ha⟩
theorem Drn.step (hw : WO lt) {l pre L L' : List α} {x : α} (h : Drn lt l pre (x :: L)) (ho : HeapOk lt (x :: L)) (hp : L'.Perm L) : Drn lt l (pre ++ [x]) L' := by
  obtain ⟨h1, h2, h3⟩ := h
  refine ⟨?_, ?_, fun a ha b hb => ?_⟩
  · rw [List.append_assoc]
    exact (List.Perm.append_left pre (hp.cons x)).trans h1
  · rw [List.pairwise_append]
    refine ⟨h2, List.pairwise_singleton _ _, fun a ha b hb => ?_⟩
    simp at hb
    subst hb
    exact h3 a ha b (by simp)
  · have hbL : b ∈ x :: L := List.mem_cons_of_mem _ (hp.subset hb)
    rcases List.mem_append.1 ha with ha | ha
    · exact h3 a ha b hbL
    · simp at ha
      subst ha
      exact ho.first hw (by simp) hbL
theorem Drn.perm {l l' pre L : List α} (h : Drn lt l pre L) (hp : l.Perm l') : Drn lt l' pre L := ⟨h.1.trans hp, h.2⟩
theorem Drn.len {l pre L : List α} (h : Drn lt l pre L) : pre.length + L.length = l.length := by
  have := h.1.length_eq
  simpa using this
end
/-- How many a heap at block b holds. -/
def hpN (b : Nat) (w : World) : Nat := match w.cell? ⟨b, 1, none⟩ with
  | some (.slice _ n _) => n
  | _ => 0
/-- The caller keeps the heap's blocks, and the box. -/
def KpH (v : Value) (b bX : Nat) (A B : World) : Prop := Only (fun k => ¬ (k = b ∨ OwnB v k ∨ k = bX)) A B
theorem KpH.trans {v : Value} {b bX : Nat} {A B C : World} (h : KpH v b bX A B) (k : KpH v b bX B C) : KpH v b bX A C := Only.trans h k
theorem KpH.putObj {v : Value} {b bX n : Nat} (hE : b < n ∧ bX < n ∧ ∀ k, OwnB v k → k < n) (W : World) (l : Nat) (o' : Obj) (hl : n ≤ l) : KpH v b bX W (W.putObj l o') :=
  ⟨rfl, rfl, rfl, by simp, fun k _ hk => World.putObj_heap_other fun e => hk fun h => by
    rcases h with h | h | h
    · omega
    · have := hE.2.2 k h; omega
    · omega⟩
end Go.Proofs.YticdmglondpgaaaGreat

/-! ## RangeA: The same law of a range over a function, where what is yielded is boxed ahead of the body (the code of the assignment lays new blocks). Condition: as of wpIn_rangeD. -/
namespace Go.Proofs.YticdmglondpgaaaGreat
open Go.RowKit
set_option linter.unusedVariables false
set_option maxRecDepth 100000
variable {F : Fence} {n : Nat} {P : Program}

theorem wpIn_rangeA {α : Type} {g : Operand} {ps : Array Tmp} {assign body : Code} {Q : Exit → Act → World → Prop} {a : Act} {w : World}
    (hro : F.round = none) (h1 : 1 ≤ n) {gf : Nat} {lb : Array Value} (hg : a.eval g = .func (.func gf) #[] lb) (hFg : F.fn gf) (eg : ∀ args W, (callFunc gf args).run P W = .ok (.enter gf args) W)
    {encs : α → Array Value} {D : Nat → Prop} {Kp : World → World → Prop} {XP : List α → α → World → World → Prop} {S Sp : List α → World → Prop} {N : Nat} (hseq : IterD F (n - 1) P gf lb encs D Kp XP S Sp N w) (hD : ∀ k, D k → k < w.heap.size)
    (hKt : ∀ {A B C : World}, Kp A B → Kp B C → Kp A C) (hKb : ∀ (W : World) (l : Nat) (o o' : Obj), w.heap.size ≤ l → W.heap[l]? = some o → o.isCells = false → Kp W (W.putObj l o'))
    (hS : ∀ xs A B, S xs A → Kp A B → S xs B) (hSp : ∀ xs A B, Sp xs A → Kp A B → Sp xs B) (hps : ∀ x, (encs x).size = ps.size)
    (I : List α → World → Prop) (Ix : Code → List α → World → Prop) (hI : ∀ pre A B, I pre A → Step D w.heap.size A B → I pre B) (hIx : ∀ c pre A B, Ix c pre A → Step D w.heap.size A B → Ix c pre B) (h0 : I [] w) (a₁ : α → World → Act) (asg : α → World → World) (hasg : ∀ x W, Below W.heap.size W (asg x W)) (hKa : ∀ x W, Kp W (asg x W))
    (hassign : ∀ (l : Nat) (x : α) (W : World) (K : Act → World → Prop), K (a₁ x W) (asg x W) →
      assign.wpIn (F.inRound l) (n - 1 - 1) P (Exit.then K (fun _ _ _ => False)) { tmps := (ps.zip (encs x)).foldl (fun t (p, v) => t.setIfInBounds p v) a.tmps, defers := [] } W)
    (hbody : ∀ (l : Nat) (pre : List α) (x : α) (A0 W0 W : World) (o' : Obj), W = (asg x W0).putObj (w.heap.size + 1) o' → I pre W → pre.length < N → (w.heap.size + 2 ≤ A0.heap.size ∧ A0.heap.size ≤ W0.heap.size) → I pre A0 → Step D w.heap.size A0 W → XP pre x A0 W0 → body.wpIn (F.inRound l) (n - 1 - 1) P (leftD w.heap.size Kp I Ix (pre ++ [x]) W) (a₁ x W0) W)
    (hdone : ∀ (b : Nat) (xs : List α) (W : World), b = w.heap.size → S xs W → I xs W → W.heap[b]? = some (.deferred (some [])) → Q .normal { a with defers := { target := .collected b, args := #[] } :: a.defers } W)
    (hstop : ∀ (b : Nat) (c : Code) (pre : List α) (W : World), b = w.heap.size → Sp pre W → Ix c pre W → W.heap[b]? = some (.deferred (some [])) → c.wpIn F n P Q { a with defers := { target := .collected b, args := #[] } :: a.defers } W) :
    (Code.rangeFunc g ps assign body).wpIn F n P Q a w := by
  refine wpIn_rangeFunc fun fn hfn => ?_
  rw [hro]
  obtain ⟨R, hR⟩ : ∃ R : LoopState → Option Code → Loop, R = fun st pe => { state := st, pending := pe, fn, tmps := a.tmps, params := ps, assign, body, defers := w.heap.size } := ⟨_, rfl⟩
  obtain ⟨B, hB⟩ : ∃ B, w.heap.size = B := ⟨_, rfl⟩
  obtain ⟨W1, hW1⟩ : ∃ W1, (w.alloc (.deferred (some []))).alloc (.loop (R .ready none)) = W1 := ⟨_, rfl⟩
  have hL1 : W1.heap[B + 1]? = some (.loop (R .ready none)) := by
    have h := World.alloc_heap_new (w.alloc (.deferred (some []))) (.loop (R .ready none))
    rw [World.size_alloc, hW1, hB] at h
    exact h
  have hd0 : (w.alloc (.deferred (some []))).heap[B]? = some (.deferred (some [])) := by rw [← hB]; exact World.alloc_heap_new w _
  have hd1 : W1.heap[B]? = some (.deferred (some [])) := by
    rw [← hW1]
    exact (Below.heap_alloc _ _ _ (by rw [World.size_alloc, hB]; omega)).trans hd0
  have hs1 : Step D w.heap.size w W1 := by rw [← hW1]; exact Step.of_only ((Only.of_below (below_alloc1 (Below.refl _ _) _)).trans (Only.of_below (below_alloc1 (Below.refl _ _) _)))
  have hb1 : Below w.heap.size w W1 := by rw [← hW1]; exact below_alloc1 (below_alloc1 (Below.refl _ _) _) _
  have hnD : ¬ D B ∧ ¬ D (B + 1) := ⟨fun h => by have := hD _ h; omega, fun h => by have := hD _ h; omega⟩
  refine ⟨B + 1, [{ target := .collected B, args := #[] }], W1, { target := .fn (.func gf) lb, args := #[.func (.yield (B + 1)) #[] #[]] }, W1, gf, #[.func (.yield (B + 1)) #[] #[]] ++ lb, W1, ?_, ?_, ?_, ?_, fun _ => h1, ?_⟩
  · rw [← hW1, hR, ← hB]; exact run_enterLoop_outer _ _ _ _ _
  · simp only [resolve, hg]
    simp [go_sem]
  · intro f' hf'
    simp [Target.leads] at hf'
    subst hf'
    exact hFg
  · simp [invoke, go_sem, eg]
  refine (hseq (B + 1) (fun pre W => I pre W ∧ W.heap[B + 1]? = some (.loop (R .ready none)) ∧ W.heap[B]? = some (.deferred (some [])))
    (fun pre W => ∃ c, Ix c pre W ∧ W.heap[B + 1]? = some (.loop (R .done (some c))) ∧ W.heap[B]? = some (.deferred (some []))) W1 hb1
    (fun pre X Y h ho => ⟨hI _ _ _ h.1 (Step.of_only ho), ho.obj h.2.1 hnD.2, ho.obj h.2.2 hnD.1⟩)
    (fun pre X Y h ho => by obtain ⟨c, h2, h3, h4⟩ := h; exact ⟨c, hIx _ _ _ _ h2 (Step.of_only ho), ho.obj h3 hnD.2, ho.obj h4 hnD.1⟩)
    ?_ ⟨hI _ _ _ h0 hs1, hL1, hd1⟩).mono ?_
  · rintro pre x A0 W ⟨hi0, hl0, hd0'⟩ hoA hlen hx
    have hi := hI _ _ _ hi0 (Step.of_only (B := w.heap.size) hoA)
    have hl := hoA.obj hl0 hnD.2
    have hd := hoA.obj hd0' hnD.1
    have hzA : w.heap.size + 2 ≤ A0.heap.size := by have := (Array.getElem?_eq_some_iff.1 hl0).1; omega
    have hlt : B + 1 < W.heap.size := (Array.getElem?_eq_some_iff.1 hl).1
    have hy := run_yield (P := P) (args := encs x) hl (by rw [hR]; exact hps x)
    rw [hR] at hy
    have hbV := hasg x W
    have hlV : (asg x W).heap[B + 1]? = _ := obj_below hbV hl hlt
    have hdV : (asg x W).heap[B]? = _ := obj_below hbV hd (by omega)
    have hltV : B + 1 < (asg x W).heap.size := by have := hbV.size; omega
    refine ⟨fn, _, assign, body, hy, roundIn_of_wpIn hfn (hassign _ x W _ ⟨_, run_beginRound hlV (by rw [hR]), ?_⟩)⟩
    obtain ⟨X, hX⟩ : ∃ X, (asg x W).putObj (B + 1) (.loop { R .ready none with state := .busy }) = X := ⟨_, rfl⟩
    rw [hX]
    have hlX : X.heap[B + 1]? = some (.loop { R .ready none with state := .busy }) := by rw [← hX]; exact World.putObj_heap_same hltV
    have hdX : X.heap[B]? = some (.deferred (some [])) := by rw [← hX]; exact (World.putObj_heap_other (by omega)).trans hdV
    have hkX : Kp W X := hKt (hKa x W) (by rw [← hX]; exact hKb _ _ _ _ (by omega) hlV rfl)
    have hsWX : Step D w.heap.size W X := (Step.of_only (Only.of_below hbV)).trans (by rw [← hX, hB]; exact Step.putObj _)
    have hiX : I pre X := hI _ _ _ hi hsWX
    have hzX : w.heap.size + 2 ≤ A0.heap.size ∧ A0.heap.size ≤ W.heap.size := ⟨hzA, hoA.size⟩
    have hstX : Step D w.heap.size A0 X := (Step.of_only (B := w.heap.size) hoA).trans hsWX
    refine wpIn_mono (hbody _ pre x A0 W X _ (by rw [← hX, ← hB]) hiX hlen hzX hi0 hstX hx) ?_
    have fin : ∀ (jump : Option Code) (Y : World), KeepsFrom w.heap.size X Y →
        (Instr.endRound (B + 1) jump).run P Y = .ok (.bool jump.isNone) (Y.putObj (B + 1) (.loop (R (if jump.isNone then .ready else .done) jump))) ∧
        (Y.putObj (B + 1) (.loop (R (if jump.isNone then .ready else .done) jump))).heap[B + 1]? = some (.loop (R (if jump.isNone then .ready else .done) jump)) ∧
        (Y.putObj (B + 1) (.loop (R (if jump.isNone then .ready else .done) jump))).heap[B]? = some (.deferred (some [])) ∧
        Step D w.heap.size Y (Y.putObj (B + 1) (.loop (R (if jump.isNone then .ready else .done) jump))) ∧ Kp Y (Y.putObj (B + 1) (.loop (R (if jump.isNone then .ready else .done) jump))) := fun jump Y hk => by
      have hl3 := hk.same _ _ (by omega) hlX rfl
      have hd3 := hk.same _ _ (by omega) hdX rfl
      have hr := run_endRound (P := P) jump hl3
      rw [hR] at hr ⊢
      exact ⟨hr, World.putObj_heap_same (Array.getElem?_eq_some_iff.1 hl3).1, (World.putObj_heap_other (by omega)).trans hd3, (by rw [hB]; exact Step.putObj _), hKb _ _ _ _ (by omega) hl3 rfl⟩
    rintro e a3 Y hp
    cases e with
    | normal =>
      obtain ⟨hk3, hkp, hi3⟩ := hp
      obtain ⟨hr, hl4, hd4, hst, hk4⟩ := fin none Y hk3
      exact ⟨_, _, hr, .inl ⟨rfl, ⟨hI _ _ _ hi3 hst, hl4, hd4⟩, hKt (hKt hkX hkp) hk4⟩⟩
    | ret =>
      obtain ⟨hk3, hkp, hi3⟩ := hp
      obtain ⟨hr, hl4, hd4, hst, hk4⟩ := fin (some .ret) Y hk3
      exact ⟨_, _, hr, .inr ⟨rfl, ⟨.ret, hIx _ _ _ _ hi3 hst, hl4, hd4⟩, hKt (hKt hkX hkp) hk4⟩⟩
    | exit id =>
      obtain ⟨hk3, hkp, hi3⟩ := hp
      obtain ⟨hr, hl4, hd4, hst, hk4⟩ := fin (some (.exit id)) Y hk3
      exact ⟨_, _, hr, .inr ⟨rfl, ⟨.exit id, hIx _ _ _ _ hi3 hst, hl4, hd4⟩, hKt (hKt hkX hkp) hk4⟩⟩
    | goto t =>
      obtain ⟨hk3, hkp, hi3⟩ := hp
      obtain ⟨hr, hl4, hd4, hst, hk4⟩ := fin (some (.goto t)) Y hk3
      exact ⟨_, _, hr, .inr ⟨rfl, ⟨.goto t, hIx _ _ _ _ hi3 hst, hl4, hd4⟩, hKt (hKt hkX hkp) hk4⟩⟩
    | panic ch => exact hp.elim
    | outgrown => exact hp.elim
  · rintro e Y ⟨⟨v, rfl⟩, (⟨xs, hs, hi, hl, hd⟩ | ⟨pre, hs, c, hi, hl, hd⟩)⟩
    · have hr := run_endLoop (P := P) hl (by rw [hR]; simp)
      have hlt := (Array.getElem?_eq_some_iff.1 hl).1
      refine ⟨none, _, by rw [hR] at hr; exact hr, ?_⟩
      exact hdone B xs _ hB.symm (hS _ _ _ hs (hKb _ _ _ _ (by omega) hl rfl)) (hI _ _ _ hi ((by rw [hB]; exact Step.putObj _))) ((World.putObj_heap_other (by omega)).trans hd)
    · have hr := run_endLoop (P := P) hl (by rw [hR]; simp)
      refine ⟨some c, _, by rw [hR] at hr; exact hr, ?_⟩
      exact hstop B c pre _ hB.symm (hSp _ _ _ hs (hKb _ _ _ _ (by omega) hl rfl)) (hIx _ _ _ _ hi ((by rw [hB]; exact Step.putObj _))) ((World.putObj_heap_other (by omega)).trans hd)

end Go.Proofs.YticdmglondpgaaaGreat

/-! ## RangeN: A range over a function whose iterator turns, of what is new, blocks that are no cells only (loop records of ranges within it). Condition: as of wpIn_rangeD. -/
namespace Go.Proofs.YticdmglondpgaaaGreat
open Go.RowKit
set_option linter.unusedVariables false
set_option maxRecDepth 100000

/-- Nothing has turned but blocks of D, and blocks from n on that are no cells. -/
def NcO (D : Nat → Prop) (n : Nat) (A B : World) : Prop := Only (fun k => D k ∨ (n ≤ k ∧ ∃ o, A.heap[k]? = some o ∧ o.isCells = false)) A B
theorem NcO.trans {D : Nat → Prop} {n : Nat} {a b c : World} (h : NcO D n a b) (k : NcO D n b c) : NcO D n a c :=
  ⟨k.os.trans h.os, k.tape.trans h.tape, k.output.trans h.output, Nat.le_trans h.size k.size, fun j hj hs => by
    have h1 := h.block j hj hs
    refine (k.block j (by have := h.size; omega) fun hk => hs ?_).trans h1
    rcases hk with hk | ⟨hk, o, ho, hc⟩
    · exact .inl hk
    · exact .inr ⟨hk, o, by rw [← h1]; exact ho, hc⟩⟩
theorem NcO.cells {D : Nat → Prop} {n b : Nat} {A B : World} {cs : Array Value} {t : TypeId} {f : Nat × Nat} (h : NcO D n A B) (hb : A.heap[b]? = some (.cells cs t f)) (hD : ¬ D b) : B.heap[b]? = some (.cells cs t f) :=
  Only.obj h hb fun hs => hs.elim hD fun ⟨_, o, ho, hc⟩ => by rw [hb] at ho; injection ho with ho; subst ho; simp [Obj.isCells] at hc
def StepN (D : Nat → Prop) (B : Nat) (w w' : World) : Prop := NcO D (B + 1) w w'
theorem StepN.of_only {D : Nat → Prop} {B : Nat} {w w' : World} (h : Only D w w') : StepN D B w w' := Only.mono h fun _ _ h => .inl h
theorem StepN.putObj {D : Nat → Prop} {B : Nat} {w : World} {o o' : Obj} (ho : w.heap[B + 1]? = some o) (hc : o.isCells = false) : StepN D B w (w.putObj (B + 1) o') :=
  ⟨rfl, rfl, rfl, by simp, fun k _ hk => World.putObj_heap_other fun e => hk (.inr ⟨by omega, o, by rw [e]; exact ho, hc⟩)⟩

variable {F : Fence} {n : Nat} {P : Program}

/-- The contract of an iterator that may change blocks of D, and what it made itself. -/
def IterN {α : Type} (F : Fence) (n : Nat) (P : Program) (g : Nat) (lb : Array Value) (encs : α → Array Value) (D : Nat → Prop) (Kp : World → World → Prop) (X : List α → α → World → World → Prop) (S Sp : List α → World → Prop) (N : Nat) (w : World) : Prop :=
  ∀ (l : Nat) (J Jx : List α → World → Prop) (W : World), Below w.heap.size w W → w.heap.size + 2 ≤ W.heap.size → (∀ pre A B, J pre A → NcO D W.heap.size A B → J pre B) → (∀ pre A B, Jx pre A → NcO D W.heap.size A B → Jx pre B) →
    (∀ pre x A0 A, J pre A0 → NcO D W.heap.size A0 A → pre.length < N → X pre x A0 A → YieldAt F (n - 1) P l (encs x) A fun e B =>
      (e = .returned (.bool true) ∧ J (pre ++ [x]) B ∧ Kp A B) ∨ (e = .returned (.bool false) ∧ Jx (pre ++ [x]) B ∧ Kp A B)) →
    J [] W →
    CallsIn F n P g (#[.func (.yield l) #[] #[]] ++ lb) W fun e B => (∃ v, e = .returned v) ∧ ((∃ xs, S xs B ∧ J xs B) ∨ (∃ pre, Sp pre B ∧ Jx pre B))

theorem wpIn_rangeN {α : Type} {g : Operand} {ps : Array Tmp} {assign body : Code} {Q : Exit → Act → World → Prop} {a : Act} {w : World}
    (hro : F.round = none) (h1 : 1 ≤ n) {gf : Nat} {lb : Array Value} (hg : a.eval g = .func (.func gf) #[] lb) (hFg : F.fn gf) (eg : ∀ args W, (callFunc gf args).run P W = .ok (.enter gf args) W)
    {encs : α → Array Value} {D : Nat → Prop} {Kp : World → World → Prop} {XP : List α → α → World → World → Prop} {S Sp : List α → World → Prop} {N : Nat} (hseq : IterN F (n - 1) P gf lb encs D Kp XP S Sp N w) (hD : ∀ k, D k → k < w.heap.size)
    (hKt : ∀ {A B C : World}, Kp A B → Kp B C → Kp A C) (hKb : ∀ (W : World) (l : Nat) (o o' : Obj), l = w.heap.size + 1 → W.heap[l]? = some o → o.isCells = false → Kp W (W.putObj l o'))
    (hXp : ∀ pre x A0 W o', w.heap.size + 2 ≤ A0.heap.size → XP pre x A0 W → XP pre x A0 (W.putObj (w.heap.size + 1) o')) (hS : ∀ xs A B, S xs A → Kp A B → S xs B) (hSp : ∀ xs A B, Sp xs A → Kp A B → Sp xs B) (hps : ∀ x, (encs x).size = ps.size)
    (I : List α → World → Prop) (Ix : Code → List α → World → Prop) (hI : ∀ pre A B, I pre A → StepN D w.heap.size A B → I pre B) (hIx : ∀ c pre A B, Ix c pre A → StepN D w.heap.size A B → Ix c pre B) (h0 : I [] w) (a₁ : α → Act)
    (hassign : ∀ (l : Nat) (x : α) (W : World) (K : Act → World → Prop), K (a₁ x) W →
      assign.wpIn (F.inRound l) (n - 1 - 1) P (Exit.then K (fun _ _ _ => False)) { tmps := (ps.zip (encs x)).foldl (fun t (p, v) => t.setIfInBounds p v) a.tmps, defers := [] } W)
    (hbody : ∀ (l : Nat) (pre : List α) (x : α) (A0 W : World), I pre W → pre.length < N → (w.heap.size + 2 ≤ A0.heap.size ∧ A0.heap.size ≤ W.heap.size) → I pre A0 → StepN D w.heap.size A0 W → XP pre x A0 W → body.wpIn (F.inRound l) (n - 1 - 1) P (leftD w.heap.size Kp I Ix (pre ++ [x]) W) (a₁ x) W)
    (hdone : ∀ (b : Nat) (xs : List α) (W : World), b = w.heap.size → S xs W → I xs W → W.heap[b]? = some (.deferred (some [])) → Q .normal { a with defers := { target := .collected b, args := #[] } :: a.defers } W)
    (hstop : ∀ (b : Nat) (c : Code) (pre : List α) (W : World), b = w.heap.size → Sp pre W → Ix c pre W → W.heap[b]? = some (.deferred (some [])) → c.wpIn F n P Q { a with defers := { target := .collected b, args := #[] } :: a.defers } W) :
    (Code.rangeFunc g ps assign body).wpIn F n P Q a w := by
  refine wpIn_rangeFunc fun fn hfn => ?_
  rw [hro]
  obtain ⟨R, hR⟩ : ∃ R : LoopState → Option Code → Loop, R = fun st pe => { state := st, pending := pe, fn, tmps := a.tmps, params := ps, assign, body, defers := w.heap.size } := ⟨_, rfl⟩
  obtain ⟨B, hB⟩ : ∃ B, w.heap.size = B := ⟨_, rfl⟩
  obtain ⟨W1, hW1⟩ : ∃ W1, (w.alloc (.deferred (some []))).alloc (.loop (R .ready none)) = W1 := ⟨_, rfl⟩
  have hL1 : W1.heap[B + 1]? = some (.loop (R .ready none)) := by
    have h := World.alloc_heap_new (w.alloc (.deferred (some []))) (.loop (R .ready none))
    rw [World.size_alloc, hW1, hB] at h
    exact h
  have hd0 : (w.alloc (.deferred (some []))).heap[B]? = some (.deferred (some [])) := by rw [← hB]; exact World.alloc_heap_new w _
  have hd1 : W1.heap[B]? = some (.deferred (some [])) := by
    rw [← hW1]
    exact (Below.heap_alloc _ _ _ (by rw [World.size_alloc, hB]; omega)).trans hd0
  have hs1 : StepN D w.heap.size w W1 := by rw [← hW1]; exact StepN.of_only ((Only.of_below (below_alloc1 (Below.refl _ _) _)).trans (Only.of_below (below_alloc1 (Below.refl _ _) _)))
  have hb1 : Below w.heap.size w W1 := by rw [← hW1]; exact below_alloc1 (below_alloc1 (Below.refl _ _) _) _
  have hz1 : W1.heap.size = B + 2 := by rw [← hW1, World.size_alloc, World.size_alloc, hB]
  have hnD : ¬ (D B ∨ W1.heap.size ≤ B) ∧ ¬ (D (B + 1) ∨ W1.heap.size ≤ B + 1) := ⟨fun h => h.elim (fun h => by have := hD _ h; omega) fun h => by omega, fun h => h.elim (fun h => by have := hD _ h; omega) fun h => by omega⟩
  have hof : ∀ {X Y : World}, NcO D W1.heap.size X Y → StepN D w.heap.size X Y := fun h => Only.mono h fun k _ h => h.elim .inl fun h => .inr ⟨by omega, h.2⟩
  refine ⟨B + 1, [{ target := .collected B, args := #[] }], W1, { target := .fn (.func gf) lb, args := #[.func (.yield (B + 1)) #[] #[]] }, W1, gf, #[.func (.yield (B + 1)) #[] #[]] ++ lb, W1, ?_, ?_, ?_, ?_, fun _ => h1, ?_⟩
  · rw [← hW1, hR, ← hB]; exact run_enterLoop_outer _ _ _ _ _
  · simp only [resolve, hg]
    simp [go_sem]
  · intro f' hf'
    simp [Target.leads] at hf'
    subst hf'
    exact hFg
  · simp [invoke, go_sem, eg]
  refine (hseq (B + 1) (fun pre W => I pre W ∧ W.heap[B + 1]? = some (.loop (R .ready none)) ∧ W.heap[B]? = some (.deferred (some [])))
    (fun pre W => ∃ c, Ix c pre W ∧ W.heap[B + 1]? = some (.loop (R .done (some c))) ∧ W.heap[B]? = some (.deferred (some []))) W1 hb1 (by omega)
    (fun pre X Y h ho => ⟨hI _ _ _ h.1 (hof ho), Only.obj ho h.2.1 (fun h => hnD.2 (h.imp id And.left)), Only.obj ho h.2.2 (fun h => hnD.1 (h.imp id And.left))⟩)
    (fun pre X Y h ho => by obtain ⟨c, h2, h3, h4⟩ := h; exact ⟨c, hIx _ _ _ _ h2 (hof ho), Only.obj ho h3 (fun h => hnD.2 (h.imp id And.left)), Only.obj ho h4 (fun h => hnD.1 (h.imp id And.left))⟩)
    ?_ ⟨hI _ _ _ h0 hs1, hL1, hd1⟩).mono ?_
  · rintro pre x A0 W ⟨hi0, hl0, hd0'⟩ hoA hlen hx
    have hi := hI _ _ _ hi0 (hof hoA)
    have hl := Only.obj hoA hl0 (fun h => hnD.2 (h.imp id And.left))
    have hd := Only.obj hoA hd0' (fun h => hnD.1 (h.imp id And.left))
    have hzA : w.heap.size + 2 ≤ A0.heap.size := by have := (Array.getElem?_eq_some_iff.1 hl0).1; omega
    have hlt : B + 1 < W.heap.size := (Array.getElem?_eq_some_iff.1 hl).1
    have hy := run_yield (P := P) (args := encs x) hl (by rw [hR]; exact hps x)
    rw [hR] at hy
    refine ⟨fn, _, assign, body, hy, roundIn_of_wpIn hfn (hassign _ x W _ ⟨_, run_beginRound hl (by rw [hR]), ?_⟩)⟩
    obtain ⟨X, hX⟩ : ∃ X, W.putObj (B + 1) (.loop { R .ready none with state := .busy }) = X := ⟨_, rfl⟩
    rw [hX]
    have hlX : X.heap[B + 1]? = some (.loop { R .ready none with state := .busy }) := by rw [← hX]; exact World.putObj_heap_same hlt
    have hdX : X.heap[B]? = some (.deferred (some [])) := by rw [← hX]; exact (World.putObj_heap_other (by omega)).trans hd
    have hkX : Kp W X := by rw [← hX]; exact hKb _ _ _ _ (by omega) hl rfl
    have hiX : I pre X := hI _ _ _ hi (by rw [← hX, hB]; exact StepN.putObj hl rfl)
    have hxX : XP pre x A0 X := by rw [← hX, ← hB]; exact hXp _ _ _ _ _ hzA hx
    have hzX : w.heap.size + 2 ≤ A0.heap.size ∧ A0.heap.size ≤ X.heap.size := ⟨hzA, by rw [← hX, World.putObj_size]; exact Only.size hoA⟩
    have hstX : StepN D w.heap.size A0 X := NcO.trans (hof hoA) (by rw [← hX, hB]; exact StepN.putObj hl rfl)
    refine wpIn_mono (hbody _ pre x A0 X hiX hlen hzX hi0 hstX hxX) ?_
    have fin : ∀ (jump : Option Code) (Y : World), KeepsFrom w.heap.size X Y →
        (Instr.endRound (B + 1) jump).run P Y = .ok (.bool jump.isNone) (Y.putObj (B + 1) (.loop (R (if jump.isNone then .ready else .done) jump))) ∧
        (Y.putObj (B + 1) (.loop (R (if jump.isNone then .ready else .done) jump))).heap[B + 1]? = some (.loop (R (if jump.isNone then .ready else .done) jump)) ∧
        (Y.putObj (B + 1) (.loop (R (if jump.isNone then .ready else .done) jump))).heap[B]? = some (.deferred (some [])) ∧
        StepN D w.heap.size Y (Y.putObj (B + 1) (.loop (R (if jump.isNone then .ready else .done) jump))) ∧ Kp Y (Y.putObj (B + 1) (.loop (R (if jump.isNone then .ready else .done) jump))) := fun jump Y hk => by
      have hl3 := hk.same _ _ (by omega) hlX rfl
      have hd3 := hk.same _ _ (by omega) hdX rfl
      have hr := run_endRound (P := P) jump hl3
      rw [hR] at hr ⊢
      exact ⟨hr, World.putObj_heap_same (Array.getElem?_eq_some_iff.1 hl3).1, (World.putObj_heap_other (by omega)).trans hd3, (by rw [hB]; exact StepN.putObj hl3 rfl), hKb _ _ _ _ (by omega) hl3 rfl⟩
    rintro e a3 Y hp
    cases e with
    | normal =>
      obtain ⟨hk3, hkp, hi3⟩ := hp
      obtain ⟨hr, hl4, hd4, hst, hk4⟩ := fin none Y hk3
      exact ⟨_, _, hr, .inl ⟨rfl, ⟨hI _ _ _ hi3 hst, hl4, hd4⟩, hKt (hKt hkX hkp) hk4⟩⟩
    | ret =>
      obtain ⟨hk3, hkp, hi3⟩ := hp
      obtain ⟨hr, hl4, hd4, hst, hk4⟩ := fin (some .ret) Y hk3
      exact ⟨_, _, hr, .inr ⟨rfl, ⟨.ret, hIx _ _ _ _ hi3 hst, hl4, hd4⟩, hKt (hKt hkX hkp) hk4⟩⟩
    | exit id =>
      obtain ⟨hk3, hkp, hi3⟩ := hp
      obtain ⟨hr, hl4, hd4, hst, hk4⟩ := fin (some (.exit id)) Y hk3
      exact ⟨_, _, hr, .inr ⟨rfl, ⟨.exit id, hIx _ _ _ _ hi3 hst, hl4, hd4⟩, hKt (hKt hkX hkp) hk4⟩⟩
    | goto t =>
      obtain ⟨hk3, hkp, hi3⟩ := hp
      obtain ⟨hr, hl4, hd4, hst, hk4⟩ := fin (some (.goto t)) Y hk3
      exact ⟨_, _, hr, .inr ⟨rfl, ⟨.goto t, hIx _ _ _ _ hi3 hst, hl4, hd4⟩, hKt (hKt hkX hkp) hk4⟩⟩
    | panic ch => exact hp.elim
    | outgrown => exact hp.elim
  · rintro e Y ⟨⟨v, rfl⟩, (⟨xs, hs, hi, hl, hd⟩ | ⟨pre, hs, c, hi, hl, hd⟩)⟩
    · have hr := run_endLoop (P := P) hl (by rw [hR]; simp)
      have hlt := (Array.getElem?_eq_some_iff.1 hl).1
      refine ⟨none, _, by rw [hR] at hr; exact hr, ?_⟩
      exact hdone B xs _ hB.symm (hS _ _ _ hs (hKb _ _ _ _ (by omega) hl rfl)) (hI _ _ _ hi ((by rw [hB]; exact StepN.putObj hl rfl))) ((World.putObj_heap_other (by omega)).trans hd)
    · have hr := run_endLoop (P := P) hl (by rw [hR]; simp)
      refine ⟨some c, _, by rw [hR] at hr; exact hr, ?_⟩
      exact hstop B c pre _ hB.symm (hSp _ _ _ hs (hKb _ _ _ _ (by omega) hl rfl)) (hIx _ _ _ _ hi ((by rw [hB]; exact StepN.putObj hl rfl))) ((World.putObj_heap_other (by omega)).trans hd)

end Go.Proofs.YticdmglondpgaaaGreat

/-! ## Values: Package slices: Values, over ints, as an iterator. Condition: whatever runs between two rounds keeps the blocks below m0. -/
namespace Go.Proofs.YticdmglondpgaaaGreat
open Go.RowKit
set_option linter.unusedVariables false
set_option maxRecDepth 100000
set_option linter.unusedSimpArgs false

attribute [local go_sem] Oper.semAt_some

theorem ValuesI_calls (A : Option Addr) (n c : Nat) (w : World) :
    Calls Tryz.prog 93 #[.slice A n c] w fun e w' => e = .returned (.func (.func 139) #[] #[.pointer (some ⟨w.heap.size, 0, none⟩)]) ∧ w' = w.alloc (.cells #[.slice A n c] 64) := by
  go_enter Tryz.func93, Tryz.ntmps93
  go_wp2_with fail
  go_ret
  exact ⟨rfl, rfl⟩
set_option maxHeartbeats 3200000 in
theorem valuesI_iter (m q m0 : Nat) (A : Option Addr) (c : Nat) (M : List Int) (Kp : World → World → Prop) (hKp : ∀ {X Y : World} {b : Nat} {o : Obj}, Kp X Y → b < m0 → X.heap[b]? = some o → Y.heap[b]? = some o) (w0 w : World) (hw : Below m0 w0 w) (hz : w0.heap.size = m0) (hM : Rd w0 .i64 A M) (hq : w0.heap[q]? = some (.cells #[.slice A M.length c] 64 (0, 0))) :
    IterD Fence.wide m Tryz.prog 139 #[.pointer (some ⟨q, 0, none⟩)] (fun x : Int => #[.int .i64 x]) (fun _ => False) Kp (fun pre x _ _ => x = M.getD pre.length 0)
      (fun xs W => xs.length = M.length) (fun xs W => True) M.length w := by
  intro lp J Jx W hW hJ hJx hY h0
  refine callsIn_of_wp Tryz.func139 rfl trivial ?_ rfl
  simp only [Tryz.ntmps139, List.size_toArray, List.length_cons, List.length_nil, Nat.reduceAdd, Nat.reduceSub, Array.replicate_succ, Array.replicate_zero, List.push_toArray, List.append_toArray, List.nil_append, List.cons_append]
  have hKeep0 : ∀ b o, b < m0 → w0.heap[b]? = some o → W.heap[b]? = some o := fun b o hb ho => by
    have h1 := (hw.block b hb).trans ho
    exact obj_below hW h1 (obj_lt h1)
  have hql : q < m0 := by rw [← hz]; exact obj_lt hq
  have hX0 := hKeep0 q _ hql hq
  have hcX0 : W.cell? ⟨q, 0, none⟩ = some (.slice A M.length c) := by simp [World.cell?, hX0]
  have HM := Lib.hid hM
  have HK0 := Lib.hid hKeep0
  have HQ := Lib.hid hq
  have HJS0 := Lib.hid h0
  have HY := Lib.hid hY
  have HKP := Lib.hid (fun X Y b o => @hKp X Y b o)
  have HZ := Lib.hid hz
  have hM63 := hM.1
  obtain ⟨n, hn⟩ : ∃ n, M.length = n := ⟨_, rfl⟩
  have HN := Lib.hid hn
  rw [hn] at hcX0 hM63
  clear hKeep0 hX0 hM hq h0 hY hJ hJx hz hKp hn hw hW
  gi_wp2
  gi_loopw [7] (fun v7 wr => ∃ k : Nat, k ≤ n ∧ v7 = .int .i64 k ∧ ∃ pre : List Int, pre.length = k ∧ J pre wr ∧ ∀ b o, b < m0 → w0.heap[b]? = some o → wr.heap[b]? = some o) (fun v7 _ => n - (intOf v7).toNat)
  case atStart => exact ⟨0, Nat.zero_le _, rfl, [], rfl, HJS0.out, HK0.out⟩
  case round =>
    clear HJS0 hcX0 HK0
    obtain ⟨k, hk, rfl, pre, hpl, hJs, hkp⟩ := hrel
    have HPL := Lib.hid hpl
    have HJS := Lib.hid hJs
    have HK := Lib.hid hkp
    clear hpl hJs hkp
    by_cases hlt : k < n
    · have hlt0' : decide ((k : Int) < (n : Int)) = true := decide_eq_true (by omega)
      have hltI : (k : Int) < (n : Int) := by omega
      have hkM : k < M.length := by rw [HN.out]; exact hlt
      obtain ⟨ad, rfl, hca0⟩ := HM.out.2 k hkM
      obtain ⟨x, hx⟩ : ∃ x, M.getD k 0 = x := ⟨_, rfl⟩
      rw [hx] at hca0
      have hca : wr.cell? (ad.add k) = some (.int .i64 x) := by
        have hbl := World.block_lt_of_cell? _ _ hca0
        obtain ⟨o, ho⟩ : ∃ o, w0.heap[(ad.add k).block]? = some o := ⟨_, Array.getElem?_eq_getElem hbl⟩
        have h2 := HK.out _ _ (by rw [← HZ.out]; exact hbl) ho
        have h3 := hca0
        unfold World.cell? at h3 ⊢
        rw [ho] at h3
        rw [h2]
        exact h3
      have hwj : IntKind.i64.wrap ((k : Int) + 1) = ((k + 1 : Nat) : Int) := by rw [i64_w]; exact wrap64_id _ (by omega)
      obtain ⟨fn, tmps, assign, body, hy, hR⟩ := HY.out pre x wr wr HJS.out (Only.refl _ _) (by rw [HPL.out]; exact hkM) (by rw [HPL.out]; exact hx.symm)
      have HRR := Lib.hid hR
      clear hR hca0 hx
      gi_wp2
      refine ⟨(fun h => by cases h), HRR.out.mono ?_⟩
      rintro e W3 (⟨rfl, hJ3, hk3⟩ | ⟨rfl, hJx3, hk3⟩)
      · have HJ3 := Lib.hid hJ3
        have HK3 := Lib.hid (show ∀ b o, b < m0 → w0.heap[b]? = some o → W3.heap[b]? = some o from fun b o hb ho => HKP.out wr W3 b o hk3 hb (HK.out b o hb ho))
        clear hJ3 hk3
        gi_wp2
        go_roundw
        case rel => exact ⟨k + 1, by omega, by simp, _, by rw [List.length_append, HPL.out]; rfl, HJ3.out, HK3.out⟩
        case measure => simp [intOf]; omega
      · have HJ3 := Lib.hid hJx3
        clear hJx3 hk3
        gi_wp2
        refine bodyPost_ret (results_none rfl _ _ _) rfl ?_
        exact ⟨⟨_, rfl⟩, .inr ⟨_, trivial, HJ3.out⟩⟩
    · obtain rfl : k = n := by omega
      have hlt0' : decide ((k : Int) < (k : Int)) = false := decide_eq_false (by omega)
      gi_wp2
      go_end0
      exact ⟨⟨_, rfl⟩, .inl ⟨_, by rw [HPL.out, HN.out], HJS.out⟩⟩
end Go.Proofs.YticdmglondpgaaaGreat

/-! ## RangeAN: A range over a function whose iterator turns, of what is new, blocks that are no cells only; what is yielded is boxed ahead of the body. Condition: as of wpIn_rangeN. -/
namespace Go.Proofs.YticdmglondpgaaaGreat
open Go.RowKit
set_option linter.unusedVariables false
set_option maxRecDepth 100000
variable {F : Fence} {n : Nat} {P : Program}

theorem wpIn_rangeAN {α : Type} {g : Operand} {ps : Array Tmp} {assign body : Code} {Q : Exit → Act → World → Prop} {a : Act} {w : World}
    (hro : F.round = none) (h1 : 1 ≤ n) {gf : Nat} {lb : Array Value} (hg : a.eval g = .func (.func gf) #[] lb) (hFg : F.fn gf) (eg : ∀ args W, (callFunc gf args).run P W = .ok (.enter gf args) W)
    {encs : α → Array Value} {D : Nat → Prop} {Kp : World → World → Prop} {XP : List α → α → World → World → Prop} {S Sp : List α → World → Prop} {N : Nat} (hseq : IterN F (n - 1) P gf lb encs D Kp XP S Sp N w) (hD : ∀ k, D k → k < w.heap.size)
    (hKt : ∀ {A B C : World}, Kp A B → Kp B C → Kp A C) (hKb : ∀ (W : World) (l : Nat) (o o' : Obj), l = w.heap.size + 1 → W.heap[l]? = some o → o.isCells = false → Kp W (W.putObj l o'))
    (hS : ∀ xs A B, S xs A → Kp A B → S xs B) (hSp : ∀ xs A B, Sp xs A → Kp A B → Sp xs B) (hps : ∀ x, (encs x).size = ps.size)
    (I : List α → World → Prop) (Ix : Code → List α → World → Prop) (hI : ∀ pre A B, I pre A → StepN D w.heap.size A B → I pre B) (hIx : ∀ c pre A B, Ix c pre A → StepN D w.heap.size A B → Ix c pre B) (h0 : I [] w) (a₁ : α → World → Act) (asg : α → World → World) (hasg : ∀ x W, Below W.heap.size W (asg x W)) (hKa : ∀ x W, Kp W (asg x W))
    (hassign : ∀ (l : Nat) (x : α) (W : World) (K : Act → World → Prop), K (a₁ x W) (asg x W) →
      assign.wpIn (F.inRound l) (n - 1 - 1) P (Exit.then K (fun _ _ _ => False)) { tmps := (ps.zip (encs x)).foldl (fun t (p, v) => t.setIfInBounds p v) a.tmps, defers := [] } W)
    (hbody : ∀ (l : Nat) (pre : List α) (x : α) (A0 W0 W : World) (o' : Obj), W = (asg x W0).putObj (w.heap.size + 1) o' → I pre W → pre.length < N → (w.heap.size + 2 ≤ A0.heap.size ∧ A0.heap.size ≤ W0.heap.size) → I pre A0 → StepN D w.heap.size A0 W → XP pre x A0 W0 → body.wpIn (F.inRound l) (n - 1 - 1) P (leftD w.heap.size Kp I Ix (pre ++ [x]) W) (a₁ x W0) W)
    (hdone : ∀ (b : Nat) (xs : List α) (W : World), b = w.heap.size → S xs W → I xs W → W.heap[b]? = some (.deferred (some [])) → Q .normal { a with defers := { target := .collected b, args := #[] } :: a.defers } W)
    (hstop : ∀ (b : Nat) (c : Code) (pre : List α) (W : World), b = w.heap.size → Sp pre W → Ix c pre W → W.heap[b]? = some (.deferred (some [])) → c.wpIn F n P Q { a with defers := { target := .collected b, args := #[] } :: a.defers } W) :
    (Code.rangeFunc g ps assign body).wpIn F n P Q a w := by
  refine wpIn_rangeFunc fun fn hfn => ?_
  rw [hro]
  obtain ⟨R, hR⟩ : ∃ R : LoopState → Option Code → Loop, R = fun st pe => { state := st, pending := pe, fn, tmps := a.tmps, params := ps, assign, body, defers := w.heap.size } := ⟨_, rfl⟩
  obtain ⟨B, hB⟩ : ∃ B, w.heap.size = B := ⟨_, rfl⟩
  obtain ⟨W1, hW1⟩ : ∃ W1, (w.alloc (.deferred (some []))).alloc (.loop (R .ready none)) = W1 := ⟨_, rfl⟩
  have hL1 : W1.heap[B + 1]? = some (.loop (R .ready none)) := by
    have h := World.alloc_heap_new (w.alloc (.deferred (some []))) (.loop (R .ready none))
    rw [World.size_alloc, hW1, hB] at h
    exact h
  have hd0 : (w.alloc (.deferred (some []))).heap[B]? = some (.deferred (some [])) := by rw [← hB]; exact World.alloc_heap_new w _
  have hd1 : W1.heap[B]? = some (.deferred (some [])) := by
    rw [← hW1]
    exact (Below.heap_alloc _ _ _ (by rw [World.size_alloc, hB]; omega)).trans hd0
  have hs1 : StepN D w.heap.size w W1 := by rw [← hW1]; exact StepN.of_only ((Only.of_below (below_alloc1 (Below.refl _ _) _)).trans (Only.of_below (below_alloc1 (Below.refl _ _) _)))
  have hb1 : Below w.heap.size w W1 := by rw [← hW1]; exact below_alloc1 (below_alloc1 (Below.refl _ _) _) _
  have hz1 : W1.heap.size = B + 2 := by rw [← hW1, World.size_alloc, World.size_alloc, hB]
  have hnD : ¬ (D B ∨ W1.heap.size ≤ B) ∧ ¬ (D (B + 1) ∨ W1.heap.size ≤ B + 1) := ⟨fun h => h.elim (fun h => by have := hD _ h; omega) fun h => by omega, fun h => h.elim (fun h => by have := hD _ h; omega) fun h => by omega⟩
  have hof : ∀ {X Y : World}, NcO D W1.heap.size X Y → StepN D w.heap.size X Y := fun h => Only.mono h fun k _ h => h.elim .inl fun h => .inr ⟨by omega, h.2⟩
  refine ⟨B + 1, [{ target := .collected B, args := #[] }], W1, { target := .fn (.func gf) lb, args := #[.func (.yield (B + 1)) #[] #[]] }, W1, gf, #[.func (.yield (B + 1)) #[] #[]] ++ lb, W1, ?_, ?_, ?_, ?_, fun _ => h1, ?_⟩
  · rw [← hW1, hR, ← hB]; exact run_enterLoop_outer _ _ _ _ _
  · simp only [resolve, hg]
    simp [go_sem]
  · intro f' hf'
    simp [Target.leads] at hf'
    subst hf'
    exact hFg
  · simp [invoke, go_sem, eg]
  refine (hseq (B + 1) (fun pre W => I pre W ∧ W.heap[B + 1]? = some (.loop (R .ready none)) ∧ W.heap[B]? = some (.deferred (some [])))
    (fun pre W => ∃ c, Ix c pre W ∧ W.heap[B + 1]? = some (.loop (R .done (some c))) ∧ W.heap[B]? = some (.deferred (some []))) W1 hb1 (by omega)
    (fun pre X Y h ho => ⟨hI _ _ _ h.1 (hof ho), Only.obj ho h.2.1 (fun h => hnD.2 (h.imp id And.left)), Only.obj ho h.2.2 (fun h => hnD.1 (h.imp id And.left))⟩)
    (fun pre X Y h ho => by obtain ⟨c, h2, h3, h4⟩ := h; exact ⟨c, hIx _ _ _ _ h2 (hof ho), Only.obj ho h3 (fun h => hnD.2 (h.imp id And.left)), Only.obj ho h4 (fun h => hnD.1 (h.imp id And.left))⟩)
    ?_ ⟨hI _ _ _ h0 hs1, hL1, hd1⟩).mono ?_
  · rintro pre x A0 W ⟨hi0, hl0, hd0'⟩ hoA hlen hx
    have hi := hI _ _ _ hi0 (hof hoA)
    have hl := Only.obj hoA hl0 (fun h => hnD.2 (h.imp id And.left))
    have hd := Only.obj hoA hd0' (fun h => hnD.1 (h.imp id And.left))
    have hzA : w.heap.size + 2 ≤ A0.heap.size := by have := (Array.getElem?_eq_some_iff.1 hl0).1; omega
    have hlt : B + 1 < W.heap.size := (Array.getElem?_eq_some_iff.1 hl).1
    have hy := run_yield (P := P) (args := encs x) hl (by rw [hR]; exact hps x)
    rw [hR] at hy
    have hbV := hasg x W
    have hlV : (asg x W).heap[B + 1]? = _ := obj_below hbV hl hlt
    have hdV : (asg x W).heap[B]? = _ := obj_below hbV hd (by omega)
    have hltV : B + 1 < (asg x W).heap.size := by have := hbV.size; omega
    refine ⟨fn, _, assign, body, hy, roundIn_of_wpIn hfn (hassign _ x W _ ⟨_, run_beginRound hlV (by rw [hR]), ?_⟩)⟩
    obtain ⟨X, hX⟩ : ∃ X, (asg x W).putObj (B + 1) (.loop { R .ready none with state := .busy }) = X := ⟨_, rfl⟩
    rw [hX]
    have hlX : X.heap[B + 1]? = some (.loop { R .ready none with state := .busy }) := by rw [← hX]; exact World.putObj_heap_same hltV
    have hdX : X.heap[B]? = some (.deferred (some [])) := by rw [← hX]; exact (World.putObj_heap_other (by omega)).trans hdV
    have hkX : Kp W X := hKt (hKa x W) (by rw [← hX]; exact hKb _ _ _ _ (by omega) hlV rfl)
    have hsWX : StepN D w.heap.size W X := NcO.trans (StepN.of_only (Only.of_below hbV)) (by rw [← hX, hB]; exact StepN.putObj hlV rfl)
    have hiX : I pre X := hI _ _ _ hi hsWX
    have hzX : w.heap.size + 2 ≤ A0.heap.size ∧ A0.heap.size ≤ W.heap.size := ⟨hzA, Only.size hoA⟩
    have hstX : StepN D w.heap.size A0 X := NcO.trans (hof hoA) hsWX
    refine wpIn_mono (hbody _ pre x A0 W X _ (by rw [← hX, ← hB]) hiX hlen hzX hi0 hstX hx) ?_
    have fin : ∀ (jump : Option Code) (Y : World), KeepsFrom w.heap.size X Y →
        (Instr.endRound (B + 1) jump).run P Y = .ok (.bool jump.isNone) (Y.putObj (B + 1) (.loop (R (if jump.isNone then .ready else .done) jump))) ∧
        (Y.putObj (B + 1) (.loop (R (if jump.isNone then .ready else .done) jump))).heap[B + 1]? = some (.loop (R (if jump.isNone then .ready else .done) jump)) ∧
        (Y.putObj (B + 1) (.loop (R (if jump.isNone then .ready else .done) jump))).heap[B]? = some (.deferred (some [])) ∧
        StepN D w.heap.size Y (Y.putObj (B + 1) (.loop (R (if jump.isNone then .ready else .done) jump))) ∧ Kp Y (Y.putObj (B + 1) (.loop (R (if jump.isNone then .ready else .done) jump))) := fun jump Y hk => by
      have hl3 := hk.same _ _ (by omega) hlX rfl
      have hd3 := hk.same _ _ (by omega) hdX rfl
      have hr := run_endRound (P := P) jump hl3
      rw [hR] at hr ⊢
      exact ⟨hr, World.putObj_heap_same (Array.getElem?_eq_some_iff.1 hl3).1, (World.putObj_heap_other (by omega)).trans hd3, (by rw [hB]; exact StepN.putObj hl3 rfl), hKb _ _ _ _ (by omega) hl3 rfl⟩
    rintro e a3 Y hp
    cases e with
    | normal =>
      obtain ⟨hk3, hkp, hi3⟩ := hp
      obtain ⟨hr, hl4, hd4, hst, hk4⟩ := fin none Y hk3
      exact ⟨_, _, hr, .inl ⟨rfl, ⟨hI _ _ _ hi3 hst, hl4, hd4⟩, hKt (hKt hkX hkp) hk4⟩⟩
    | ret =>
      obtain ⟨hk3, hkp, hi3⟩ := hp
      obtain ⟨hr, hl4, hd4, hst, hk4⟩ := fin (some .ret) Y hk3
      exact ⟨_, _, hr, .inr ⟨rfl, ⟨.ret, hIx _ _ _ _ hi3 hst, hl4, hd4⟩, hKt (hKt hkX hkp) hk4⟩⟩
    | exit id =>
      obtain ⟨hk3, hkp, hi3⟩ := hp
      obtain ⟨hr, hl4, hd4, hst, hk4⟩ := fin (some (.exit id)) Y hk3
      exact ⟨_, _, hr, .inr ⟨rfl, ⟨.exit id, hIx _ _ _ _ hi3 hst, hl4, hd4⟩, hKt (hKt hkX hkp) hk4⟩⟩
    | goto t =>
      obtain ⟨hk3, hkp, hi3⟩ := hp
      obtain ⟨hr, hl4, hd4, hst, hk4⟩ := fin (some (.goto t)) Y hk3
      exact ⟨_, _, hr, .inr ⟨rfl, ⟨.goto t, hIx _ _ _ _ hi3 hst, hl4, hd4⟩, hKt (hKt hkX hkp) hk4⟩⟩
    | panic ch => exact hp.elim
    | outgrown => exact hp.elim
  · rintro e Y ⟨⟨v, rfl⟩, (⟨xs, hs, hi, hl, hd⟩ | ⟨pre, hs, c, hi, hl, hd⟩)⟩
    · have hr := run_endLoop (P := P) hl (by rw [hR]; simp)
      have hlt := (Array.getElem?_eq_some_iff.1 hl).1
      refine ⟨none, _, by rw [hR] at hr; exact hr, ?_⟩
      exact hdone B xs _ hB.symm (hS _ _ _ hs (hKb _ _ _ _ (by omega) hl rfl)) (hI _ _ _ hi ((by rw [hB]; exact StepN.putObj hl rfl))) ((World.putObj_heap_other (by omega)).trans hd)
    · have hr := run_endLoop (P := P) hl (by rw [hR]; simp)
      refine ⟨some c, _, by rw [hR] at hr; exact hr, ?_⟩
      exact hstop B c pre _ hB.symm (hSp _ _ _ hs (hKb _ _ _ _ (by omega) hl rfl)) (hIx _ _ _ _ hi ((by rw [hB]; exact StepN.putObj hl rfl))) ((World.putObj_heap_other (by omega)).trans hd)

end Go.Proofs.YticdmglondpgaaaGreat
