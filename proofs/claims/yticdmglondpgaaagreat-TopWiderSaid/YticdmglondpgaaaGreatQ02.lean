/-
  Texts on the program, part 2: Lib, Two, Flat, Vec, VecMath, Plane, PlaneMath, Rng, Ref05, Law05, Rng2.
-/
import Derived.Test.YticdmglondpgaaaGreatProg
import Derived.Below
import Derived.Deep.Draws
import Derived.Deep.AppendSrc
import Derived.OwnWalk
import Derived.Laws.MakeOwn
import Derived.Laws.OwnMore
import Derived.Laws.CopyOwn
import Derived.Laws.Slices
import Derived.Laws.Rows
import Derived.Tactics
import Derived.WalkKit
import Derived.KernelRfl
import Derived.Deep.LoopGhost
import Derived.Deep.QuietTactic
import Derived.BigQuiet
import Derived.Outline
import Derived.WideLaws
import Derived.Lib.Hide
import Derived.Deep.DeepCutAuto
import Derived.Deep.CutBlock
import Derived.Deep.RegionHeld3
import Derived.StillTailTactics
import Derived.WalkLawsBesides
import Derived.WalkSpells
import Derived.Maps.AppendAt
import Derived.Deep.AppendLies

/-! ## Lib: Words and small lemmas for the walks of this seat: slices that are read, rows that a call owns, sums, wraps. No condition: plain definitions and lemmas. -/
namespace Go.Proofs.YticdmglondpgaaaGreat
open Go.RowKit
set_option linter.unusedVariables false
set_option maxRecDepth 100000
set_option linter.unusedSimpArgs false

/-! ### 1. numbers -/
theorem ret_int {k : IntKind} {a b : Int} (h : a = b) : Ending.returned (.int k a) = .returned (.int k b) := by rw [h]
theorem ret_bool {a b : Bool} (h : a = b) : Ending.returned (.bool a) = .returned (.bool b) := by rw [h]
theorem min2_run (P : Program) (w : World) (k k' : IntKind) (x y : Int) : (Builtin.min2 (.int k x) (.int k' y)).run P w = .ok (.int k (if y < x then y else x)) w := rfl
theorem wrap64_zero : wrap64 0 = 0 := by simp [wrap64]
theorem wrap64_id (n : Int) (h : -9223372036854775808 ≤ n ∧ n ≤ 9223372036854775807) : wrap64 n = n := by unfold wrap64; omega
theorem wrap32_id (n : Int) (h : -2147483648 ≤ n ∧ n ≤ 2147483647) : wrap32 n = n := by unfold wrap32; omega
theorem wrap64_bd (n : Int) : -9223372036854775808 ≤ wrap64 n ∧ wrap64 n ≤ 9223372036854775807 := by unfold wrap64; omega
theorem wrap32_bd (n : Int) : -2147483648 ≤ wrap32 n ∧ wrap32 n ≤ 2147483647 := by unfold wrap32; omega
theorem i32_w (n : Int) : IntKind.i32.wrap n = wrap32 n := by unfold wrap32; exact IntKind.wrap_i32 n
theorem i64_w (n : Int) : IntKind.i64.wrap n = wrap64 n := by unfold wrap64; exact IntKind.wrap_i64 n
theorem wrap64_add (a b : Int) : wrap64 (wrap64 a + b) = wrap64 (a + b) := by unfold wrap64; omega
theorem wrap64_add' (a b : Int) : wrap64 (a + wrap64 b) = wrap64 (a + b) := by unfold wrap64; omega
theorem wrap64_sub' (a b : Int) : wrap64 (a - wrap64 b) = wrap64 (a - b) := by unfold wrap64; omega
theorem wrap64_sub (a b : Int) : wrap64 (wrap64 a - b) = wrap64 (a - b) := by unfold wrap64; omega
theorem wrap64_wrap (a : Int) : wrap64 (wrap64 a) = wrap64 a := by unfold wrap64; omega

/-- The sum of the first k numbers that f tells. -/
def sumTo (f : Nat → Int) : Nat → Int
  | 0 => 0
  | k + 1 => sumTo f k + f k
theorem sumTo_congr {f g : Nat → Int} (n : Nat) (h : ∀ i, i < n → f i = g i) : sumTo f n = sumTo g n := by
  induction n with
  | zero => rfl
  | succ n ih => simp only [sumTo]; rw [ih fun i hi => h i (by omega), h n (by omega)]
theorem sumTo_add (f g : Nat → Int) (n : Nat) : sumTo (fun i => f i + g i) n = sumTo f n + sumTo g n := by
  induction n with
  | zero => rfl
  | succ n ih => simp only [sumTo]; rw [ih]; omega
theorem sumTo_sub (f g : Nat → Int) (n : Nat) : sumTo (fun i => f i - g i) n = sumTo f n - sumTo g n := by
  induction n with
  | zero => rfl
  | succ n ih => simp only [sumTo]; rw [ih]; omega
theorem sumTo_mul (c : Int) (f : Nat → Int) (n : Nat) : sumTo (fun i => c * f i) n = c * sumTo f n := by
  induction n with
  | zero => simp [sumTo]
  | succ n ih => simp only [sumTo]; rw [ih, Int.mul_add]
theorem sumTo_le {f g : Nat → Int} (n : Nat) (h : ∀ i, i < n → f i ≤ g i) : sumTo f n ≤ sumTo g n := by
  induction n with
  | zero => exact Int.le_refl _
  | succ n ih => simp only [sumTo]; have := ih fun i hi => h i (by omega); have := h n (by omega); omega
theorem sumTo_const (c : Int) (n : Nat) : sumTo (fun _ => c) n = n * c := by
  induction n with
  | zero => simp [sumTo]
  | succ n ih => simp only [sumTo]; rw [ih]; simp [Int.add_mul]
theorem sumTo_split (f : Nat → Int) (n m : Nat) : sumTo f (n + m) = sumTo f n + sumTo (fun i => f (n + i)) m := by
  induction m with
  | zero => simp [sumTo]
  | succ m ih => show sumTo f (n + m) + f (n + m) = sumTo f n + (sumTo (fun i => f (n + i)) m + f (n + m)); rw [ih]; omega
theorem sumTo_eq_zero {f : Nat → Int} (n : Nat) (h0 : ∀ i, i < n → 0 ≤ f i) (h : sumTo f n = 0) : ∀ i, i < n → f i = 0 := by
  induction n with
  | zero => intro i hi; omega
  | succ n ih =>
    simp only [sumTo] at h
    have h1 := sumTo_le (f := fun _ => 0) (g := f) n fun i hi => h0 i (by omega)
    rw [sumTo_const] at h1
    have h2 := h0 n (by omega)
    have h3 : (n : Int) * 0 = 0 := Int.mul_zero _
    intro i hi
    rcases Nat.lt_or_ge i n with h4 | h4
    · exact ih (fun i hi => h0 i (by omega)) (by omega) i h4
    · obtain rfl : i = n := by omega
      omega

/-! ### 2. worlds -/
theorem add_plain (g j : Nat) : (⟨g, 0, none⟩ : Addr).add j = ⟨g, j, none⟩ := by unfold Addr.add; split <;> simp_all
theorem below_drewN {B : Nat} {w W : World} (h : Below B w W) (n : Nat) : Below B w (W.drewN n) := ⟨h.os, h.tape, h.output, h.size, h.block⟩
theorem below_drewN_self (w : World) (n : Nat) : Below w.heap.size w (w.drewN n) := below_drewN (Below.refl _ _) n
theorem below_then {B : Nat} {w w1 w2 : World} (h : Below B w w1) (hB : B ≤ w1.heap.size) (k : Below w1.heap.size w1 w2) : Below B w w2 :=
  h.trans (k.mono hB)
theorem grown_of_below {w w1 : World} (h : Below w.heap.size w w1) (row : Option Nat) : w.grownBy w1 row := ⟨h.os, h.tape, h.output, h.size, fun i hi _ => h.block i hi⟩
theorem cell_below {B : Nat} {w w1 : World} (h : Below B w w1) {a : Addr} {v : Value} (hc : w.cell? a = some v) (hB : a.block < B) : w1.cell? a = some v := (h.cell hB).trans hc

/-- Nothing but the blocks of S has turned; no block has gone. -/
structure Only (S : Nat → Prop) (w w' : World) : Prop where
  os : w'.os = w.os
  tape : w'.tape = w.tape
  output : w'.output = w.output
  size : w.heap.size ≤ w'.heap.size
  block : ∀ k, k < w.heap.size → ¬ S k → w'.heap[k]? = w.heap[k]?
theorem Only.refl (S : Nat → Prop) (w : World) : Only S w w := ⟨rfl, rfl, rfl, Nat.le_refl _, fun _ _ _ => rfl⟩
theorem Only.trans {S : Nat → Prop} {a b c : World} (h : Only S a b) (k : Only S b c) : Only S a c :=
  ⟨k.os.trans h.os, k.tape.trans h.tape, k.output.trans h.output, Nat.le_trans h.size k.size, fun i hi hs => (k.block i (Nat.lt_of_lt_of_le hi h.size) hs).trans (h.block i hi hs)⟩
theorem Only.mono {S T : Nat → Prop} {a b : World} (h : Only S a b) (hst : ∀ k, k < a.heap.size → S k → T k) : Only T a b :=
  ⟨h.os, h.tape, h.output, h.size, fun i hi hs => h.block i hi fun x => hs (hst i hi x)⟩
theorem Only.of_below {S : Nat → Prop} {w w' : World} (h : Below w.heap.size w w') : Only S w w' := ⟨h.os, h.tape, h.output, h.size, fun i hi _ => h.block i hi⟩
theorem Only.below {S : Nat → Prop} {w w' : World} (h : Only S w w') {B : Nat} (hB : B ≤ w.heap.size) (hs : ∀ k, k < B → ¬ S k) : Below B w w' := ⟨h.os, h.tape, h.output, h.size, fun i hi => h.block i (by omega) (hs i hi)⟩
theorem Only.cell {S : Nat → Prop} {w w' : World} (h : Only S w w') {a : Addr} {v : Value} (hc : w.cell? a = some v) (hs : ¬ S a.block) : w'.cell? a = some v :=
  (World.cell?_of_block (h.block a.block (World.block_lt_of_cell? w a hc) hs)).trans hc
theorem Only.obj {S : Nat → Prop} {w w' : World} (h : Only S w w') {b : Nat} {o : Obj} (hc : w.heap[b]? = some o) (hs : ¬ S b) : w'.heap[b]? = some o :=
  (h.block b (Array.getElem?_eq_some_iff.1 hc).1 hs).trans hc
theorem obj_below {B : Nat} {w w' : World} (h : Below B w w') {b : Nat} {o : Obj} (hc : w.heap[b]? = some o) (hB : b < B) : w'.heap[b]? = some o := (h.block b hB).trans hc
theorem obj_lt {w : World} {b : Nat} {o : Obj} (hc : w.heap[b]? = some o) : b < w.heap.size := (Array.getElem?_eq_some_iff.1 hc).1

/-! ### 3. slices of whole numbers -/
/-- The slice at A reads as the numbers xs. -/
def Rd (w : World) (k : IntKind) (A : Option Addr) (xs : List Int) : Prop :=
  xs.length ≤ 9223372036854775807 ∧ ∀ j, j < xs.length → ∃ ad, A = some ad ∧ w.cell? (ad.add j) = some (.int k (xs.getD j 0))
def R32 (xs : List Int) : Prop := ∀ x ∈ xs, -2147483648 ≤ x ∧ x ≤ 2147483647
theorem R32.at {xs : List Int} (h : R32 xs) (j : Nat) : -2147483648 ≤ xs.getD j 0 ∧ xs.getD j 0 ≤ 2147483647 := by
  rcases Nat.lt_or_ge j xs.length with hj | hj
  · exact h (xs.getD j 0) (by simp [List.getD, hj])
  · simp [List.getD, hj]
theorem Rd.below {w w1 : World} {k : IntKind} {A : Option Addr} {xs : List Int} (h : Rd w k A xs) (hb : Below w.heap.size w w1) : Rd w1 k A xs :=
  ⟨h.1, fun j hj => by
    obtain ⟨ad, e, hc⟩ := h.2 j hj
    exact ⟨ad, e, cell_below hb hc (World.block_lt_of_cell? w _ hc)⟩⟩
theorem Rd.drewN {w : World} {k : IntKind} {A : Option Addr} {xs : List Int} (h : Rd w k A xs) (n : Nat) : Rd (w.drewN n) k A xs := h.below (below_drewN_self w n)
theorem Rd.nil (w : World) (k : IntKind) (A : Option Addr) : Rd w k A [] := ⟨by simp, fun j hj => by simp at hj⟩
def nums (k : IntKind) (xs : List Int) : List Value := xs.map fun x => .int k x
theorem nums_length (k : IntKind) (xs : List Int) : (nums k xs).length = xs.length := by simp [nums]
theorem nums_append (k : IntKind) (xs ys : List Int) : nums k (xs ++ ys) = nums k xs ++ nums k ys := by simp [nums]
theorem nums_get (k : IntKind) (xs : List Int) (j : Nat) (h : j < xs.length) : (nums k xs)[j]? = some (.int k (xs.getD j 0)) := by simp [nums, List.getD, h]
theorem below_alloc1 {w W : World} (h : Below w.heap.size w W) (o : Obj) : Below w.heap.size w (W.alloc o) := h.alloc h.size o
theorem below_drew1 {B : Nat} {w W : World} (h : Below B w W) : Below B w W.drew := h.drew
/-- A row of the call's own, as whole numbers. -/
def Own (w : World) (base : Nat) (e : TypeId) (k : IntKind) (v : Value) (xs : List Int) : Prop := w.ownsRow base e 1 v xs.length (nums k xs)
theorem own_shape {w : World} {base : Nat} {e : TypeId} {size n : Nat} {v : Value} {xs : List Value} (h : w.ownsRow base e size v n xs) : ∃ A cap, v = .slice A n cap ∧ n ≤ cap := by
  rcases h.2 with ⟨rfl, rfl⟩ | ⟨g, cap, cur, rfl, _, _, hc, _⟩
  · exact ⟨_, _, rfl, Nat.le_refl _⟩
  · exact ⟨_, _, rfl, hc⟩
theorem own_cell {w : World} {base : Nat} {e : TypeId} {A : Option Addr} {n c : Nat} {xs : List Value} (h : w.ownsRow base e 1 (.slice A n c) n xs) (j : Nat) (hj : j < n) :
    ∃ g, A = some ⟨g, 0, none⟩ ∧ base ≤ g ∧ w.cell? ⟨g, j, none⟩ = xs[j]? ∧ w.frozen? ⟨g, j, none⟩ = false := by
  rcases h.2 with ⟨h1, rfl⟩ | ⟨g, cap, cur, h1, hb, hg, hc, _, hs, ht⟩
  · omega
  · injection h1 with h1 h2 h3
    refine ⟨g, h1, hb, ?_, ?_⟩
    · simp only [World.cell?, hg]
      rw [← ht]
      simp [hj]
    · simp [World.frozen?, hg]
theorem Own.rd {w : World} {base : Nat} {e : TypeId} {k : IntKind} {A : Option Addr} {n c : Nat} {xs : List Int} (h : Own w base e k (.slice A n c) xs) : n = xs.length ∧ Rd w k A xs := by
  obtain ⟨A', cap, he, hcap⟩ := own_shape h
  injection he with h1 h2 h3
  subst h1 h2 h3
  refine ⟨rfl, ?_, fun j hj => ?_⟩
  · rcases h.2 with ⟨_, h0⟩ | ⟨g, cap, cur, h1, _, _, h2, h3, _⟩
    · omega
    · have : maxLen = 9223372036854775807 := rfl
      omega
  · obtain ⟨g, rfl, _, hcell, _⟩ := own_cell h j hj
    exact ⟨_, rfl, by rw [add_plain, hcell, nums_get _ _ _ hj]⟩
theorem Own.shape {w : World} {base : Nat} {e : TypeId} {k : IntKind} {v : Value} {xs : List Int} (h : Own w base e k v xs) : ∃ A c, v = .slice A xs.length c ∧ xs.length ≤ c ∧ Rd w k A xs := by
  obtain ⟨A, c, rfl, hc⟩ := own_shape h
  exact ⟨A, c, rfl, hc, (Own.rd h).2⟩
theorem Own.keep {w w1 : World} {base : Nat} {e : TypeId} {k : IntKind} {v : Value} {xs : List Int} (h : Own w base e k v xs) (hb : Below w.heap.size w w1) : Own w1 base e k v xs :=
  World.ownsRow.kept h (grown_of_below hb none) (by cases v.ownBlock <;> simp)
theorem Own.low {w : World} {base base' : Nat} {e : TypeId} {k : IntKind} {v : Value} {xs : List Int} (h : Own w base e k v xs) (hb : base' ≤ base) : Own w base' e k v xs := by
  refine ⟨h.1, ?_⟩
  rcases h.2 with h | ⟨g, cap, cur, h1, h2, h3⟩
  · exact .inl h
  · exact .inr ⟨g, cap, cur, h1, by omega, h3⟩

/-! ### 4. append: whatever is appended, whoever owns the row -/
/-- The slice at A reads as the cells cs. -/
def RdC (w : World) (A : Option Addr) (cs : List Value) : Prop := ∀ j u, cs[j]? = some u → ∃ ad, A = some ad ∧ w.cell? (ad.add j) = some u
theorem RdC.below {w w1 : World} {A : Option Addr} {cs : List Value} (h : RdC w A cs) (hb : Below w.heap.size w w1) : RdC w1 A cs := fun j u hu => by
  obtain ⟨ad, e, hc⟩ := h j u hu
  exact ⟨ad, e, cell_below hb hc (World.block_lt_of_cell? w _ hc)⟩
theorem Rd.c {w : World} {k : IntKind} {A : Option Addr} {xs : List Int} (h : Rd w k A xs) : RdC w A (nums k xs) := fun j u hu => by
  have hj : j < xs.length := by
    rcases Nat.lt_or_ge j xs.length with h | h
    · exact h
    · simp [nums, List.getElem?_eq_none h] at hu
  obtain ⟨ad, e, hc⟩ := h.2 j hj
  rw [nums_get _ _ _ hj] at hu
  exact ⟨ad, e, by rw [hc, hu]⟩
theorem RdC.block {w : World} {b : Nat} {cs : Array Value} {t : TypeId} {fr : Nat × Nat} (h : w.heap[b]? = some (.cells cs t fr)) : RdC w (some ⟨b, 0, none⟩) cs.toList := fun j u hu => by
  refine ⟨_, rfl, ?_⟩
  rw [add_plain]
  simp only [World.cell?, h]
  simpa using hu
theorem RdC.one (w : World) (u : Value) (t : TypeId) : RdC (w.alloc (.cells #[u] t)) (some ⟨w.heap.size, 0, none⟩) [u] := RdC.block (cs := #[u]) (heap_alloc_new _ _)
theorem RdC.oneD (w : World) (u : Value) (t : TypeId) : RdC (w.alloc (.cells #[u] t)).drew (some ⟨w.heap.size, 0, none⟩) [u] := RdC.block (w := (w.alloc (.cells #[u] t)).drew) (cs := #[u]) (heap_alloc_new w _)
theorem nums_one (k : IntKind) (xs : List Int) : ∀ u ∈ nums k xs, u.oneCell' = true := by
  intro u hu
  obtain ⟨x, _, rfl⟩ := List.mem_map.1 hu
  rfl
def OwnB (v : Value) (k : Nat) : Prop := v.ownBlock = some k
theorem own_base {w : World} {base : Nat} {e : TypeId} {size n : Nat} {v : Value} {xs : List Value} (h : w.ownsRow base e size v n xs) (k : Nat) (hk : v.ownBlock = some k) : base ≤ k := by
  rcases h.2 with ⟨rfl, _⟩ | ⟨g, cap, cur, rfl, hb, _⟩
  · simp [Value.ownBlock] at hk
  · have : g = k := by simpa [Value.ownBlock] using hk
    omega
theorem only_grown {w w1 : World} {v : Value} (h : w.grownBy w1 v.ownBlock) : Only (OwnB v) w w1 := ⟨h.os, h.tape, h.output, h.size, fun k hk hs => h.block k hk fun e => hs e.symm⟩

section
variable {P : Program} (w : World)
theorem run_app (t ty e : TypeId) (z : Value) (size bytes : Nat) (ht : P.underlying t = some (.slice e)) (hinfo : (P.info? e).map (fun i => (i.zero, i.size, i.bytes)) = some (some z, size, bytes)) (hzs : z.cells.size = size) (hsz : 0 < size) (hb0 : 0 < bytes)
    (base : Nat) (v : Value) (n : Nat) (xs : List Value) (hown : w.ownsRow base e size v n xs) (hbase : base ≤ w.heap.size)
    (A : Option Addr) (m c : Nat) (news : List Value) (hl : news.length = m * size) (hnews : RdC w A news) (h1 : ∀ u ∈ news, u.oneCell' = true) (hbytes : (n + m) * bytes ≤ 140737488355328) :
    ∃ v' w', (Builtin.append_ #[t, t] ty #[v, .slice A m c]).run P w = .ok v' w' ∧ w'.ownsRow base e size v' (n + m) (xs ++ news) ∧ w.grownBy w' v.ownBlock ∧ (v'.ownBlock = v.ownBlock ∨ v'.ownBlock = some w.heap.size) ∧ (v' = .slice none 0 0 ↔ v = .slice none 0 0 ∧ m = 0) := by
  obtain ⟨i0, hi, hzz⟩ := Option.map_eq_some_iff.1 hinfo
  simp only [Prod.mk.injEq] at hzz
  obtain ⟨hz0, hz1, hz2⟩ := hzz
  have hlen : n + m ≤ 140737488355328 := Nat.le_trans (Nat.le_mul_of_pos_right _ hb0) hbytes
  rcases A with _ | ad
  · have h0 : m = 0 := by
      rcases Nat.eq_zero_or_pos m with h0 | h0
      · exact h0
      · have hp : 0 < news.length := by rw [hl]; exact Nat.mul_pos h0 hsz
        obtain ⟨ad, h, _⟩ := hnews 0 news[0] (by simp)
        cases h
    subst h0
    obtain rfl : news = [] := List.eq_nil_of_length_eq_zero (by simpa using hl)
    refine ⟨v, w, ?_, by simpa using hown, World.grownBy.refl w _, .inl rfl, by simp⟩
    rcases hown.2 with ⟨rfl, hn⟩ | ⟨g, cap, cur, rfl, _, _, hnc, _⟩
    · simp [Builtin.append_, run_underlying ht, sizeOf, typeInfo, hi, Builtin.lenOf, Builtin.firstCells]
    · simp [Builtin.append_, run_underlying ht, sizeOf, typeInfo, hi, Builtin.lenOf, Builtin.firstCells, hnc, storeCells]
  · obtain ⟨v1, w1, hr, h2, h3, h4, h5⟩ := run_append_own_at (P := P) w base t ty e i0 z size bytes ht hi hz0 hz1 hz2 hzs hsz v n xs hown ad m c news hl
      (fun j u hu => by obtain ⟨ad', he, hc⟩ := hnews j u hu; injection he with he; subst he; exact hc) h1 (by simp only [maxLen]; omega) hbytes hbase
    exact ⟨v1, w1, hr, h2, h3, h5, h4⟩

theorem wpList_app {ops : Array Oper} {rest : List Oper} {o : Oper} {a : Act} {Q : Exit → Act → World → Prop} (hgd : o.guard = none) (s x : Operand) (t e : TypeId)
    (ho : o.op = .call { callee := .builtin .append, args := #[s, x], argTypes := #[t, t] })
    (z : Value) (size bytes : Nat) (ht : P.underlying t = some (.slice e)) (hinfo : (P.info? e).map (fun i => (i.zero, i.size, i.bytes)) = some (some z, size, bytes)) (hzs : z.cells.size = size) (hsz : 0 < size) (hb0 : 0 < bytes)
    (base : Nat) (v : Value) (n : Nat) (xs : List Value) (hs : a.eval s = v) (A : Option Addr) (m c : Nat) (hx : a.eval x = .slice A m c) (hown : w.ownsRow base e size v n xs) (w0 : World) (HB : Below base w0 w) (hbase : base ≤ w.heap.size)
    (news : List Value) (hl : news.length = m * size) (hnews : RdC w A news) (h1 : ∀ u ∈ news, u.oneCell' = true) (hbytes : (n + m) * bytes ≤ 140737488355328)
    (h : ∀ v' w', w'.ownsRow base e size v' (n + m) (xs ++ news) → Only (OwnB v) w w' → Below base w0 w' → (v'.ownBlock = v.ownBlock ∨ v'.ownBlock = some w.heap.size) → (v' = .slice none 0 0 ↔ v = .slice none 0 0 ∧ m = 0) → wpList P ops Q rest (a.put o.dst v') w') :
    wpList P ops Q (o :: rest) a w := by
  obtain ⟨v1, w1, hr, h2, h3, h4, h5⟩ := run_app (P := P) w t o.type e z size bytes ht hinfo hzs hsz hb0 base v n xs hown hbase A m c news hl hnews h1 hbytes
  have h20 := hown
  refine wpList_plain hgd fun K hK => ?_
  unfold Oper.wp execOp
  simp only [ho, resolve, invoke, builtin, Sem.run_bind, Sem.run_pure, Result.andThen_ok, List.map_toArray, List.map_cons, List.map_nil, hs, hx, hr]
  exact hK _ _ (h v1 w1 h2 (only_grown h3) (HB.grown h3 hbase (own_base h20)) h4 h5)

theorem step_app {ops : Array Oper} {o : Oper} {a : Act} {K : Act → World → Prop} {Q : Exit → Act → World → Prop} {E : Prop} (hgd : o.guard = none) (s x : Operand) (t e : TypeId)
    (ho : o.op = .call { callee := .builtin .append, args := #[s, x], argTypes := #[t, t] })
    (z : Value) (size bytes : Nat) (ht : P.underlying t = some (.slice e)) (hinfo : (P.info? e).map (fun i => (i.zero, i.size, i.bytes)) = some (some z, size, bytes)) (hzs : z.cells.size = size) (hsz : 0 < size) (hb0 : 0 < bytes)
    (base : Nat) (v : Value) (n : Nat) (xs : List Value) (hs : a.eval s = v) (A : Option Addr) (m c : Nat) (hx : a.eval x = .slice A m c) (hown : w.ownsRow base e size v n xs) (w0 : World) (HB : Below base w0 w) (hbase : base ≤ w.heap.size)
    (news : List Value) (hl : news.length = m * size) (hnews : RdC w A news) (h1 : ∀ u ∈ news, u.oneCell' = true) (hbytes : (n + m) * bytes ≤ 140737488355328)
    (h : ∀ v' w', w'.ownsRow base e size v' (n + m) (xs ++ news) → Only (OwnB v) w w' → Below base w0 w' → (v'.ownBlock = v.ownBlock ∨ v'.ownBlock = some w.heap.size) → (v' = .slice none 0 0 ↔ v = .slice none 0 0 ∧ m = 0) → K (a.put o.dst v') w') :
    if Region.wanted o (yielded ops a.tmps) = true then Oper.wp P o a w K Q else E := by
  have hw : Region.wanted o (yielded ops a.tmps) = true := by simp [Region.wanted, hgd]
  rw [if_pos hw]
  have h20 := hown
  obtain ⟨v1, w1, hr, h2, h3, h4, h5⟩ := run_app (P := P) w t o.type e z size bytes ht hinfo hzs hsz hb0 base v n xs hown hbase A m c news hl hnews h1 hbytes
  unfold Oper.wp execOp
  simp only [ho, resolve, invoke, builtin, Sem.run_bind, Sem.run_pure, Result.andThen_ok, List.map_toArray, List.map_cons, List.map_nil, hs, hx, hr]
  exact h v1 w1 h2 (only_grown h3) (HB.grown h3 hbase (own_base h20)) h4 h5

theorem madeCells_one (u : Value) (n : Nat) : madeCells #[u] n = (List.replicate n u).toArray := by
  apply Array.ext'
  simp only [madeCells, Array.toList_map, Array.toList_range]
  apply List.ext_getElem
  · simp
  · intro i h1 h2
    simp [Nat.mod_one]

/-- make([]T, n), T of one cell. -/
theorem wpList_mk {ops : Array Oper} {rest : List Oper} {o : Oper} {a : Act} {Q : Exit → Act → World → Prop} (hg : o.guard = none) (l c : Operand) (t e : TypeId) (hop : o.op = Op.makeSlice t l c)
    (z : Value) (bytes : Nat) (ht : P.underlying t = some (.slice e)) (hinfo : (P.info? e).map (fun i => (i.zero, i.size, i.bytes)) = some (some z, 1, bytes)) (hzc : z.cells = #[z])
    (kl kc : IntKind) (n : Nat) (hl : a.eval l = .int kl n) (hc : a.eval c = .int kc n) (hb : bytes * n ≤ 281474976710656) (h63 : n ≤ 9223372036854775807)
    (h : ∀ w', w'.heap[w.heap.size]? = some (.cells (List.replicate n z).toArray e (0, 0)) → Below w.heap.size w w' → w.heap.size < w'.heap.size → wpList P ops Q rest (a.put o.dst (.slice (some ⟨w.heap.size, 0, none⟩) n n)) w') :
    wpList P ops Q (o :: rest) a w := by
  obtain ⟨i0, hi, hzz⟩ := Option.map_eq_some_iff.1 hinfo
  simp only [Prod.mk.injEq] at hzz
  obtain ⟨hz0, hz1, hz2⟩ := hzz
  have hb' : (i0.bytes : Int) * (n : Int) ≤ 281474976710656 := by
    rw [hz2]
    have h : ((bytes * n : Nat) : Int) ≤ 281474976710656 := by omega
    rwa [Int.natCast_mul] at h
  have hrun := run_make (P := P) w t e i0 z ht hi hz0 kl kc n n (by omega) (Int.le_refl _) hb' (by omega)
  rw [Int.toNat_natCast, hz1, Nat.mul_one, hzc, madeCells_one] at hrun
  refine wpList_plain hg fun K hK => ?_
  unfold Oper.wp
  simp [execOp, hop, hl, hc, hrun, Result.andThen]
  exact hK _ _ (h _ (heap_alloc_new w _) ((Below.refl _ _).alloc (Nat.le_refl _) _) (by rw [World.size_alloc]; omega))
end

/-! ### 5. blocks that are known whole -/
theorem cell_blk {w : World} {b : Nat} {cs : List Value} {t : TypeId} {fr : Nat × Nat} (h : w.heap[b]? = some (.cells cs.toArray t fr)) (j : Nat) : w.cell? ⟨b, j, none⟩ = cs[j]? := by simp [World.cell?, h]
theorem free_blk {w : World} {b : Nat} {cs : Array Value} {t : TypeId} (h : w.heap[b]? = some (.cells cs t (0, 0))) (j : Nat) : w.frozen? ⟨b, j, none⟩ = false := by simp [World.frozen?, h]
theorem set_blk {w : World} {b : Nat} {cs : List Value} {t : TypeId} {fr : Nat × Nat} (h : w.heap[b]? = some (.cells cs.toArray t fr)) (j : Nat) (u : Value) : (w.setCell ⟨b, j, none⟩ u).heap[b]? = some (.cells (cs.set j u).toArray t fr) := by
  simp [World.setCell, Array.getElem?_modify, h]
theorem set_other {w : World} {b g : Nat} {o : Obj} (h : w.heap[b]? = some o) (j : Nat) (u : Value) (hne : b ≠ g) : (w.setCell ⟨g, j, none⟩ u).heap[b]? = some o := by
  rw [Below.heap_setCell _ _ _ _ hne]; exact h
theorem only_set (w : World) (b j : Nat) (u : Value) : Only (· = b) w (w.setCell ⟨b, j, none⟩ u) := ⟨rfl, rfl, rfl, by simp [World.setCell], fun k _ hk => Below.heap_setCell _ _ _ _ hk⟩
theorem below_set {B : Nat} {w W : World} (h : Below B w W) {b : Nat} (hb : B ≤ b) (j : Nat) (u : Value) : Below B w (W.setCell ⟨b, j, none⟩ u) := h.setCell hb u
theorem own_blk {w : World} {b base n cap : Nat} {cs : List Value} {t : TypeId} (h : w.heap[b]? = some (.cells cs.toArray t (0, 0))) (hb : base ≤ b) (hn : n ≤ cap) (hc : cap ≤ maxLen) (hl : cs.length = cap) : w.ownsRow base t 1 (.slice (some ⟨b, 0, none⟩) n cap) n (cs.take n) :=
  ⟨by simp; omega, .inr ⟨b, cap, cs.toArray, rfl, hb, h, hn, hc, by simp [hl], by simp⟩⟩
theorem Rd.blk {w : World} {k : IntKind} {b : Nat} {xs : List Int} {t : TypeId} {fr : Nat × Nat} (h : w.heap[b]? = some (.cells (nums k xs).toArray t fr)) (hl : xs.length ≤ 9223372036854775807) : Rd w k (some ⟨b, 0, none⟩) xs :=
  ⟨hl, fun j hj => ⟨_, rfl, by rw [add_plain, cell_blk h, nums_get _ _ _ hj]⟩⟩
theorem Rd.new (w : World) (k : IntKind) (xs : List Int) (t : TypeId) (hl : xs.length ≤ 9223372036854775807) : Rd (w.alloc (.cells (nums k xs).toArray t)) k (some ⟨w.heap.size, 0, none⟩) xs := Rd.blk (heap_alloc_new w _) hl
theorem Rd.alloc {w : World} {k : IntKind} {A : Option Addr} {xs : List Int} (h : Rd w k A xs) (o : Obj) : Rd (w.alloc o) k A xs := h.below ((Below.refl _ _).alloc (Nat.le_refl _) _)

theorem wpList_appI {P : Program} (w : World) {ops : Array Oper} {rest : List Oper} {o : Oper} {a : Act} {Q : Exit → Act → World → Prop} (hgd : o.guard = none) (s x : Operand) (t e : TypeId)
    (ho : o.op = .call { callee := .builtin .append, args := #[s, x], argTypes := #[t, t] })
    (k : IntKind) (bytes : Nat) (ht : P.underlying t = some (.slice e)) (hinfo : (P.info? e).map (fun i => (i.zero, i.size, i.bytes)) = some (some (.int k 0), 1, bytes)) (hb0 : 0 < bytes)
    (base : Nat) (v : Value) (xs : List Int) (hs : a.eval s = v) (A : Option Addr) (c : Nat) (ys : List Int) (hx : a.eval x = .slice A ys.length c) (hown : Own w base e k v xs) (w0 : World) (HB : Below base w0 w) (hbase : base ≤ w.heap.size)
    (hnews : Rd w k A ys) (hbytes : (xs.length + ys.length) * bytes ≤ 140737488355328)
    (h : ∀ v' w', Own w' base e k v' (xs ++ ys) → Only (OwnB v) w w' → Below base w0 w' → (v'.ownBlock = v.ownBlock ∨ v'.ownBlock = some w.heap.size) → (v' = .slice none 0 0 ↔ v = .slice none 0 0 ∧ ys.length = 0) → wpList P ops Q rest (a.put o.dst v') w') :
    wpList P ops Q (o :: rest) a w :=
  wpList_app w hgd s x t e ho (.int k 0) 1 bytes ht hinfo rfl (by omega) hb0 base v xs.length (nums k xs) hs A ys.length c hx hown w0 HB hbase (nums k ys) (by simp [nums]) hnews.c (nums_one _ _) hbytes
    fun v' w' h1 h2 h3 h4 h5 => h v' w' (by unfold Own; rw [nums_append, List.length_append]; exact h1) h2 h3 h4 h5
theorem Own.only {w w1 : World} {S : Nat → Prop} {base : Nat} {e : TypeId} {k : IntKind} {v : Value} {xs : List Int} (h : Own w base e k v xs) (ho : Only S w w1) (hs : ∀ b, v.ownBlock = some b → ¬ S b) : Own w1 base e k v xs := by
  refine ⟨h.1, ?_⟩
  rcases h.2 with h | ⟨g, cap, cur, rfl, h2, h3, h4⟩
  · exact .inl h
  · exact .inr ⟨g, cap, cur, rfl, h2, ho.obj h3 (hs g rfl), h4⟩
theorem Own.lt {w : World} {base : Nat} {e : TypeId} {k : IntKind} {v : Value} {xs : List Int} (h : Own w base e k v xs) (b : Nat) (hb : v.ownBlock = some b) : base ≤ b ∧ b < w.heap.size := World.ownsRow.lt h b hb
theorem Own.empty (w : World) (e : TypeId) (k : IntKind) : Own (w.alloc (.cells #[] e)) w.heap.size e k (.slice (some ⟨w.heap.size, 0, none⟩) 0 0) [] :=
  World.ownsRow_made w #[] 0 (Nat.le_refl _) (by unfold maxLen; omega) rfl
theorem Own.belowB {w w1 : World} {B base : Nat} {e : TypeId} {k : IntKind} {v : Value} {xs : List Int} (h : Own w base e k v xs) (hb : Below B w w1) (hB : ∀ b, v.ownBlock = some b → b < B) : Own w1 base e k v xs := by
  refine ⟨h.1, ?_⟩
  rcases h.2 with h | ⟨g, cap, cur, rfl, h2, h3, h4⟩
  · exact .inl h
  · exact .inr ⟨g, cap, cur, rfl, h2, obj_below hb h3 (hB g rfl), h4⟩
theorem Own.at_ {w : World} {base : Nat} {e : TypeId} {k : IntKind} {A : Option Addr} {n c : Nat} {xs : List Int} (h : Own w base e k (.slice A n c) xs) (j : Nat) (hj : j < n) :
    ∃ g, A = some ⟨g, 0, none⟩ ∧ base ≤ g ∧ g < w.heap.size ∧ w.cell? ⟨g, j, none⟩ = some (.int k (xs.getD j 0)) ∧ w.frozen? ⟨g, j, none⟩ = false ∧
      (∀ u, Own (w.setCell ⟨g, j, none⟩ (.int k u)) base e k (.slice A n c) (xs.set j u)) ∧ (Value.slice A n c).ownBlock = some g := by
  obtain ⟨hn, _⟩ := h.rd
  subst hn
  obtain ⟨g, rfl, hb, hc, hf⟩ := own_cell h j hj
  have hlt := (h.lt g rfl).2
  refine ⟨g, rfl, hb, hlt, by rw [hc, nums_get _ _ _ hj], hf, fun u => ?_, rfl⟩
  have hs := (World.ownsRow.stored h j (.int k u)).1
  unfold Own
  have he : nums k (xs.set j u) = (nums k xs).set j (.int k u) := by simp [nums, List.map_set]
  rw [he, List.length_set]
  exact hs

theorem own_alloc1 {w : World} {base : Nat} {e : TypeId} {size n : Nat} {v : Value} {xs : List Value} (h : w.ownsRow base e size v n xs) (o : Obj) : (w.alloc o).ownsRow base e size v n xs := h.alloc o
theorem own_drew1 {w : World} {base : Nat} {e : TypeId} {size n : Nat} {v : Value} {xs : List Value} (h : w.ownsRow base e size v n xs) : w.drew.ownsRow base e size v n xs := h.drew
theorem Own.row {w : World} {base : Nat} {e : TypeId} {k : IntKind} {v : Value} {xs : List Int} {n : Nat} (h : Own w base e k v xs) (hn : xs.length = n) : w.ownsRow base e 1 v n (nums k xs) := by subst hn; exact h
theorem Own.of_row {w : World} {base : Nat} {e : TypeId} {k : IntKind} {v : Value} {xs : List Int} {x : Int} {n : Nat} (h : w.ownsRow base e 1 v (n + 1) (nums k xs ++ [.int k x])) (hn : xs.length = n) : Own w base e k v (xs ++ [x]) := by
  subst hn
  unfold Own
  rw [nums_append, List.length_append]
  exact h
theorem row_only {w w1 : World} {S : Nat → Prop} {base : Nat} {e : TypeId} {size n : Nat} {v : Value} {xs : List Value} (h : w.ownsRow base e size v n xs) (ho : Only S w w1) (hs : ∀ b, v.ownBlock = some b → ¬ S b) : w1.ownsRow base e size v n xs := by
  refine ⟨h.1, ?_⟩
  rcases h.2 with h | ⟨g, cap, cur, rfl, h2, h3, h4⟩
  · exact .inl h
  · exact .inr ⟨g, cap, cur, rfl, h2, ho.obj h3 (hs g rfl), h4⟩
theorem RdC.alloc1 {w : World} {A : Option Addr} {cs : List Value} (h : RdC w A cs) (o : Obj) : RdC (w.alloc o) A cs := h.below ((Below.refl _ _).alloc (Nat.le_refl _) _)
theorem RdC.drew1 {w : World} {A : Option Addr} {cs : List Value} (h : RdC w A cs) : RdC w.drew A cs := h.below (Below.refl _ _).drew
theorem RdC.one' (w : World) (u : Value) (t : TypeId) (n : Nat) (hn : w.heap.size = n) : RdC (w.alloc (.cells #[u] t)) (some ⟨n, 0, none⟩) [u] := by subst hn; exact RdC.one _ _ _
theorem RdC.only {w w1 : World} {S : Nat → Prop} {g : Nat} {cs : List Value} (h : RdC w (some ⟨g, 0, none⟩) cs) (ho : Only S w w1) (hs : ¬ S g) : RdC w1 (some ⟨g, 0, none⟩) cs := fun j u hu => by
  obtain ⟨ad, e, hc⟩ := h j u hu
  injection e with e
  subst e
  exact ⟨_, rfl, ho.cell hc (by rw [add_plain]; exact hs)⟩
/-- Two rows in blocks of their own. -/
def Apart (v u : Value) : Prop := ∀ b, v.ownBlock = some b → u.ownBlock = some b → False
theorem Apart.symm {v u : Value} (h : Apart v u) : Apart u v := fun b h1 h2 => h b h2 h1
theorem Apart.nil (u : Value) : Apart (.slice none 0 0) u := fun b h1 _ => by simp [Value.ownBlock] at h1
theorem Apart.step {u v u1 v1 : Value} {n m1 m2 : Nat} (h : Apart u v) (hu : ∀ b, u.ownBlock = some b → b < n) (hv : ∀ b, v.ownBlock = some b → b < n)
    (h1 : u1.ownBlock = u.ownBlock ∨ u1.ownBlock = some m1) (hm1 : n ≤ m1) (h2 : v1.ownBlock = v.ownBlock ∨ v1.ownBlock = some m2) (hm2 : n ≤ m2) (hl : ∀ b, u1.ownBlock = some b → b < m2) : Apart u1 v1 := fun b hb1 hb2 => by
  have h3 := hl b hb1
  rcases h2 with h2 | h2
  · rw [h2] at hb2
    have h4 := hv b hb2
    rcases h1 with h1 | h1
    · rw [h1] at hb1; exact h b hb1 hb2
    · rw [h1] at hb1; injection hb1 with e; omega
  · rw [h2] at hb2; injection hb2 with e; omega
theorem row_lt {w : World} {base : Nat} {e : TypeId} {size n : Nat} {v : Value} {xs : List Value} (h : w.ownsRow base e size v n xs) (b : Nat) (hb : v.ownBlock = some b) : b < w.heap.size := (World.ownsRow.lt h b hb).2
theorem nums_replicate (k : IntKind) (n : Nat) (x : Int) : nums k (List.replicate n x) = List.replicate n (.int k x) := by simp [nums]
theorem Own.zeros {w : World} {b n base : Nat} {t : TypeId} {k : IntKind} (h : w.heap[b]? = some (.cells (List.replicate n (.int k 0)).toArray t (0, 0))) (hb : base ≤ b) (hn : n ≤ maxLen) : Own w base t k (.slice (some ⟨b, 0, none⟩) n n) (List.replicate n 0) := by
  have h2 := own_blk h hb (Nat.le_refl n) hn (by simp)
  rw [List.take_of_length_le (by simp), ← nums_replicate] at h2
  unfold Own
  rw [List.length_replicate]
  exact h2
theorem Own.alloc1 {w : World} {base : Nat} {e : TypeId} {k : IntKind} {v : Value} {xs : List Int} (h : Own w base e k v xs) (o : Obj) : Own (w.alloc o) base e k v xs := World.ownsRow.alloc h o
end Go.Proofs.YticdmglondpgaaaGreat

/-! ## Two: A row of the call's own whose elements are structs of q whole numbers: what it reads as, how a place of it is stored, and what append makes of it. Condition: each element lies as q cells. -/
namespace Go.Proofs.YticdmglondpgaaaGreat
open Go.RowKit
set_option linter.unusedVariables false
set_option maxRecDepth 100000

section
variable {α : Type} {f : α → List Value} {q : Nat}
theorem cellsF_length (hq : ∀ x, (f x).length = q) (xs : List α) : (xs.flatMap f).length = xs.length * q := by
  induction xs with
  | nil => simp
  | cons x xs ih => rw [List.flatMap_cons, List.length_append, ih, hq, List.length_cons, Nat.succ_mul]; omega
theorem cellsF_get (hq : ∀ x, (f x).length = q) : ∀ (xs : List α) (j i : Nat) (x : α), xs[j]? = some x → i < q → (xs.flatMap f)[j * q + i]? = (f x)[i]?
  | [], j, i, x, h, _ => by simp at h
  | y :: ys, 0, i, x, h, hi => by
    have : y = x := by simpa using h
    subst this
    rw [List.flatMap_cons, Nat.zero_mul, Nat.zero_add, List.getElem?_append_left (by rw [hq]; exact hi)]
  | y :: ys, j + 1, i, x, h, hi => by
    rw [List.flatMap_cons, List.getElem?_append_right (by rw [hq, Nat.succ_mul]; omega), hq, show (j + 1) * q + i - q = j * q + i by rw [Nat.succ_mul]; omega]
    exact cellsF_get hq ys j i x (by simpa using h) hi
theorem cellsF_one (h1 : ∀ x, ∀ u ∈ f x, u.oneCell' = true) (xs : List α) : ∀ u ∈ xs.flatMap f, u.oneCell' = true := fun u hu => by
  obtain ⟨x, _, h⟩ := List.mem_flatMap.1 hu
  exact h1 x u h
theorem cellsF_set2 {a b : Value} {y : α} (hy : f y = [a, b]) (hq : ∀ x, (f x).length = 2) : ∀ (xs : List α) (j : Nat), j < xs.length → (xs.set j y).flatMap f = ((xs.flatMap f).set (j * 2) a).set (j * 2 + 1) b
  | [], j, h => by simp at h
  | x :: xs, 0, h => by
    obtain ⟨u, v, hf⟩ : ∃ u v, f x = [u, v] := by
      have := hq x
      match hfx : f x, this with
      | [u, v], _ => exact ⟨u, v, rfl⟩
    simp [hy, hf]
  | x :: xs, j + 1, h => by
    have ih := cellsF_set2 hy hq xs j (by simpa using h)
    obtain ⟨u, v, hf⟩ : ∃ u v, f x = [u, v] := by
      have := hq x
      match hfx : f x, this with
      | [u, v], _ => exact ⟨u, v, rfl⟩
    rw [List.set_cons_succ, List.flatMap_cons, List.flatMap_cons, hf, ih, show (j + 1) * 2 = j * 2 + 1 + 1 by omega]
    simp
/-- A row of the call's own, of elements of q cells. -/
def OwnF (w : World) (base : Nat) (e : TypeId) (q : Nat) (f : α → List Value) (v : Value) (xs : List α) : Prop := w.ownsRow base e q v xs.length (xs.flatMap f)
theorem OwnF.nil (w : World) (base : Nat) (e : TypeId) : OwnF w base e q f (.slice none 0 0) [] := ⟨by simp, .inl ⟨rfl, rfl⟩⟩
theorem OwnF.shape {w : World} {base : Nat} {e : TypeId} {v : Value} {xs : List α} (h : OwnF w base e q f v xs) : ∃ A c, v = .slice A xs.length c ∧ xs.length ≤ c := own_shape h
theorem OwnF.keep {w w1 : World} {base : Nat} {e : TypeId} {v : Value} {xs : List α} (h : OwnF w base e q f v xs) (hb : Below w.heap.size w w1) : OwnF w1 base e q f v xs :=
  World.ownsRow.kept h (grown_of_below hb none) (by cases v.ownBlock <;> simp)
theorem OwnF.low {w : World} {base base' : Nat} {e : TypeId} {v : Value} {xs : List α} (h : OwnF w base e q f v xs) (hb : base' ≤ base) : OwnF w base' e q f v xs := by
  refine ⟨h.1, ?_⟩
  rcases h.2 with h | ⟨g, cap, cur, h1, h2, h3⟩
  · exact .inl h
  · exact .inr ⟨g, cap, cur, h1, by omega, h3⟩
theorem OwnF.only {w w1 : World} {S : Nat → Prop} {base : Nat} {e : TypeId} {v : Value} {xs : List α} (h : OwnF w base e q f v xs) (ho : Only S w w1) (hs : ∀ b, v.ownBlock = some b → ¬ S b) : OwnF w1 base e q f v xs := row_only h ho hs
theorem OwnF.lt {w : World} {base : Nat} {e : TypeId} {v : Value} {xs : List α} (h : OwnF w base e q f v xs) (b : Nat) (hb : v.ownBlock = some b) : base ≤ b ∧ b < w.heap.size := World.ownsRow.lt h b hb
theorem OwnF.alloc1 {w : World} {base : Nat} {e : TypeId} {v : Value} {xs : List α} (h : OwnF w base e q f v xs) (o : Obj) : OwnF (w.alloc o) base e q f v xs := own_alloc1 h o
theorem OwnF.drew1 {w : World} {base : Nat} {e : TypeId} {v : Value} {xs : List α} (h : OwnF w base e q f v xs) : OwnF w.drew base e q f v xs := own_drew1 h
theorem OwnF.drewN {w : World} {base : Nat} {e : TypeId} {v : Value} {xs : List α} (h : OwnF w base e q f v xs) (n : Nat) : OwnF (w.drewN n) base e q f v xs := h.keep (below_drewN_self w n)
/-- Where element j lies, and what its cells are. -/
theorem OwnF.at_ {w : World} {base : Nat} {e : TypeId} {A : Option Addr} {n c : Nat} {xs : List α} (hq : ∀ x, (f x).length = q) (h : OwnF w base e q f (.slice A n c) xs) (j : Nat) (hj : j < n) (h0 : 0 < q) :
    ∃ g x, A = some ⟨g, 0, none⟩ ∧ base ≤ g ∧ g < w.heap.size ∧ xs[j]? = some x ∧ (∀ i, i < q → w.cell? ⟨g, j * q + i, none⟩ = (f x)[i]?) ∧ (∀ i, w.frozen? ⟨g, i, none⟩ = false) ∧ (Value.slice A n c).ownBlock = some g := by
  obtain ⟨A1, c1, he, _⟩ := h.shape
  injection he with e1 e2 e3
  subst e1 e2 e3
  have hlt := h.lt
  rcases h.2 with ⟨_, hn⟩ | ⟨g, cap, cur, h1, hb, hg, hc, _, hs, ht⟩
  · omega
  · injection h1 with h1 h2 h3
    subst h1
    have hx : xs[j]? = some (xs[j]'hj) := by simp [hj]
    refine ⟨g, xs[j]'hj, rfl, hb, (hlt g rfl).2, hx, fun i hi => ?_, fun i => by simp [World.frozen?, hg], rfl⟩
    have hle : j * q + i < xs.length * q := by
      have : (j + 1) * q ≤ xs.length * q := Nat.mul_le_mul_right _ hj
      rw [Nat.succ_mul] at this
      omega
    rw [← cellsF_get hq xs j i _ hx hi, ← ht]
    simp [World.cell?, hg, hle]
theorem OwnF.store2 {w : World} {base : Nat} {e : TypeId} {g n c : Nat} {xs : List α} (hq : ∀ x, (f x).length = 2) (h : OwnF w base e 2 f (.slice (some ⟨g, 0, none⟩) n c) xs) (j : Nat) (hj : j < n) {y : α} {a b : Value} (hy : f y = [a, b]) :
    OwnF ((w.setCell ⟨g, j * 2, none⟩ a).setCell ⟨g, j * 2 + 1, none⟩ b) base e 2 f (.slice (some ⟨g, 0, none⟩) n c) (xs.set j y) := by
  obtain ⟨A1, c1, he, _⟩ := h.shape
  injection he with e1 e2 e3
  subst e2 e3
  have h1 := (World.ownsRow.stored h (j * 2) a).1
  have h2 := (World.ownsRow.stored h1 (j * 2 + 1) b).1
  unfold OwnF
  rw [cellsF_set2 hy hq xs j hj, List.length_set]
  exact h2
theorem wpList_appF {P : Program} (w : World) {ops : Array Oper} {rest : List Oper} {o : Oper} {a : Act} {Q : Exit → Act → World → Prop} (hgd : o.guard = none) (s x : Operand) (t e : TypeId)
    (ho : o.op = .call { callee := .builtin .append, args := #[s, x], argTypes := #[t, t] })
    (z : Value) (bytes : Nat) (ht : P.underlying t = some (.slice e)) (hinfo : (P.info? e).map (fun i => (i.zero, i.size, i.bytes)) = some (some z, q, bytes)) (hz : z.cells.size = q) (h0 : 0 < q) (hb0 : 0 < bytes) (hq : ∀ x, (f x).length = q) (h1 : ∀ x, ∀ u ∈ f x, u.oneCell' = true)
    (base : Nat) (v : Value) (xs : List α) (hs : a.eval s = v) (A : Option Addr) (c : Nat) (ys : List α) (hx : a.eval x = .slice A ys.length c) (hown : OwnF w base e q f v xs) (w0 : World) (HB : Below base w0 w) (hbase : base ≤ w.heap.size)
    (hnews : RdC w A (ys.flatMap f)) (hbytes : (xs.length + ys.length) * bytes ≤ 140737488355328)
    (h : ∀ v' w', OwnF w' base e q f v' (xs ++ ys) → Only (OwnB v) w w' → Below base w0 w' → (v'.ownBlock = v.ownBlock ∨ v'.ownBlock = some w.heap.size) → (v' = .slice none 0 0 ↔ v = .slice none 0 0 ∧ ys.length = 0) → wpList P ops Q rest (a.put o.dst v') w') :
    wpList P ops Q (o :: rest) a w :=
  wpList_app w hgd s x t e ho z q bytes ht hinfo hz h0 hb0 base v xs.length (xs.flatMap f) hs A ys.length c hx hown w0 HB hbase (ys.flatMap f) (cellsF_length hq ys) hnews (cellsF_one h1 ys) hbytes
    fun v' w' h1 h2 h3 h4 h5 => h v' w' (by unfold OwnF; rw [List.flatMap_append, List.length_append]; exact h1) h2 h3 h4 h5
theorem step_appF {P : Program} (w : World) {ops : Array Oper} {o : Oper} {a : Act} {K : Act → World → Prop} {Q : Exit → Act → World → Prop} {E : Prop} (hgd : o.guard = none) (s x : Operand) (t e : TypeId)
    (ho : o.op = .call { callee := .builtin .append, args := #[s, x], argTypes := #[t, t] })
    (z : Value) (bytes : Nat) (ht : P.underlying t = some (.slice e)) (hinfo : (P.info? e).map (fun i => (i.zero, i.size, i.bytes)) = some (some z, q, bytes)) (hz : z.cells.size = q) (h0 : 0 < q) (hb0 : 0 < bytes) (hq : ∀ x, (f x).length = q) (h1 : ∀ x, ∀ u ∈ f x, u.oneCell' = true)
    (base : Nat) (v : Value) (xs : List α) (hs : a.eval s = v) (A : Option Addr) (c : Nat) (ys : List α) (hx : a.eval x = .slice A ys.length c) (hown : OwnF w base e q f v xs) (w0 : World) (HB : Below base w0 w) (hbase : base ≤ w.heap.size)
    (hnews : RdC w A (ys.flatMap f)) (hbytes : (xs.length + ys.length) * bytes ≤ 140737488355328)
    (h : ∀ v' w', OwnF w' base e q f v' (xs ++ ys) → Only (OwnB v) w w' → Below base w0 w' → (v'.ownBlock = v.ownBlock ∨ v'.ownBlock = some w.heap.size) → (v' = .slice none 0 0 ↔ v = .slice none 0 0 ∧ ys.length = 0) → K (a.put o.dst v') w') :
    if Region.wanted o (yielded ops a.tmps) = true then Oper.wp P o a w K Q else E :=
  step_app w hgd s x t e ho z q bytes ht hinfo hz h0 hb0 base v xs.length (xs.flatMap f) hs A ys.length c hx hown w0 HB hbase (ys.flatMap f) (cellsF_length hq ys) hnews (cellsF_one h1 ys) hbytes
    fun v' w' h1 h2 h3 h4 h5 => h v' w' (by unfold OwnF; rw [List.flatMap_append, List.length_append]; exact h1) h2 h3 h4 h5
end
end Go.Proofs.YticdmglondpgaaaGreat

/-! ## Flat: A cell of an element of a row is written; the last element is left out. No condition: plain lemmas. -/
namespace Go.Proofs.YticdmglondpgaaaGreat
open Go.RowKit
set_option linter.unusedVariables false
set_option maxRecDepth 100000
set_option linter.unusedSimpArgs false

section
variable {α : Type} {f : α → List Value} {q : Nat}
theorem flatMap_set (hq : ∀ x, (f x).length = q) : ∀ (xs : List α) (j i : Nat) (x y : α) (u : Value), xs[j]? = some x → i < q → f y = (f x).set i u → (xs.set j y).flatMap f = (xs.flatMap f).set (j * q + i) u
  | [], j, i, x, y, u, h, _, _ => by simp at h
  | z :: xs, 0, i, x, y, u, h, hi, hy => by
    simp at h
    subst h
    rw [List.set_cons_zero, List.flatMap_cons, List.flatMap_cons, hy, Nat.zero_mul, Nat.zero_add, List.set_append_left _ _ (by rw [hq]; exact hi)]
  | z :: xs, j + 1, i, x, y, u, h, hi, hy => by
    have ih := flatMap_set hq xs j i x y u (by simpa using h) hi hy
    rw [List.set_cons_succ, List.flatMap_cons, List.flatMap_cons, ih, List.set_append_right _ _ (by rw [hq, Nat.succ_mul]; omega), hq]
    congr 2
    rw [Nat.succ_mul]; omega
theorem OwnF.storeI {w : World} {base : Nat} {e : TypeId} {g n c : Nat} {xs : List α} (hq : ∀ x, (f x).length = q) (h : OwnF w base e q f (.slice (some ⟨g, 0, none⟩) n c) xs) (j i : Nat) {x y : α} {u : Value} (hx : xs[j]? = some x) (hi : i < q) (hy : f y = (f x).set i u) :
    OwnF (w.setCell ⟨g, j * q + i, none⟩ u) base e q f (.slice (some ⟨g, 0, none⟩) n c) (xs.set j y) := by
  obtain ⟨A1, c1, he, _⟩ := h.shape
  injection he with e1 e2 e3
  subst e2 e3
  have h1 := (World.ownsRow.stored h (j * q + i) u).1
  unfold OwnF
  rw [flatMap_set hq xs j i x y u hx hi hy, List.length_set]
  exact h1
theorem OwnF.pop {w : World} {base : Nat} {e : TypeId} {A : Option Addr} {n c : Nat} {xs : List α} {x : α} (hq : ∀ x, (f x).length = q) (h : OwnF w base e q f (.slice A (n + 1) c) (xs ++ [x])) : OwnF w base e q f (.slice A n c) xs := by
  obtain ⟨A1, c1, he, _⟩ := h.shape
  injection he with e1 e2 e3
  have hn : xs.length = n := by simp at e2; omega
  subst hn
  refine ⟨cellsF_length hq xs, ?_⟩
  rcases h.2 with ⟨_, hh⟩ | ⟨g, cap, cur, h1, hb, hg, hc, hm, hs, ht⟩
  · simp at hh
  · injection h1 with h1 h2 h3
    subst h1; subst h3
    refine .inr ⟨g, c, cur, rfl, hb, hg, by simp at hc; omega, hm, hs, ?_⟩
    have h5 := congrArg (List.take (xs.length * q)) ht
    rw [List.take_take, List.flatMap_append] at h5
    rw [show min (xs.length * q) ((xs ++ [x]).length * q) = xs.length * q by rw [List.length_append, List.length_singleton, Nat.succ_mul]; omega] at h5
    rw [h5, List.take_append_of_le_length (by rw [cellsF_length hq]; exact Nat.le_refl _), List.take_of_length_le (by rw [cellsF_length hq]; exact Nat.le_refl _)]
end
end Go.Proofs.YticdmglondpgaaaGreat

/-! ## Vec: What package vec and the reference of layer 3 answer: the contract of each of their functions, for slices of any length that are read as int32. Condition of each: the arguments read as the named lists. -/
namespace Go.Proofs.YticdmglondpgaaaGreat
open Go.RowKit
set_option linter.unusedVariables false
set_option maxRecDepth 100000
set_option linter.unusedSimpArgs false
attribute [local go_sem] min2_run

/-! ### the plain functions -/
def dotN (xs ys : List Int) : Nat → Int := sumTo fun i => xs.getD i 0 * ys.getD i 0
def dot (xs ys : List Int) : Int := dotN xs ys (min xs.length ys.length)
def farN (xs ys : List Int) : Nat → Int := sumTo fun i => (xs.getD i 0 - ys.getD i 0) * (xs.getD i 0 - ys.getD i 0)
def far (xs ys : List Int) : Int := farN xs ys (min xs.length ys.length)
def lessN (xs ys : List Int) (n : Nat) : List Int := (List.range n).map fun i => wrap32 (xs.getD i 0 - ys.getD i 0)
def less (xs ys : List Int) : List Int := lessN xs ys (min xs.length ys.length)

theorem lessN_length (xs ys : List Int) (n : Nat) : (lessN xs ys n).length = n := by simp [lessN]
theorem lessN_succ (xs ys : List Int) (i : Nat) : lessN xs ys (i + 1) = lessN xs ys i ++ [wrap32 (xs.getD i 0 - ys.getD i 0)] := by simp [lessN, List.range_succ]
theorem dotN_succ (xs ys : List Int) (k : Nat) : dotN xs ys (k + 1) = dotN xs ys k + xs.getD k 0 * ys.getD k 0 := rfl
theorem farN_succ (xs ys : List Int) (k : Nat) : farN xs ys (k + 1) = farN xs ys k + (xs.getD k 0 - ys.getD k 0) * (xs.getD k 0 - ys.getD k 0) := rfl
theorem dot_step (d x y : Int) (hx : -2147483648 ≤ x ∧ x ≤ 2147483647) (hy : -2147483648 ≤ y ∧ y ≤ 2147483647) : wrap64 (wrap64 d + wrap64 (x * y)) = wrap64 (d + x * y) := by
  rw [wrap64_add, wrap64_add']

theorem far_step (d x y : Int) : wrap64 (wrap64 d + wrap64 ((x - y) * (x - y))) = wrap64 (d + (x - y) * (x - y)) := by
  rw [wrap64_add, wrap64_add']

theorem both_calls (A B : Option Addr) (n m c d : Nat) (w : World) : Calls Tryz.prog 194 #[.slice A n c, .slice B m d] w fun e w' => e = .returned (.int .i64 (min n m : Nat)) ∧ w = w' := by
  by_cases h : m < n
  · rw [Nat.min_eq_right (by omega)]
    go_enter Tryz.func194, Tryz.ntmps194
    go_wp2
    go_ret
    exact ⟨rfl, rfl⟩
  · rw [Nat.min_eq_left (by omega)]
    go_enter Tryz.func194, Tryz.ntmps194
    go_wp2
    go_ret
    exact ⟨rfl, rfl⟩

set_option maxHeartbeats 400000 in
theorem Dot_calls (A B : Option Addr) (c d : Nat) (xs ys : List Int) (w : World) (ha : Rd w .i32 A xs) (hb : Rd w .i32 B ys) (ra : R32 xs) (rb : R32 ys) :
    Calls Tryz.prog 145 #[.slice A xs.length c, .slice B ys.length d] w fun e w' => e = .returned (.int .i64 (wrap64 (dot xs ys))) ∧ ∃ n, w' = w.drewN n := by
  obtain ⟨n, hn⟩ : ∃ n, min xs.length ys.length = n := ⟨_, rfl⟩
  unfold dot
  rw [hn]
  have hna : n ≤ xs.length := by omega
  have hnb : n ≤ ys.length := by omega
  have hl := ha.1
  go_enter Tryz.func145, Tryz.ntmps145
  go_wp2_with (go_at_call 194; refine (both_calls _ _ _ _ _ _ _).mono ?_; rintro e w' ⟨rfl, rfl⟩; rw [hn])
  clear hn
  go_loopg [5, 10] n (fun kq v5 v10 w' => kq ≤ n ∧ v5 = .int .i64 (wrap64 (dotN xs ys (n - kq))) ∧ v10 = .int .i64 ((n - kq : Nat)) ∧ ∃ j, w' = w.drewN j)
  case atStart => exact ⟨Nat.le_refl _, by simp [dotN, sumTo, wrap64], by simp, 0, rfl⟩
  case round =>
    obtain ⟨hk, rfl, rfl, j, rfl⟩ := hrel
    cases gk with
    | zero =>
      simp only [Nat.sub_zero]
      go_wp2
      go_ret
      exact ⟨rfl, j, rfl⟩
    | succ k1 =>
      obtain ⟨i, hi⟩ : ∃ i, n - (k1 + 1) = i := ⟨_, rfl⟩
      have hi2 : n - k1 = i + 1 := by omega
      have hin : i < n := by omega
      rw [hi]
      obtain ⟨ad, rfl, hca⟩ := ha.2 i (by omega)
      obtain ⟨bd, rfl, hcb⟩ := hb.2 i (by omega)
      have hxl : i < xs.length := by omega
      have hyl : i < ys.length := by omega
      have hst := dot_step (dotN xs ys i) _ _ (ra.at i) (rb.at i)
      have h1 := ra.at i
      have h2 := rb.at i
      rw [← dotN_succ, ← hi2] at hst
      generalize xs.getD i 0 = x at *
      generalize ys.getD i 0 = y at *
      have HS := Lib.hid hst
      have HI := Lib.hid hi2
      clear hst hi2 hi
      go_wp2
      go_quiet (fail)
      go_wp2
      go_roundg k1
      case rel => exact ⟨by omega, by rw [HS.out], by rw [HI.out]; rfl, _, rfl⟩
      case measure => omega

set_option maxHeartbeats 400000 in
theorem Far_calls (A B : Option Addr) (c d : Nat) (xs ys : List Int) (w : World) (ha : Rd w .i32 A xs) (hb : Rd w .i32 B ys) (ra : R32 xs) (rb : R32 ys) :
    Calls Tryz.prog 188 #[.slice A xs.length c, .slice B ys.length d] w fun e w' => e = .returned (.int .i64 (wrap64 (far xs ys))) ∧ ∃ n, w' = w.drewN n := by
  obtain ⟨n, hn⟩ : ∃ n, min xs.length ys.length = n := ⟨_, rfl⟩
  unfold far
  rw [hn]
  have hna : n ≤ xs.length := by omega
  have hnb : n ≤ ys.length := by omega
  have hl := ha.1
  go_enter Tryz.func188, Tryz.ntmps188
  go_wp2_with (go_at_call 194; refine (both_calls _ _ _ _ _ _ _).mono ?_; rintro e w' ⟨rfl, rfl⟩; rw [hn])
  clear hn
  go_loopg [5, 11] n (fun kq v5 v11 w' => kq ≤ n ∧ v5 = .int .i64 (wrap64 (farN xs ys (n - kq))) ∧ v11 = .int .i64 ((n - kq : Nat)) ∧ ∃ j, w' = w.drewN j)
  case atStart => exact ⟨Nat.le_refl _, by simp [farN, sumTo, wrap64], by simp, 0, rfl⟩
  case round =>
    obtain ⟨hk, rfl, rfl, j, rfl⟩ := hrel
    cases gk with
    | zero =>
      simp only [Nat.sub_zero]
      go_wp2
      go_ret
      exact ⟨rfl, j, rfl⟩
    | succ k1 =>
      obtain ⟨i, hi⟩ : ∃ i, n - (k1 + 1) = i := ⟨_, rfl⟩
      have hi2 : n - k1 = i + 1 := by omega
      have hin : i < n := by omega
      rw [hi]
      obtain ⟨ad, rfl, hca⟩ := ha.2 i (by omega)
      obtain ⟨bd, rfl, hcb⟩ := hb.2 i (by omega)
      have hxl : i < xs.length := by omega
      have hyl : i < ys.length := by omega
      have h1 := ra.at i
      have h2 := rb.at i
      have hst := far_step (farN xs ys i) (xs.getD i 0) (ys.getD i 0)
      rw [← farN_succ, ← hi2] at hst
      generalize xs.getD i 0 = x at *
      generalize ys.getD i 0 = y at *
      have HS := Lib.hid hst
      have HI := Lib.hid hi2
      clear hst hi2 hi
      go_wp2
      go_quiet (fail)
      go_wp2
      go_roundg k1
      case rel => exact ⟨by omega, by rw [HS.out], by rw [HI.out]; rfl, _, rfl⟩
      case measure => omega

/-! ### equality of lists -/
theorem ext32 {xs ys : List Int} (hl : xs.length = ys.length) (h : ∀ j, j < xs.length → xs.getD j 0 = ys.getD j 0) : xs = ys := by
  refine List.ext_getElem hl fun i h1 h2 => ?_
  have := h i h1
  simpa [List.getD, h1, h2] using this
theorem eq_false_of_len {xs ys : List Int} (hl : ¬ xs.length = ys.length) : decide (xs = ys) = false := decide_eq_false fun e => hl (by rw [e])
theorem eq_false_of_get {xs ys : List Int} {i : Nat} (hl : ¬ xs.getD i 0 = ys.getD i 0) : decide (xs = ys) = false := decide_eq_false fun e => hl (by rw [e])

set_option maxHeartbeats 400000 in
theorem Equal_calls (A B : Option Addr) (c d : Nat) (xs ys : List Int) (w : World) (ha : Rd w .i32 A xs) (hb : Rd w .i32 B ys) :
    Calls Tryz.prog 160 #[.slice A xs.length c, .slice B ys.length d] w fun e w' => e = .returned (.bool (decide (xs = ys))) ∧ ∃ n, w' = w.drewN n := by
  by_cases hlen : xs.length = ys.length
  · obtain ⟨n, hn⟩ : ∃ n, xs.length = n := ⟨_, rfl⟩
    have hn2 : ys.length = n := by omega
    obtain ⟨b, hbx⟩ : ∃ b, decide (xs = ys) = b := ⟨_, rfl⟩
    have HB := Lib.hid hbx
    rw [hn, hn2, hbx]
    have hl := ha.1
    rw [hn] at hl
    have HN := Lib.hid hn
    have HN2 := Lib.hid hn2
    clear hn hn2 hbx hlen
    go_enter Tryz.func160, Tryz.ntmps160
    go_wp2
    go_loopg [13] n (fun kq v13 w' => kq ≤ n ∧ v13 = .int .i64 ((n - kq : Nat)) ∧ (∀ j, j < n - kq → xs.getD j 0 = ys.getD j 0) ∧ ∃ j, w' = w.drewN j)
    case atStart => exact ⟨Nat.le_refl _, by simp, fun j hj => by omega, 0, rfl⟩
    case round =>
      obtain ⟨hk, rfl, hall, j, rfl⟩ := hrel
      have HA := Lib.hid hall
      clear hall
      cases gk with
      | zero =>
        simp only [Nat.sub_zero]
        go_wp2
        go_ret
        refine ⟨ret_bool ?_, j, rfl⟩
        have h1 := HN.out
        have h2 := HN2.out
        rw [← HB.out]
        exact (decide_eq_true (ext32 (by omega) fun j hj => HA.out j (by omega))).symm
      | succ k1 =>
        obtain ⟨i, hi⟩ : ∃ i, n - (k1 + 1) = i := ⟨_, rfl⟩
        have hi2 : n - k1 = i + 1 := by omega
        have hin : i < n := by omega
        rw [hi]
        have hni : i < xs.length := by have := HN.out; omega
        have hni2 : i < ys.length := by have := HN2.out; omega
        obtain ⟨ad, rfl, hca⟩ := ha.2 i hni
        obtain ⟨bd, rfl, hcb⟩ := hb.2 i hni2
        obtain ⟨x, hx⟩ : ∃ x, xs.getD i 0 = x := ⟨_, rfl⟩
        obtain ⟨y, hy⟩ : ∃ x, ys.getD i 0 = x := ⟨_, rfl⟩
        rw [hx] at hca
        rw [hy] at hcb
        have HX := Lib.hid hx
        have HY := Lib.hid hy
        have HI := Lib.hid hi
        clear hi hi2 hx hy
        by_cases hxy : x = y
        · have hb1 : (x != y) = false := by simp [hxy]
          have HE := Lib.hid hxy
          clear hxy
          go_wp2
          go_quiet (fail)
          go_wp2
          go_roundg k1
          case rel =>
            have hi := HI.out
            have hx := HX.out
            have hy := HY.out
            have he := HE.out
            refine ⟨by omega, by rw [show n - k1 = i + 1 by omega]; rfl, fun j hj => ?_, _, rfl⟩
            rcases Nat.lt_or_ge j i with h | h
            · exact HA.out j (by omega)
            · obtain rfl : j = i := by omega
              rw [hx, hy, he]
          case measure => omega
        · have hb1 : (x != y) = true := by simp [hxy]
          have HE := Lib.hid hxy
          clear hxy
          go_wp2
          go_quiet (fail)
          go_wp2
          go_ret
          refine ⟨ret_bool ?_, _, World.drewN_drewN ..⟩
          rw [← HB.out]
          exact (eq_false_of_get (i := i) (by rw [HX.out, HY.out]; exact HE.out)).symm
  · rw [eq_false_of_len hlen]
    have hb1 : ((xs.length : Int) != (ys.length : Int)) = true := by simp; omega
    clear hlen
    go_enter Tryz.func160, Tryz.ntmps160
    go_wp2
    go_ret
    exact ⟨rfl, 0, rfl⟩

theorem Same_calls (A B : Option Addr) (c d : Nat) (xs ys : List Int) (w : World) (ha : Rd w .i32 A xs) (hb : Rd w .i32 B ys) :
    Calls Tryz.prog 123 #[.slice A xs.length c, .slice B ys.length d] w fun e w' => e = .returned (.bool (decide (xs = ys))) ∧ ∃ n, w' = w.drewN n := by
  obtain ⟨b, hbx⟩ : ∃ b, decide (xs = ys) = b := ⟨_, rfl⟩
  have h := Equal_calls A B c d xs ys w ha hb
  rw [hbx] at h ⊢
  clear hbx
  have H := Lib.hid h
  clear h
  go_enter Tryz.func123, Tryz.ntmps123
  go_wp2_with (go_at_call 160; refine H.out.mono ?_; rintro e w' ⟨rfl, n, rfl⟩)
  go_ret
  exact ⟨rfl, _, rfl⟩
theorem info_i32 : (Tryz.prog.info? 21).map (fun i => (i.zero, i.size, i.bytes)) = some (some (.int .i32 0), 1, 4) := by kernel_rfl
set_option maxHeartbeats 400000 in
theorem refSame_calls (A B : Option Addr) (c d : Nat) (xs ys : List Int) (w : World) (ha : Rd w .i32 A xs) (hb : Rd w .i32 B ys) :
    Calls Tryz.prog 102 #[.slice A xs.length c, .slice B ys.length d] w fun e w' => e = .returned (.bool (decide (xs = ys))) ∧ ∃ n, w' = w.drewN n := by
  by_cases hlen : xs.length = ys.length
  · obtain ⟨n, hn⟩ : ∃ n, xs.length = n := ⟨_, rfl⟩
    have hn2 : ys.length = n := by omega
    obtain ⟨b, hbx⟩ : ∃ b, decide (xs = ys) = b := ⟨_, rfl⟩
    have HB := Lib.hid hbx
    rw [hn, hn2, hbx]
    have hl := ha.1
    rw [hn] at hl
    have HN := Lib.hid hn
    have HN2 := Lib.hid hn2
    clear hn hn2 hbx hlen
    go_enter Tryz.func102, Tryz.ntmps102
    go_wp2
    go_loopg [5] n (fun kq v5 w' => kq ≤ n ∧ v5 = .int .i64 ((n - kq : Nat)) ∧ (∀ j, j < n - kq → xs.getD j 0 = ys.getD j 0) ∧ ∃ j, w' = w.drewN j)
    case atStart => exact ⟨Nat.le_refl _, by simp, fun j hj => by omega, 0, rfl⟩
    case round =>
      obtain ⟨hk, rfl, hall, j, rfl⟩ := hrel
      have HA := Lib.hid hall
      clear hall
      cases gk with
      | zero =>
        simp only [Nat.sub_zero]
        go_wp2
        go_ret
        refine ⟨ret_bool ?_, j, rfl⟩
        have h1 := HN.out
        have h2 := HN2.out
        rw [← HB.out]
        exact (decide_eq_true (ext32 (by omega) fun j hj => HA.out j (by omega))).symm
      | succ k1 =>
        obtain ⟨i, hi⟩ : ∃ i, n - (k1 + 1) = i := ⟨_, rfl⟩
        have hi2 : n - k1 = i + 1 := by omega
        have hin : i < n := by omega
        rw [hi]
        have hni : i < xs.length := by have := HN.out; omega
        have hni2 : i < ys.length := by have := HN2.out; omega
        obtain ⟨ad, rfl, hca⟩ := ha.2 i hni
        obtain ⟨bd, rfl, hcb⟩ := hb.2 i hni2
        obtain ⟨x, hx⟩ : ∃ x, xs.getD i 0 = x := ⟨_, rfl⟩
        obtain ⟨y, hy⟩ : ∃ x, ys.getD i 0 = x := ⟨_, rfl⟩
        rw [hx] at hca
        rw [hy] at hcb
        have HX := Lib.hid hx
        have HY := Lib.hid hy
        have HI := Lib.hid hi
        clear hi hi2 hx hy
        by_cases hxy : x = y
        · have hb1 : (x != y) = false := by simp [hxy]
          have HE := Lib.hid hxy
          clear hxy
          go_wp2
          go_quiet (fail)
          go_wp2
          go_roundg k1
          case rel =>
            have hi := HI.out
            have hx := HX.out
            have hy := HY.out
            have he := HE.out
            refine ⟨by omega, by rw [show n - k1 = i + 1 by omega]; rfl, fun j hj => ?_, _, rfl⟩
            rcases Nat.lt_or_ge j i with h | h
            · exact HA.out j (by omega)
            · obtain rfl : j = i := by omega
              rw [hx, hy, he]
          case measure => omega
        · have hb1 : (x != y) = true := by simp [hxy]
          have HE := Lib.hid hxy
          clear hxy
          go_wp2
          go_quiet (fail)
          go_wp2
          go_ret
          refine ⟨ret_bool ?_, _, World.drewN_drewN ..⟩
          rw [← HB.out]
          exact (eq_false_of_get (i := i) (by rw [HX.out, HY.out]; exact HE.out)).symm
  · rw [eq_false_of_len hlen]
    have hb1 : ((xs.length : Int) != (ys.length : Int)) = true := by simp; omega
    clear hlen
    go_enter Tryz.func102, Tryz.ntmps102
    go_wp2
    go_ret
    exact ⟨rfl, 0, rfl⟩


/-! ### Check -/
def outN (x : Int) : Bool := decide (x < -1048576) || decide (1048576 < x)
def anyOut (xs : List Int) : Bool := xs.any outN
def checkV (xs : List Int) (dim : Int) : Int := if dim < 1 ∨ 1024 < dim then 1 else if (xs.length : Int) ≠ dim then 3 else if anyOut xs = true then 4 else 0
theorem outN_iff (x : Int) : outN x = true ↔ x < -1048576 ∨ 1048576 < x := by simp [outN]
theorem anyOut_of {xs : List Int} {i : Nat} (hi : i < xs.length) (h : outN (xs.getD i 0) = true) : anyOut xs = true := by
  unfold anyOut
  rw [List.any_eq_true]
  exact ⟨xs.getD i 0, by simp [List.getD, hi], h⟩
theorem anyOut_none {xs : List Int} (h : ∀ j, j < xs.length → outN (xs.getD j 0) = false) : anyOut xs = false := by
  unfold anyOut
  rw [List.any_eq_false]
  intro x hx
  obtain ⟨j, hj, rfl⟩ := List.getElem_of_mem hx
  have := h j hj
  simp [List.getD, hj] at this
  simp [this]
theorem anyOut_false {xs : List Int} (h : anyOut xs = false) : ∀ x ∈ xs, -1048576 ≤ x ∧ x ≤ 1048576 := by
  intro x hx
  unfold anyOut at h
  rw [List.any_eq_false] at h
  have := h x hx
  rw [outN_iff] at this
  omega

theorem out_calls (x : Int) (w : World) : Calls Tryz.prog 128 #[.int .i32 x] w fun e w' => e = .returned (.bool (outN x)) ∧ w = w' := by
  by_cases h1 : x < -1048576
  · have e : outN x = true := by rw [outN_iff]; omega
    rw [e]
    go_enter Tryz.func128, Tryz.ntmps128
    go_wp2
    go_ret
    exact ⟨rfl, rfl⟩
  · have h1' : decide (x < -1048576) = false := decide_eq_false h1
    by_cases h2 : 1048576 < x
    · have e : outN x = true := by rw [outN_iff]; omega
      have h2' : decide (1048576 < x) = true := decide_eq_true h2
      rw [e]
      go_enter Tryz.func128, Tryz.ntmps128
      go_wp2
      go_ret
      exact ⟨rfl, rfl⟩
    · have e : outN x = false := by
        cases h : outN x with
        | false => rfl
        | true => rw [outN_iff] at h; omega
      have h2' : decide (1048576 < x) = false := decide_eq_false h2
      rw [e]
      go_enter Tryz.func128, Tryz.ntmps128
      go_wp2
      go_ret
      exact ⟨rfl, rfl⟩

set_option maxHeartbeats 400000 in
theorem Index_calls (A : Option Addr) (c : Nat) (xs : List Int) (w : World) (ha : Rd w .i32 A xs) :
    Calls Tryz.prog 165 #[.slice A xs.length c, .func (.func 128) #[] #[]] w fun e w' => ∃ r : Int, e = .returned (.int .i64 r) ∧ decide (0 ≤ r) = anyOut xs ∧ w = w' := by
  obtain ⟨n, hn⟩ : ∃ n, xs.length = n := ⟨_, rfl⟩
  obtain ⟨b, hbx⟩ : ∃ b, anyOut xs = b := ⟨_, rfl⟩
  have HB := Lib.hid hbx
  rw [hn, hbx]
  have hl := ha.1
  rw [hn] at hl
  have HN := Lib.hid hn
  clear hn hbx
  go_enter Tryz.func165, Tryz.ntmps165
  go_wp2_with fail
  go_loopg [8] n (fun kq v8 w' => kq ≤ n ∧ v8 = .int .i64 ((n - kq : Nat)) ∧ (∀ j, j < n - kq → outN (xs.getD j 0) = false) ∧ w = w')
  case atStart => exact ⟨Nat.le_refl _, by simp, fun j hj => by omega, rfl⟩
  case round =>
    obtain ⟨hk, rfl, hall, rfl⟩ := hrel
    have HA := Lib.hid hall
    clear hall
    cases gk with
    | zero =>
      simp only [Nat.sub_zero]
      go_wp2_with fail
      go_ret
      refine ⟨-1, rfl, ?_, rfl⟩
      rw [← HB.out, anyOut_none fun j hj => HA.out j (by have := HN.out; omega)]
      rfl
    | succ k1 =>
      obtain ⟨i, hi⟩ : ∃ i, n - (k1 + 1) = i := ⟨_, rfl⟩
      have hi2 : n - k1 = i + 1 := by omega
      have hin : i < n := by omega
      rw [hi]
      have hni : i < xs.length := by have := HN.out; omega
      obtain ⟨ad, rfl, hca⟩ := ha.2 i hni
      obtain ⟨x, hx⟩ : ∃ x, xs.getD i 0 = x := ⟨_, rfl⟩
      rw [hx] at hca
      have HX := Lib.hid hx
      have HI := Lib.hid hi
      clear hi hi2 hx
      cases ho : outN x with
      | true =>
        have hc := out_calls x w
        rw [ho] at hc
        have HO := Lib.hid ho
        have HC := Lib.hid hc
        clear ho hc
        go_wp2_with (go_at_call 128; refine HC.out.mono ?_; rintro e w' ⟨rfl, rfl⟩)
        go_ret
        refine ⟨(i : Int), rfl, ?_, rfl⟩
        rw [← HB.out, anyOut_of hni (by rw [HX.out]; exact HO.out)]
        simp
      | false =>
        have hc := out_calls x w
        rw [ho] at hc
        have HO := Lib.hid ho
        have HC := Lib.hid hc
        clear ho hc
        go_wp2_with (go_at_call 128; refine HC.out.mono ?_; rintro e w' ⟨rfl, rfl⟩)
        go_roundg k1
        case rel =>
          have hi := HI.out
          refine ⟨by omega, by rw [show n - k1 = i + 1 by omega]; rfl, fun j hj => ?_, rfl⟩
          rcases Nat.lt_or_ge j i with h | h
          · exact HA.out j (by omega)
          · obtain rfl : j = i := by omega
            rw [HX.out]; exact HO.out
        case measure => omega

theorem Contains_calls (A : Option Addr) (c : Nat) (xs : List Int) (w : World) (ha : Rd w .i32 A xs) :
    Calls Tryz.prog 127 #[.slice A xs.length c, .func (.func 128) #[] #[]] w fun e w' => e = .returned (.bool (anyOut xs)) ∧ w = w' := by
  have h := Lib.hid (Index_calls A c xs w ha)
  obtain ⟨b, hbx⟩ : ∃ b, anyOut xs = b := ⟨_, rfl⟩
  rw [hbx] at h ⊢
  clear hbx
  go_enter Tryz.func127, Tryz.ntmps127
  go_wp2_with (go_at_call 165; refine h.out.mono ?_; rintro e w' ⟨r, rfl, hr, rfl⟩)
  go_ret
  exact ⟨rfl, rfl⟩

theorem Check_calls (A : Option Addr) (c : Nat) (xs : List Int) (dim : Int) (w : World) (ha : Rd w .i32 A xs) :
    Calls Tryz.prog 86 #[.slice A xs.length c, .int .i64 dim] w fun e w' => e = .returned (.int .i64 (checkV xs dim)) ∧ w = w' := by
  unfold checkV
  have hl := ha.1
  by_cases h1 : dim < 1
  · rw [if_pos (.inl h1)]
    go_enter Tryz.func86, Tryz.ntmps86
    go_wp2
    go_ret
    exact ⟨rfl, rfl⟩
  · have h1' : decide (dim < 1) = false := decide_eq_false h1
    by_cases h2 : 1024 < dim
    · rw [if_pos (.inr h2)]
      have h2' : decide (1024 < dim) = true := decide_eq_true h2
      go_enter Tryz.func86, Tryz.ntmps86
      go_wp2
      go_ret
      exact ⟨rfl, rfl⟩
    · have h2' : decide (1024 < dim) = false := decide_eq_false h2
      rw [if_neg (by omega)]
      by_cases h3 : (xs.length : Int) = dim
      · rw [if_neg (by omega)]
        obtain rfl : dim = (xs.length : Int) := h3.symm
        obtain ⟨n, hn⟩ : ∃ n, xs.length = n := ⟨_, rfl⟩
        have hc := Lib.hid (Contains_calls A c xs w ha)
        rw [hn] at h1 h2 h1' h2' hl hc ⊢
        have h3' : ((n : Int) != n) = false := by simp
        clear h3
        obtain ⟨b, hb⟩ : ∃ b, anyOut xs = b := ⟨_, rfl⟩
        rw [hb] at hc ⊢
        clear hb hn
        cases b with
        | true =>
          go_enter Tryz.func86, Tryz.ntmps86
          go_wp2_with (go_at_call 127; refine hc.out.mono ?_; rintro e w' ⟨rfl, rfl⟩)
          go_ret
          exact ⟨rfl, rfl⟩
        | false =>
          go_enter Tryz.func86, Tryz.ntmps86
          go_wp2_with (go_at_call 127; refine hc.out.mono ?_; rintro e w' ⟨rfl, rfl⟩)
          go_ret
          exact ⟨rfl, rfl⟩
      · rw [if_pos h3]
        have h3' : ((xs.length : Int) != dim) = true := by simp [h3]
        clear h3
        go_enter Tryz.func86, Tryz.ntmps86
        go_wp2
        go_ret
        exact ⟨rfl, rfl⟩

set_option maxHeartbeats 400000 in
theorem refCheck_calls (A : Option Addr) (c : Nat) (xs : List Int) (dim : Int) (w : World) (ha : Rd w .i32 A xs) :
    Calls Tryz.prog 81 #[.slice A xs.length c, .int .i64 dim] w fun e w' => e = .returned (.int .i64 (checkV xs dim)) ∧ w = w' := by
  unfold checkV
  have hl := ha.1
  by_cases h1 : dim < 1
  · rw [if_pos (.inl h1)]
    go_enter Tryz.func81, Tryz.ntmps81
    go_wp2
    go_ret
    exact ⟨rfl, rfl⟩
  · have h1' : decide (dim < 1) = false := decide_eq_false h1
    by_cases h2 : 1024 < dim
    · rw [if_pos (.inr h2)]
      have h2' : decide (1024 < dim) = true := decide_eq_true h2
      go_enter Tryz.func81, Tryz.ntmps81
      go_wp2
      go_ret
      exact ⟨rfl, rfl⟩
    · have h2' : decide (1024 < dim) = false := decide_eq_false h2
      rw [if_neg (by omega)]
      by_cases h3 : (xs.length : Int) = dim
      · obtain rfl : dim = (xs.length : Int) := h3.symm
        obtain ⟨n, hn⟩ : ∃ n, xs.length = n := ⟨_, rfl⟩
        obtain ⟨b, hb⟩ : ∃ b : Int, (if anyOut xs = true then 4 else 0) = b := ⟨_, rfl⟩
        have HB := Lib.hid hb
        rw [hn] at h1 h2 h1' h2' hl ⊢
        have h3' : ((n : Int) != n) = false := by simp
        clear h3
        rw [if_neg (by simp [hn]), hb]
        have HN := Lib.hid hn
        clear hb hn
        go_enter Tryz.func81, Tryz.ntmps81
        go_wp2
        go_loopg [5] n (fun kq v5 w' => kq ≤ n ∧ v5 = .int .i64 ((n - kq : Nat)) ∧ (∀ j, j < n - kq → outN (xs.getD j 0) = false) ∧ w = w')
        case atStart => exact ⟨Nat.le_refl _, by simp, fun j hj => by omega, rfl⟩
        case round =>
          obtain ⟨hk, rfl, hall, rfl⟩ := hrel
          have HA := Lib.hid hall
          clear hall
          cases gk with
          | zero =>
            simp only [Nat.sub_zero]
            go_wp2
            go_ret
            refine ⟨?_, rfl⟩
            rw [← HB.out, anyOut_none fun j hj => HA.out j (by have := HN.out; omega)]
            rfl
          | succ k1 =>
            obtain ⟨i, hi⟩ : ∃ i, n - (k1 + 1) = i := ⟨_, rfl⟩
            have hi2 : n - k1 = i + 1 := by omega
            have hin : i < n := by omega
            rw [hi]
            have hni : i < xs.length := by have := HN.out; omega
            obtain ⟨ad, rfl, hca⟩ := ha.2 i hni
            obtain ⟨x, hx⟩ : ∃ x, xs.getD i 0 = x := ⟨_, rfl⟩
            rw [hx] at hca
            have HX := Lib.hid hx
            have HI := Lib.hid hi
            clear hi hi2 hx
            by_cases o1 : x < -1048576
            · have o1' : decide (x < -1048576) = true := decide_eq_true o1
              go_wp2
              go_ret
              refine ⟨?_, rfl⟩
              rw [← HB.out, anyOut_of hni (by rw [HX.out, outN_iff]; omega)]
              rfl
            · have o1' : decide (x < -1048576) = false := decide_eq_false o1
              by_cases o2 : 1048576 < x
              · have o2' : decide (1048576 < x) = true := decide_eq_true o2
                go_wp2
                go_ret
                refine ⟨?_, rfl⟩
                rw [← HB.out, anyOut_of hni (by rw [HX.out, outN_iff]; omega)]
                rfl
              · have o2' : decide (1048576 < x) = false := decide_eq_false o2
                go_wp2
                go_roundg k1
                case rel =>
                  have hi := HI.out
                  refine ⟨by omega, by rw [show n - k1 = i + 1 by omega]; rfl, fun j hj => ?_, rfl⟩
                  rcases Nat.lt_or_ge j i with h | h
                  · exact HA.out j (by omega)
                  · obtain rfl : j = i := by omega
                    rw [HX.out]
                    cases h : outN x with
                    | false => rfl
                    | true => rw [outN_iff] at h; omega
                case measure => omega
      · rw [if_pos h3]
        have h3' : ((xs.length : Int) != dim) = true := by simp [h3]
        clear h3
        go_enter Tryz.func81, Tryz.ntmps81
        go_wp2
        go_ret
        exact ⟨rfl, rfl⟩

theorem Clone_calls (A : Option Addr) (c : Nat) (xs : List Int) (w : World) (ha : Rd w .i32 A xs) (hs : xs.length ≤ 35184372088832) :
    Calls Tryz.prog 143 #[.slice A xs.length c] w fun e w' => ∃ v, e = .returned v ∧ Own w' w.heap.size 21 .i32 v xs ∧ (v = .slice none 0 0 ↔ xs.length = 0) ∧ Below w.heap.size w w' := by
  go_enter Tryz.func143, Tryz.ntmps143
  go_wp2_with (at_builtin; refine wpList_app _ rfl (.const (.slice none 0 0)) (.tmp 3) 29 21 rfl (.int .i32 0) 1 4 Tryz.underlying29 info_i32 rfl (by omega) (by omega) w.heap.size (.slice none 0 0) 0 [] rfl A xs.length c rfl (World.ownsRow_nil _ _ _ _) w (Below.refl _ _) (Nat.le_refl _) (nums .i32 xs) (by simp [nums]) ha.c (nums_one _ _) (by omega) ?_; intro v1 w1 hown1 hgrow hbel hat hnil)
  have HO := Lib.hid hown1
  have HN := Lib.hid hnil
  clear hown1 hnil hat
  go_wp2
  go_ret
  exact ⟨_, rfl, by simpa [Own] using HO.out, by simpa using HN.out, hbel⟩

/-! ### Less -/
def lessL (xs ys : List Int) (n i : Nat) : List Int := lessN xs ys i ++ (xs.take n).drop i
theorem lessL_zero (xs ys : List Int) (n : Nat) : lessL xs ys n 0 = xs.take n := by simp [lessL, lessN]
theorem lessL_full (xs ys : List Int) (n : Nat) (h : n ≤ xs.length) : lessL xs ys n n = lessN xs ys n := by
  have : (xs.take n).drop n = [] := List.drop_eq_nil_of_le (by simp; omega)
  simp [lessL, this]
theorem lessL_length (xs ys : List Int) (n i : Nat) (h : n ≤ xs.length) (hi : i ≤ n) : (lessL xs ys n i).length = n := by
  simp [lessL, lessN]; omega
theorem lessL_get (xs ys : List Int) (n i : Nat) (h : n ≤ xs.length) (hi : i < n) : (nums .i32 (lessL xs ys n i))[i]? = some (.int .i32 (xs.getD i 0)) := by
  rw [nums_get _ _ _ (by rw [lessL_length _ _ _ _ h (by omega)]; exact hi)]
  have h1 : i < xs.length := by omega
  simp [lessL, lessN, List.getD, List.getElem?_append, hi, h1, List.getElem?_take]
theorem lessL_set (xs ys : List Int) (n i : Nat) (h : n ≤ xs.length) (hi : i < n) : (nums .i32 (lessL xs ys n i)).set i (.int .i32 (wrap32 (xs.getD i 0 - ys.getD i 0))) = nums .i32 (lessL xs ys n (i + 1)) := by
  have e : (nums .i32 (lessL xs ys n i)).set i (.int .i32 (wrap32 (xs.getD i 0 - ys.getD i 0))) = nums .i32 ((lessL xs ys n i).set i (wrap32 (xs.getD i 0 - ys.getD i 0))) := by simp [nums, List.map_set]
  rw [e]
  congr 1
  have hl : (lessN xs ys i).length = i := lessN_length xs ys i
  have h2 : (xs.take n).drop i = xs.getD i 0 :: (xs.take n).drop (i + 1) := by
    have h3 : i < (xs.take n).length := by simp; omega
    have h4 : i < xs.length := by omega
    rw [List.drop_eq_getElem_cons h3]
    simp [List.getD, h4]
  simp only [lessL]
  rw [h2, List.set_append_right _ _ (by omega), hl, Nat.sub_self, List.set_cons_zero, lessN_succ]
  simp

theorem splice_zero {α : Type} (Z cs : List α) (h : Z.length = cs.length) : splice Z 0 cs = cs := by
  simp [splice, h]
set_option maxHeartbeats 400000 in
set_option maxRecDepth 100000 in
theorem Less_calls (A B : Option Addr) (c d : Nat) (xs ys : List Int) (w : World) (ha : Rd w .i32 A xs) (hb : Rd w .i32 B ys) (hs : xs.length ≤ 35184372088832) :
    Calls Tryz.prog 144 #[.slice A xs.length c, .slice B ys.length d] w fun e w' => ∃ v, e = .returned v ∧ Own w' w.heap.size 21 .i32 v (less xs ys) ∧ Below w.heap.size w w' ∧ v.ownBlock = some w.heap.size := by
  obtain ⟨n, hn⟩ : ∃ n, min xs.length ys.length = n := ⟨_, rfl⟩
  unfold less
  rw [hn]
  have hna : n ≤ xs.length := by omega
  have hnb : n ≤ ys.length := by omega
  have hl := ha.1
  go_enter Tryz.func144, Tryz.ntmps144
  go_wp2_with (first | (go_at_call 194; refine (both_calls _ _ _ _ _ _ _).mono ?_; rintro e w' ⟨rfl, rfl⟩; rw [hn]) | (at_make; refine wpList_mk _ rfl (.tmp 9) (.tmp 9) 29 21 rfl (.int .i32 0) 4 Tryz.underlying29 info_i32 rfl .i64 .i64 n rfl rfl (by omega) (by omega) ?_; intro w1 hblk hbel hsz; have HBK := Lib.hid hblk; clear hblk) | (with_reducible refine wpList_copy_splice rfl (.tmp 11) (.tmp 12) _ _ rfl 21 Tryz.underlying29 (by kernel_rfl) (some ⟨w.heap.size, 0, none⟩) A n n xs.length c rfl rfl w.heap.size 0 (List.replicate n (.int .i32 0)) 21 HBK.out (nums .i32 (xs.take n)) ?c1 ?c2 ?c3 (nums_one _ _) w.heap.size w hbel (Nat.le_refl _) ?_))
  case c1 => simp [nums]; exact Nat.min_comm _ _
  case c2 =>
    intro hp
    simp [nums] at hp
    obtain ⟨ad, rfl, _⟩ := ha.2 0 (by omega)
    refine ⟨ad, rfl, fun j v hv => ?_⟩
    have hj : j < n := by
      rcases Nat.lt_or_ge j n with h | h
      · exact h
      · rw [List.getElem?_eq_none (by simp [nums]; omega)] at hv; cases hv
    obtain ⟨ad', e, hc⟩ := ha.2 j (by omega)
    injection e with e
    subst e
    rw [nums_get _ _ _ (by simp; omega)] at hv
    rw [cell_below hbel hc (World.block_lt_of_cell? w _ hc), ← hv]
    have h1 : j < xs.length := by omega
    simp [List.getD, hj, h1]
  case c3 => simp [nums]; omega
  have HN := Lib.hid hn
  clear hn
  intro w2 hblk2 hbel2
  rw [splice_zero _ _ (by simp [nums]; omega), ← lessL_zero xs ys n] at hblk2
  go_wp2
  go_loopg [16] n (fun kq v16 w' => kq ≤ n ∧ v16 = .int .i64 ((n - kq : Nat)) ∧ Hid (w'.heap[w.heap.size]? = some (.cells (nums .i32 (lessL xs ys n (n - kq))).toArray 21 (0, 0))) ∧ Below w.heap.size w w')
  case atStart => exact ⟨Nat.le_refl _, by simp, by rw [Nat.sub_self]; exact hblk2, hbel2⟩
  case round =>
    clear hblk2 hbel2 HBK hbel hsz
    obtain ⟨hk, rfl, HO, HB⟩ := hrel
    have HBH := Lib.hid HB
    have hwz := HB.size
    clear HB
    cases gk with
    | zero =>
      simp only [Nat.sub_zero] at HO ⊢
      go_wp2
      go_ret
      refine ⟨_, rfl, ?_, HBH.out, rfl⟩
      have h := HO.out
      rw [lessL_full _ _ _ hna] at h
      have h2 := own_blk h (Nat.le_refl _) (Nat.le_refl n) (by unfold maxLen; omega) (by simp [nums, lessN])
      rw [List.take_of_length_le (by simp [nums, lessN])] at h2
      unfold Own
      rw [lessN_length]
      exact h2
    | succ k1 =>
      obtain ⟨i, hi⟩ : ∃ i, n - (k1 + 1) = i := ⟨_, rfl⟩
      have hi2 : n - k1 = i + 1 := by omega
      have HI := Lib.hid hi2
      have hlt : i < n := by omega
      have hlt2 : i < ys.length := by omega
      rw [hi] at HO ⊢
      obtain ⟨bd, rfl, hcb⟩ := hb.2 i hlt2
      have hcb' : wr.cell? (bd.add i) = _ := cell_below HBH.out hcb (World.block_lt_of_cell? w _ hcb)
      have hca' : wr.cell? ⟨w.heap.size, i, none⟩ = some (.int .i32 (xs.getD i 0)) := by rw [cell_blk HO.out, lessL_get _ _ _ _ hna hlt]
      have hfr : wr.frozen? ⟨w.heap.size, i, none⟩ = false := free_blk HO.out i
      have hst := lessL_set xs ys n i hna hlt
      clear hi hi2 hcb
      generalize xs.getD i 0 = x at *
      generalize ys.getD i 0 = y at *
      have HS := Lib.hid hst
      have hwr := i32_w (x - y)
      clear hst
      go_wp2
      go_still_tail 10, (by kernel_rfl)
      go_wp2
      go_roundg k1
      case rel =>
        refine ⟨by omega, by rw [HI.out]; rfl, ?_, ?_⟩
        · rw [HI.out, ← HS.out]
          exact set_blk (w := wr.drew) HO.out _ _
        · exact below_set (HBH.out.drew) (Nat.le_refl _) _ _
      case measure => omega

/-! ### the same, the world told by what it keeps -/
theorem below_of_drewN {w w' : World} (h : ∃ n, w' = w.drewN n) : Below w.heap.size w w' := by
  obtain ⟨n, rfl⟩ := h
  exact below_drewN_self w n
theorem Dot_b (A B : Option Addr) (c d : Nat) (xs ys : List Int) (w : World) (ha : Rd w .i32 A xs) (hb : Rd w .i32 B ys) (ra : R32 xs) (rb : R32 ys) :
    Calls Tryz.prog 145 #[.slice A xs.length c, .slice B ys.length d] w fun e w' => e = .returned (.int .i64 (wrap64 (dot xs ys))) ∧ Below w.heap.size w w' :=
  (Dot_calls A B c d xs ys w ha hb ra rb).mono fun e w' ⟨h1, h2⟩ => ⟨h1, below_of_drewN h2⟩
theorem Far_b (A B : Option Addr) (c d : Nat) (xs ys : List Int) (w : World) (ha : Rd w .i32 A xs) (hb : Rd w .i32 B ys) (ra : R32 xs) (rb : R32 ys) :
    Calls Tryz.prog 188 #[.slice A xs.length c, .slice B ys.length d] w fun e w' => e = .returned (.int .i64 (wrap64 (far xs ys))) ∧ Below w.heap.size w w' :=
  (Far_calls A B c d xs ys w ha hb ra rb).mono fun e w' ⟨h1, h2⟩ => ⟨h1, below_of_drewN h2⟩
theorem Same_b (A B : Option Addr) (c d : Nat) (xs ys : List Int) (w : World) (ha : Rd w .i32 A xs) (hb : Rd w .i32 B ys) :
    Calls Tryz.prog 123 #[.slice A xs.length c, .slice B ys.length d] w fun e w' => e = .returned (.bool (decide (xs = ys))) ∧ Below w.heap.size w w' :=
  (Same_calls A B c d xs ys w ha hb).mono fun e w' ⟨h1, h2⟩ => ⟨h1, below_of_drewN h2⟩
theorem refSame_b (A B : Option Addr) (c d : Nat) (xs ys : List Int) (w : World) (ha : Rd w .i32 A xs) (hb : Rd w .i32 B ys) :
    Calls Tryz.prog 102 #[.slice A xs.length c, .slice B ys.length d] w fun e w' => e = .returned (.bool (decide (xs = ys))) ∧ Below w.heap.size w w' :=
  (refSame_calls A B c d xs ys w ha hb).mono fun e w' ⟨h1, h2⟩ => ⟨h1, below_of_drewN h2⟩
end Go.Proofs.YticdmglondpgaaaGreat

/-! ## VecMath: Plain lemmas on sums of products and of squares of differences: bounds, symmetry, parts, shifts. Condition of each: named in it (coordinates that may be, equal lengths). -/
namespace Go.Proofs.YticdmglondpgaaaGreat
open Go.RowKit
set_option linter.unusedVariables false
set_option maxRecDepth 100000
set_option linter.unusedSimpArgs false

theorem sq_nonneg (a : Int) : 0 ≤ a * a := by
  rcases Int.le_total 0 a with h | h
  · exact Int.mul_nonneg h h
  · exact Int.mul_nonneg_of_nonpos_of_nonpos h h
theorem mul_bd (x y B : Int) (hx : -B ≤ x ∧ x ≤ B) (hy : -B ≤ y ∧ y ≤ B) : -(B * B) ≤ x * y ∧ x * y ≤ B * B := by
  have h1 := Int.mul_nonneg (show 0 ≤ B - x by omega) (show 0 ≤ B - y by omega)
  have h2 := Int.mul_nonneg (show 0 ≤ B + x by omega) (show 0 ≤ B + y by omega)
  have h3 := Int.mul_nonneg (show 0 ≤ B - x by omega) (show 0 ≤ B + y by omega)
  have h4 := Int.mul_nonneg (show 0 ≤ B + x by omega) (show 0 ≤ B - y by omega)
  constructor <;> grind
/-- Coordinates within 2^20. -/
def B20 (xs : List Int) : Prop := ∀ x ∈ xs, -1048576 ≤ x ∧ x ≤ 1048576
theorem B20.at {xs : List Int} (h : B20 xs) (j : Nat) : -1048576 ≤ xs.getD j 0 ∧ xs.getD j 0 ≤ 1048576 := by
  rcases Nat.lt_or_ge j xs.length with hj | hj
  · exact h (xs.getD j 0) (by simp [List.getD, hj])
  · simp [List.getD, hj]
theorem checkV_zero {xs : List Int} {dim : Int} (h : checkV xs dim = 0) : 1 ≤ dim ∧ dim ≤ 1024 ∧ (xs.length : Int) = dim ∧ B20 xs := by
  unfold checkV at h
  by_cases h1 : dim < 1 ∨ 1024 < dim
  · rw [if_pos h1] at h; omega
  · rw [if_neg h1] at h
    by_cases h2 : (xs.length : Int) ≠ dim
    · rw [if_pos h2] at h; omega
    · rw [if_neg h2] at h
      cases h3 : anyOut xs with
      | true => rw [h3] at h; simp at h
      | false => exact ⟨by omega, by omega, by omega, anyOut_false h3⟩
theorem checkV_ok {xs : List Int} {dim : Int} (h1 : 1 ≤ dim) (h2 : dim ≤ 1024) (h3 : (xs.length : Int) = dim) (h4 : B20 xs) : checkV xs dim = 0 := by
  unfold checkV
  rw [if_neg (by omega), if_neg (by omega)]
  have : anyOut xs = false := by
    unfold anyOut
    rw [List.any_eq_false]
    intro x hx
    have := h4 x hx
    rw [outN_iff]; omega
  simp [this]

theorem sumTo_bd {f : Nat → Int} (n : Nat) (B : Int) (h : ∀ i, i < n → -B ≤ f i ∧ f i ≤ B) : -(n * B) ≤ sumTo f n ∧ sumTo f n ≤ n * B := by
  have h1 := sumTo_le (f := fun _ => -B) (g := f) n fun i hi => (h i hi).1
  have h2 := sumTo_le (f := f) (g := fun _ => B) n fun i hi => (h i hi).2
  rw [sumTo_const] at h1 h2
  have e : (n : Int) * -B = -(n * B) := Int.mul_neg _ _
  omega
theorem sumTo_comm_of {f g : Nat → Int} (h : ∀ i, f i = g i) (n : Nat) : sumTo f n = sumTo g n := sumTo_congr n fun i _ => h i
theorem dot_comm (xs ys : List Int) : dot xs ys = dot ys xs := by
  unfold dot dotN
  rw [Nat.min_comm]
  exact sumTo_congr _ fun i _ => Int.mul_comm _ _
theorem far_comm (xs ys : List Int) : far xs ys = far ys xs := by
  unfold far farN
  rw [Nat.min_comm]
  exact sumTo_congr _ fun i _ => by grind
theorem far_nonneg (xs ys : List Int) : 0 ≤ far xs ys := by
  have h := sumTo_le (f := fun _ => 0) (g := fun i => (xs.getD i 0 - ys.getD i 0) * (xs.getD i 0 - ys.getD i 0)) (min xs.length ys.length) fun i _ => sq_nonneg _
  rw [sumTo_const, Int.mul_zero] at h
  exact h
theorem dot_bd {xs ys : List Int} (hx : B20 xs) (hy : B20 ys) (hn : xs.length ≤ 1024) : -1125899906842624 ≤ dot xs ys ∧ dot xs ys ≤ 1125899906842624 := by
  have h := sumTo_bd (f := fun i => xs.getD i 0 * ys.getD i 0) (min xs.length ys.length) 1099511627776 fun i _ => mul_bd _ _ 1048576 (hx.at i) (hy.at i)
  have e : sumTo (fun i => xs.getD i 0 * ys.getD i 0) (min xs.length ys.length) = dot xs ys := rfl
  rw [e] at h
  omega
theorem far_bd {xs ys : List Int} (hx : B20 xs) (hy : B20 ys) (hn : xs.length ≤ 1024) : 0 ≤ far xs ys ∧ far xs ys ≤ 4503599627370496 := by
  refine ⟨far_nonneg _ _, ?_⟩
  have h := sumTo_bd (f := fun i => (xs.getD i 0 - ys.getD i 0) * (xs.getD i 0 - ys.getD i 0)) (min xs.length ys.length) 4398046511104 fun i _ => by
    have h1 := hx.at i
    have h2 := hy.at i
    exact mul_bd _ _ 2097152 (by omega) (by omega)
  have e : sumTo (fun i => (xs.getD i 0 - ys.getD i 0) * (xs.getD i 0 - ys.getD i 0)) (min xs.length ys.length) = far xs ys := rfl
  rw [e] at h
  omega
theorem far_bend (xs ys zs : List Int) (h1 : ys.length = xs.length) (h2 : zs.length = xs.length) : far xs zs ≤ 2 * (far xs ys + far ys zs) := by
  unfold far farN
  rw [h1, h2, Nat.min_self, ← sumTo_add, ← sumTo_mul]
  exact sumTo_le _ fun i _ => by
    have := sq_nonneg (xs.getD i 0 - 2 * ys.getD i 0 + zs.getD i 0)
    generalize xs.getD i 0 = x at *
    generalize ys.getD i 0 = y at *
    generalize zs.getD i 0 = z at *
    grind
theorem lessN_get (xs ys : List Int) (n i : Nat) (h : i < n) : (lessN xs ys n).getD i 0 = wrap32 (xs.getD i 0 - ys.getD i 0) := by simp [lessN, List.getD, h]
theorem less_length (xs ys : List Int) : (less xs ys).length = min xs.length ys.length := lessN_length _ _ _
theorem less_get {xs ys : List Int} (hx : B20 xs) (hy : B20 ys) (i : Nat) (h : i < min xs.length ys.length) : (less xs ys).getD i 0 = xs.getD i 0 - ys.getD i 0 := by
  have h1 := hx.at i
  have h2 := hy.at i
  unfold less
  rw [lessN_get _ _ _ _ h, wrap32_id _ (by omega)]
theorem dot_less {xs ys zs : List Int} (hx : B20 xs) (hy : B20 ys) (h1 : ys.length = xs.length) (h2 : zs.length = xs.length) : dot (less xs ys) zs = dot xs zs - dot ys zs := by
  unfold dot dotN
  rw [less_length, h1, h2, Nat.min_self, Nat.min_self, ← sumTo_sub]
  exact sumTo_congr _ fun i hi => by
    rw [less_get hx hy i (by omega), Int.sub_mul]
theorem R32.less (xs ys : List Int) : R32 (less xs ys) := fun x hx => by
  unfold Go.Proofs.YticdmglondpgaaaGreat.less lessN at hx
  obtain ⟨i, _, rfl⟩ := List.mem_map.1 hx
  exact wrap32_bd _
theorem B20.r32 {xs : List Int} (h : B20 xs) : R32 xs := fun x hx => by have := h x hx; omega
theorem far_less {xs ys : List Int} (hx : B20 xs) (hy : B20 ys) (h1 : ys.length = xs.length) : dot (less xs ys) (less xs ys) = far xs ys := by
  unfold dot dotN far farN
  rw [less_length, h1, Nat.min_self, Nat.min_self]
  exact sumTo_congr _ fun i hi => by rw [less_get hx hy i (by omega)]
theorem far_sums {xs ys : List Int} (h1 : ys.length = xs.length) : far xs ys = dot xs xs + dot ys ys - 2 * dot xs ys := by
  unfold dot dotN far farN
  rw [h1, Nat.min_self, ← sumTo_mul, ← sumTo_add, ← sumTo_sub]
  exact sumTo_congr _ fun i hi => by grind
theorem far_zero {xs ys : List Int} (h1 : ys.length = xs.length) : far xs ys = 0 ↔ xs = ys := by
  constructor
  · intro h
    unfold far farN at h
    rw [h1, Nat.min_self] at h
    have h2 := sumTo_eq_zero _ (fun i _ => sq_nonneg _) h
    refine ext32 h1.symm fun j hj => ?_
    have h3 := h2 j hj
    rcases Int.mul_eq_zero.1 h3 with h | h <;> omega
  · rintro rfl
    unfold far farN
    rw [sumTo_congr (g := fun _ => 0) _ fun i _ => by rw [Int.sub_self]; rfl, sumTo_const, Int.mul_zero]
end Go.Proofs.YticdmglondpgaaaGreat

/-! ## Plane: What package plane and the reference of layer 11 answer: the contract of each of their functions. Condition of each: the slices read as the named lists of int32. -/
namespace Go.Proofs.YticdmglondpgaaaGreat
open Go.RowKit
set_option linter.unusedVariables false
set_option maxRecDepth 100000
set_option linter.unusedSimpArgs false

/-! ### Margin, Side -/
def margin (ns : List Int) (off : Int) (ys : List Int) : Int := wrap64 (2 * dot ns ys - off)
theorem margin_eq (ns ys : List Int) (off : Int) : wrap64 (wrap64 (2 * wrap64 (dot ns ys)) - off) = margin ns off ys := by
  unfold margin
  rw [wrap64_sub]
  unfold wrap64; omega
theorem margin_eq2 (ns ys : List Int) (off : Int) : wrap64 (wrap64 (wrap64 (dot ns ys) + wrap64 (dot ns ys)) - off) = margin ns off ys := by
  unfold margin
  rw [wrap64_sub]
  unfold wrap64; omega

theorem Margin_calls (A B : Option Addr) (c d : Nat) (ns ys : List Int) (off : Int) (w : World) (ha : Rd w .i32 A ns) (hb : Rd w .i32 B ys) (ra : R32 ns) (rb : R32 ys) :
    Calls Tryz.prog 114 #[.agg #[.slice A ns.length c, .int .i64 off], .slice B ys.length d] w fun e w' => e = .returned (.int .i64 (margin ns off ys)) ∧ Below w.heap.size w w' := by
  have hm := margin_eq ns ys off
  obtain ⟨p, hp⟩ : ∃ p, wrap64 (dot ns ys) = p := ⟨_, rfl⟩
  rw [hp] at hm
  have HM := Lib.hid hm
  have HP := Lib.hid hp
  have KA := Lib.hid ha
  have KB := Lib.hid hb
  have RA := Lib.hid ra
  have RB := Lib.hid rb
  clear hm hp ha hb ra rb
  go_enter Tryz.func114, Tryz.ntmps114
  go_wp2_with fail
  go_quiet ((go_at_call 145; have hc := Dot_calls A B c d ns ys; rw [HP.out] at hc; exact Calls.quiet_of (hc _ ((KA.out.alloc _).drewN _) ((KB.out.alloc _).drewN _) RA.out RB.out)))
  go_wp2
  go_ret
  refine ⟨ret_int HM.out, ?_⟩
  exact below_drewN (below_alloc1 (Below.refl _ _) _) _

theorem Side_calls (A B : Option Addr) (c d : Nat) (ns ys : List Int) (off : Int) (w : World) (ha : Rd w .i32 A ns) (hb : Rd w .i32 B ys) (ra : R32 ns) (rb : R32 ys) :
    Calls Tryz.prog 147 #[.agg #[.slice A ns.length c, .int .i64 off], .slice B ys.length d] w fun e w' => e = .returned (.bool (decide (0 ≤ margin ns off ys))) ∧ Below w.heap.size w w' := by
  obtain ⟨p, hp⟩ : ∃ p, margin ns off ys = p := ⟨_, rfl⟩
  rw [hp]
  have HP := Lib.hid hp
  have KA := Lib.hid ha
  have KB := Lib.hid hb
  have RA := Lib.hid ra
  have RB := Lib.hid rb
  clear hp ha hb ra rb
  go_enter Tryz.func147, Tryz.ntmps147
  go_wp2_with fail
  refine (Margin_calls A B c d ns ys off _ (KA.out.alloc _) (KB.out.alloc _) RA.out RB.out).mono ?_
  rintro e w1 ⟨he, hb⟩
  rw [HP.out] at he
  subst he
  go_wp2
  go_ret
  exact ⟨rfl, (below_alloc1 (Below.refl _ _) _).trans (hb.mono (by simp))⟩

/-! ### Same -/
theorem pSame_calls (A B : Option Addr) (c d : Nat) (ns ms : List Int) (o1 o2 : Int) (w : World) (ha : Rd w .i32 A ns) (hb : Rd w .i32 B ms) :
    Calls Tryz.prog 79 #[.agg #[.slice A ns.length c, .int .i64 o1], .agg #[.slice B ms.length d, .int .i64 o2]] w fun e w' => e = .returned (.bool (decide (o1 = o2) && decide (ns = ms))) ∧ Below w.heap.size w w' := by
  have KA := Lib.hid ha
  have KB := Lib.hid hb
  clear ha hb
  by_cases h : o1 = o2
  · have h1 : (o1 == o2) = true := by simp [h]
    rw [decide_eq_true h, Bool.true_and]
    obtain ⟨p, hp⟩ : ∃ p, decide (ns = ms) = p := ⟨_, rfl⟩
    rw [hp]
    have HP := Lib.hid hp
    clear h hp
    go_enter Tryz.func79, Tryz.ntmps79
    go_wp2_with fail
    refine (Same_b A B c d ns ms _ ((KA.out.alloc _).alloc _) ((KB.out.alloc _).alloc _)).mono ?_
    rintro e w1 ⟨he, hb⟩
    rw [HP.out] at he
    subst he
    go_wp2
    go_ret
    exact ⟨rfl, (below_alloc1 (below_alloc1 (Below.refl _ _) _) _).trans (hb.mono (by simp; omega))⟩
  · have h1 : (o1 == o2) = false := by simp [h]
    rw [decide_eq_false h, Bool.false_and]
    clear h
    go_enter Tryz.func79, Tryz.ntmps79
    go_wp2_with fail
    go_ret
    exact ⟨rfl, below_alloc1 (below_alloc1 (Below.refl _ _) _) _⟩
theorem refpSame_calls (A B : Option Addr) (c d : Nat) (ns ms : List Int) (o1 o2 : Int) (w : World) (ha : Rd w .i32 A ns) (hb : Rd w .i32 B ms) :
    Calls Tryz.prog 59 #[.agg #[.slice A ns.length c, .int .i64 o1], .agg #[.slice B ms.length d, .int .i64 o2]] w fun e w' => e = .returned (.bool (decide (o1 = o2) && decide (ns = ms))) ∧ Below w.heap.size w w' := by
  have KA := Lib.hid ha
  have KB := Lib.hid hb
  clear ha hb
  by_cases h : o1 = o2
  · have h1 : (o1 == o2) = true := by simp [h]
    rw [decide_eq_true h, Bool.true_and]
    obtain ⟨p, hp⟩ : ∃ p, decide (ns = ms) = p := ⟨_, rfl⟩
    rw [hp]
    have HP := Lib.hid hp
    clear h hp
    go_enter Tryz.func59, Tryz.ntmps59
    go_wp2_with fail
    refine (refSame_b A B c d ns ms _ ((KA.out.alloc _).alloc _) ((KB.out.alloc _).alloc _)).mono ?_
    rintro e w1 ⟨he, hb⟩
    rw [HP.out] at he
    subst he
    go_wp2
    go_ret
    exact ⟨rfl, (below_alloc1 (below_alloc1 (Below.refl _ _) _) _).trans (hb.mono (by simp; omega))⟩
  · have h1 : (o1 == o2) = false := by simp [h]
    rw [decide_eq_false h, Bool.false_and]
    clear h
    go_enter Tryz.func59, Tryz.ntmps59
    go_wp2_with fail
    go_ret
    exact ⟨rfl, below_alloc1 (below_alloc1 (Below.refl _ _) _) _⟩

theorem pSame_self (A : Option Addr) (c : Nat) (ns : List Int) (o1 : Int) (w : World) (ha : Rd w .i32 A ns) :
    Calls Tryz.prog 79 #[.agg #[.slice A ns.length c, .int .i64 o1], .agg #[.slice A ns.length c, .int .i64 o1]] w fun e w' => e = .returned (.bool true) ∧ Below w.heap.size w w' :=
  (pSame_calls A A c c ns ns o1 o1 w ha ha).mono fun e w' ⟨h1, h2⟩ => ⟨h1.trans (by simp), h2⟩

/-! ### Between -/
def betweenOff (xs ys : List Int) : Int := wrap64 (dot (less xs ys) xs + dot (less xs ys) ys)

theorem Between_calls (A B : Option Addr) (c d : Nat) (xs ys : List Int) (w : World) (ha : Rd w .i32 A xs) (hb : Rd w .i32 B ys) (ra : R32 xs) (rb : R32 ys) (hs : xs.length ≤ 35184372088832) :
    Calls Tryz.prog 97 #[.slice A xs.length c, .slice B ys.length d] w fun e w' => ∃ v, e = .returned (.agg #[v, .int .i64 (betweenOff xs ys)]) ∧ Own w' w.heap.size 21 .i32 v (less xs ys) ∧ Below w.heap.size w w' := by
  obtain ⟨L, hL⟩ : ∃ L, less xs ys = L := ⟨_, rfl⟩
  have RL : Hid (R32 L) := by rw [← hL]; exact R32.less _ _
  obtain ⟨p1, hp1⟩ : ∃ p, wrap64 (dot L xs) = p := ⟨_, rfl⟩
  obtain ⟨p2, hp2⟩ : ∃ p, wrap64 (dot L ys) = p := ⟨_, rfl⟩
  obtain ⟨q, hq⟩ : ∃ q, betweenOff xs ys = q := ⟨_, rfl⟩
  have hm : wrap64 (p1 + p2) = q := by rw [← hp1, ← hp2, ← hq, wrap64_add, wrap64_add', ← hL]; rfl
  rw [hL, hq]
  have HM := Lib.hid hm
  have E1 := Lib.hid hp1
  have E2 := Lib.hid hp2
  have EL := Lib.hid hL
  have KA := Lib.hid ha
  have KB := Lib.hid hb
  have RA := Lib.hid ra
  have RB := Lib.hid rb
  clear hm hp1 hp2 hL hq ha hb ra rb
  go_enter Tryz.func97, Tryz.ntmps97
  go_wp2_with fail
  refine (Less_calls A B c d xs ys _ (KA.out.alloc _) (KB.out.alloc _) hs).mono ?_
  rintro e w1 ⟨v, he, ho, hb1, hbk⟩
  subst he
  rw [EL.out] at ho
  have k1 : Below w.heap.size w w1 := (below_alloc1 (Below.refl _ _) _).trans (hb1.mono (by simp))
  obtain ⟨AL, cL, hv, hcL, hRL⟩ := ho.shape
  subst hv
  have KL := Lib.hid hRL
  have HO := Lib.hid ho
  have hblk : Hid (w1.heap[w.heap.size]? = some (.cells #[.slice none 0 0, .int .i64 0] 111 (0, 0))) := obj_below hb1 (heap_alloc_new w _) (by simp)
  have hz1 : w.heap.size < w1.heap.size := by have := hb1.size; simp at this; omega
  clear ho hRL hcL hb1
  go_wp2_with fail
  refine (Dot_b AL A cL c L xs _ KL.out (KA.out.below k1) RL.out RA.out).mono ?_
  rintro e w2 ⟨he, hb2⟩
  rw [E1.out] at he
  subst he
  have k2 : Below w.heap.size w w2 := k1.trans (hb2.mono k1.size)
  have KL2 := Lib.hid (KL.out.below hb2)
  have HO2 := Lib.hid (HO.out.keep hb2)
  have hblk2 : Hid (w2.heap[w.heap.size]? = some (.cells #[.slice none 0 0, .int .i64 0] 111 (0, 0))) := obj_below hb2 hblk.out hz1
  have hz2 : w.heap.size < w2.heap.size := by have := hb2.size; omega
  clear hb2 k1 KL HO hblk hz1
  go_wp2_with fail
  refine (Dot_b AL B cL d L ys _ KL2.out (KB.out.below k2) RL.out RB.out).mono ?_
  rintro e w3 ⟨he, hb3⟩
  rw [E2.out] at he
  subst he
  have k3 : Below w.heap.size w w3 := k2.trans (hb3.mono k2.size)
  have HO3 := Lib.hid (HO2.out.keep hb3)
  have hblk3 := obj_below hb3 hblk2.out hz2
  have hc0 : w3.cell? ⟨w.heap.size, 0, none⟩ = some (.slice none 0 0) := by simp [World.cell?, hblk3]
  have hc1 : w3.cell? ⟨w.heap.size, 1, none⟩ = some (.int .i64 0) := by simp [World.cell?, hblk3]
  have hf0 : w3.frozen? ⟨w.heap.size, 0, none⟩ = false := by simp [World.frozen?, hblk3]
  have hf1 : w3.frozen? ⟨w.heap.size, 1, none⟩ = false := by simp [World.frozen?, hblk3]
  have HBK := Lib.hid hblk3
  clear hb3 k2 HO2 hblk2 hz2 hblk3 KL2
  have hne : ∀ b, (Value.slice AL L.length cL).ownBlock = some b → ¬ b = w.heap.size := fun b hb e => by
    have := (HO3.out.lt b hb).1
    simp at this
    omega
  have HNE := Lib.hid hne
  clear hne
  go_wp2
  have hb0 := set_blk (cs := [_, _]) HBK.out 0 (.slice AL L.length cL)
  have hb1 := set_blk hb0 1 (.int .i64 (wrap64 (p1 + p2)))
  have hr0 := cell_blk hb1 0
  have hr1 := cell_blk hb1 1
  simp only [List.set_cons_zero, List.set_cons_succ, List.getElem?_cons_zero, List.getElem?_cons_succ] at hr0 hr1
  refine bodyPost_ret (v := .agg #[.slice AL L.length cL, .int .i64 (wrap64 (p1 + p2))]) (by simp [results, Tryz.results97, go_sem, hr0, hr1]) rfl ⟨_, by rw [HM.out], ?_, below_set (below_set k3 (Nat.le_refl _) _ _) (Nat.le_refl _) _ _⟩
  exact (((HO3.out.only (only_set _ _ _ _) HNE.out).only (only_set _ _ _ _) HNE.out)).low (by simp)

/-! ### Check -/
def outP (x : Int) : Bool := decide (x < -2097152) || decide (2097152 < x)
def anyOutP (xs : List Int) : Bool := xs.any outP
def checkP (ns : List Int) (off dim : Int) : Int := if dim < 1 ∨ 1024 < dim then 1 else if (ns.length : Int) ≠ dim then 3 else if anyOutP ns = true then 4 else if off < -9007199254740992 ∨ 9007199254740992 < off then 1 else 0
theorem outP_iff (x : Int) : outP x = true ↔ x < -2097152 ∨ 2097152 < x := by simp [outP]
theorem anyOutP_of {xs : List Int} {i : Nat} (hi : i < xs.length) (h : outP (xs.getD i 0) = true) : anyOutP xs = true := by
  unfold anyOutP
  rw [List.any_eq_true]
  exact ⟨xs.getD i 0, by simp [List.getD, hi], h⟩
theorem anyOutP_none {xs : List Int} (h : ∀ j, j < xs.length → outP (xs.getD j 0) = false) : anyOutP xs = false := by
  unfold anyOutP
  rw [List.any_eq_false]
  intro x hx
  obtain ⟨j, hj, rfl⟩ := List.getElem_of_mem hx
  have := h j hj
  simp [List.getD, hj] at this
  simp [this]
theorem anyOutP_false {xs : List Int} (h : anyOutP xs = false) : ∀ x ∈ xs, -2097152 ≤ x ∧ x ≤ 2097152 := by
  intro x hx
  unfold anyOutP at h
  rw [List.any_eq_false] at h
  have := h x hx
  rw [outP_iff] at this
  omega

set_option maxHeartbeats 800000 in
theorem pCheck_calls (A : Option Addr) (c : Nat) (xs : List Int) (off dim : Int) (w : World) (ha : Rd w .i32 A xs) :
    Calls Tryz.prog 227 #[.agg #[.slice A xs.length c, .int .i64 off], .int .i64 dim] w fun e w' => e = .returned (.int .i64 (checkP xs off dim)) ∧ Below w.heap.size w w' := by
  unfold checkP
  have hl := ha.1
  by_cases h1 : dim < 1
  · rw [if_pos (.inl h1)]
    go_enter Tryz.func227, Tryz.ntmps227
    go_wp2
    go_ret
    exact ⟨rfl, below_alloc1 (Below.refl _ _) _⟩
  · have h1' : decide (dim < 1) = false := decide_eq_false h1
    by_cases h2 : 1024 < dim
    · rw [if_pos (.inr h2)]
      have h2' : decide (1024 < dim) = true := decide_eq_true h2
      go_enter Tryz.func227, Tryz.ntmps227
      go_wp2
      go_ret
      exact ⟨rfl, below_alloc1 (Below.refl _ _) _⟩
    · have h2' : decide (1024 < dim) = false := decide_eq_false h2
      rw [if_neg (by omega)]
      by_cases h3 : (xs.length : Int) = dim
      · obtain rfl : dim = (xs.length : Int) := h3.symm
        obtain ⟨n, hn⟩ : ∃ n, xs.length = n := ⟨_, rfl⟩
        obtain ⟨b, hb⟩ : ∃ b : Int, (if anyOutP xs = true then 4 else if off < -9007199254740992 ∨ 9007199254740992 < off then 1 else 0) = b := ⟨_, rfl⟩
        have HB := Lib.hid hb
        have KA := Lib.hid (ha.alloc (.cells #[.slice A n c, .int .i64 off] 111))
        rw [hn] at h1 h2 h1' h2' hl ⊢
        have h3' : ((n : Int) != n) = false := by simp
        clear h3 ha
        rw [if_neg (by simp), hb]
        have HN := Lib.hid hn
        clear hb hn
        go_enter Tryz.func227, Tryz.ntmps227
        go_wp2
        go_loopg [19] n (fun kq v5 w' => kq ≤ n ∧ v5 = .int .i64 ((n - kq : Nat)) ∧ (∀ j, j < n - kq → outP (xs.getD j 0) = false) ∧ w' = w.alloc (.cells #[.slice A n c, .int .i64 off] 111))
        case atStart => exact ⟨Nat.le_refl _, by simp, fun j hj => by omega, rfl⟩
        case round =>
          obtain ⟨hk, rfl, hall, rfl⟩ := hrel
          have HA := Lib.hid hall
          clear hall
          cases gk with
          | zero =>
            simp only [Nat.sub_zero]
            by_cases o1 : off < -9007199254740992
            · have o1' : decide (off < -9007199254740992) = true := decide_eq_true o1
              go_wp2
              go_ret
              refine ⟨?_, below_alloc1 (Below.refl _ _) _⟩
              rw [← HB.out, anyOutP_none fun j hj => HA.out j (by have := HN.out; omega), if_neg (by simp), if_pos (.inl o1)]
              rfl
            · have o1' : decide (off < -9007199254740992) = false := decide_eq_false o1
              by_cases o2 : 9007199254740992 < off
              · have o2' : decide (9007199254740992 < off) = true := decide_eq_true o2
                go_wp2
                go_ret
                refine ⟨?_, below_alloc1 (Below.refl _ _) _⟩
                rw [← HB.out, anyOutP_none fun j hj => HA.out j (by have := HN.out; omega), if_neg (by simp), if_pos (.inr o2)]
                rfl
              · have o2' : decide (9007199254740992 < off) = false := decide_eq_false o2
                go_wp2
                go_ret
                refine ⟨?_, below_alloc1 (Below.refl _ _) _⟩
                rw [← HB.out, anyOutP_none fun j hj => HA.out j (by have := HN.out; omega), if_neg (by simp), if_neg (by omega)]
                rfl
          | succ k1 =>
            obtain ⟨i, hi⟩ : ∃ i, n - (k1 + 1) = i := ⟨_, rfl⟩
            have hi2 : n - k1 = i + 1 := by omega
            have hin : i < n := by omega
            rw [hi]
            have hni : i < xs.length := by have := HN.out; omega
            obtain ⟨ad, rfl, hca⟩ := KA.out.2 i hni
            obtain ⟨x, hx⟩ : ∃ x, xs.getD i 0 = x := ⟨_, rfl⟩
            rw [hx] at hca
            have HX := Lib.hid hx
            have HI := Lib.hid hi
            clear hi hi2 hx
            by_cases o1 : x < -2097152
            · have o1' : decide (x < -2097152) = true := decide_eq_true o1
              go_wp2
              go_ret
              refine ⟨?_, below_alloc1 (Below.refl _ _) _⟩
              rw [← HB.out, anyOutP_of hni (by rw [HX.out, outP_iff]; omega)]
              rfl
            · have o1' : decide (x < -2097152) = false := decide_eq_false o1
              by_cases o2 : 2097152 < x
              · have o2' : decide (2097152 < x) = true := decide_eq_true o2
                go_wp2
                go_ret
                refine ⟨?_, below_alloc1 (Below.refl _ _) _⟩
                rw [← HB.out, anyOutP_of hni (by rw [HX.out, outP_iff]; omega)]
                rfl
              · have o2' : decide (2097152 < x) = false := decide_eq_false o2
                go_wp2
                go_roundg k1
                case rel =>
                  have hi := HI.out
                  refine ⟨by omega, by rw [show n - k1 = i + 1 by omega]; rfl, fun j hj => ?_, rfl⟩
                  rcases Nat.lt_or_ge j i with h | h
                  · exact HA.out j (by omega)
                  · obtain rfl : j = i := by omega
                    rw [HX.out]
                    cases h : outP x with
                    | false => rfl
                    | true => rw [outP_iff] at h; omega
                case measure => omega
      · rw [if_pos h3]
        have h3' : ((xs.length : Int) != dim) = true := by simp [h3]
        clear h3
        go_enter Tryz.func227, Tryz.ntmps227
        go_wp2
        go_ret
        exact ⟨rfl, below_alloc1 (Below.refl _ _) _⟩

/-! ### Flat -/
theorem Flat_calls (dim : Int) (w : World) (h : -9223372036854775808 ≤ dim ∧ dim ≤ 9223372036854775807) :
    Calls Tryz.prog 100 #[.int .i64 dim] w fun e w' => ∃ v, e = .returned (.agg #[v, .int .i64 0]) ∧ Own w' w.heap.size 21 .i32 v (List.replicate (if dim < 0 ∨ 1024 < dim then 0 else dim.toNat) 0) ∧ Below w.heap.size w w' := by
  obtain ⟨n, hn, hn2⟩ : ∃ n : Nat, (if dim < 0 ∨ 1024 < dim then 0 else dim.toNat) = n ∧ n ≤ 1024 := ⟨_, rfl, by split <;> omega⟩
  rw [hn]
  have HN := Lib.hid hn
  clear hn
  by_cases h1 : dim < 0
  · have h1' : decide (dim < 0) = true := decide_eq_true h1
    obtain rfl : n = 0 := by rw [← HN.out, if_pos (.inl h1)]
    go_enter Tryz.func100, Tryz.ntmps100
    go_wp2_with (at_make; refine wpList_mk _ rfl (.tmp 9) (.tmp 9) 29 21 rfl (.int .i32 0) 4 Tryz.underlying29 info_i32 rfl .i64 .i64 0 rfl rfl (by omega) (by omega) ?_; intro w1 hblk hbel hsz; have HBK := Lib.hid hblk; have hblk0 := obj_below hbel (heap_alloc_new w _) (by simp); have HBK0 := Lib.hid hblk0; have hc0 : w1.cell? ⟨w.heap.size, 0, none⟩ = some (.slice none 0 0) := (by simp [World.cell?, hblk0]); have hc1 : w1.cell? ⟨w.heap.size, 1, none⟩ = some (.int .i64 0) := (by simp [World.cell?, hblk0]); have hf0 : w1.frozen? ⟨w.heap.size, 0, none⟩ = false := (by simp [World.frozen?, hblk0]); have hf1 : w1.frozen? ⟨w.heap.size, 1, none⟩ = false := (by simp [World.frozen?, hblk0]); clear hblk hblk0)
    have k1 : Below w.heap.size w w1 := (below_alloc1 (Below.refl _ _) _).trans (hbel.mono (by simp))
    have hb0 := set_blk (cs := [_, _]) HBK0.out 0 (.slice (some ⟨w.heap.size + 1, 0, none⟩) 0 0)
    have hb1 := set_blk hb0 1 (.int .i64 0)
    have hr0 := cell_blk hb1 0
    have hr1 := cell_blk hb1 1
    simp only [List.set_cons_zero, List.set_cons_succ, List.getElem?_cons_zero, List.getElem?_cons_succ] at hr0 hr1
    refine bodyPost_ret (v := .agg #[.slice (some ⟨w.heap.size + 1, 0, none⟩) 0 0, .int .i64 0]) (by simp [results, Tryz.results100, go_sem, hr0, hr1]) rfl ⟨_, rfl, ?_, below_set (below_set k1 (Nat.le_refl _) _ _) (Nat.le_refl _) _ _⟩
    have hblk := HBK.out
    rw [World.size_alloc] at hblk
    exact Own.zeros (set_other (set_other hblk 0 _ (by omega)) 1 _ (by omega)) (by omega) (by unfold maxLen; omega)
  have h1' : decide (dim < 0) = false := decide_eq_false h1
  by_cases h2 : 1024 < dim
  · have h2' : decide (1024 < dim) = true := decide_eq_true h2
    obtain rfl : n = 0 := by rw [← HN.out, if_pos (.inr h2)]
    go_enter Tryz.func100, Tryz.ntmps100
    go_wp2_with (at_make; refine wpList_mk _ rfl (.tmp 9) (.tmp 9) 29 21 rfl (.int .i32 0) 4 Tryz.underlying29 info_i32 rfl .i64 .i64 0 rfl rfl (by omega) (by omega) ?_; intro w1 hblk hbel hsz; have HBK := Lib.hid hblk; have hblk0 := obj_below hbel (heap_alloc_new w _) (by simp); have HBK0 := Lib.hid hblk0; have hc0 : w1.cell? ⟨w.heap.size, 0, none⟩ = some (.slice none 0 0) := (by simp [World.cell?, hblk0]); have hc1 : w1.cell? ⟨w.heap.size, 1, none⟩ = some (.int .i64 0) := (by simp [World.cell?, hblk0]); have hf0 : w1.frozen? ⟨w.heap.size, 0, none⟩ = false := (by simp [World.frozen?, hblk0]); have hf1 : w1.frozen? ⟨w.heap.size, 1, none⟩ = false := (by simp [World.frozen?, hblk0]); clear hblk hblk0)
    have k1 : Below w.heap.size w w1 := (below_alloc1 (Below.refl _ _) _).trans (hbel.mono (by simp))
    have hb0 := set_blk (cs := [_, _]) HBK0.out 0 (.slice (some ⟨w.heap.size + 1, 0, none⟩) 0 0)
    have hb1 := set_blk hb0 1 (.int .i64 0)
    have hr0 := cell_blk hb1 0
    have hr1 := cell_blk hb1 1
    simp only [List.set_cons_zero, List.set_cons_succ, List.getElem?_cons_zero, List.getElem?_cons_succ] at hr0 hr1
    refine bodyPost_ret (v := .agg #[.slice (some ⟨w.heap.size + 1, 0, none⟩) 0 0, .int .i64 0]) (by simp [results, Tryz.results100, go_sem, hr0, hr1]) rfl ⟨_, rfl, ?_, below_set (below_set k1 (Nat.le_refl _) _ _) (Nat.le_refl _) _ _⟩
    have hblk := HBK.out
    rw [World.size_alloc] at hblk
    exact Own.zeros (set_other (set_other hblk 0 _ (by omega)) 1 _ (by omega)) (by omega) (by unfold maxLen; omega)
  · have h2' : decide (1024 < dim) = false := decide_eq_false h2
    obtain rfl : dim = (n : Int) := by rw [← HN.out, if_neg (by omega)]; omega
    go_enter Tryz.func100, Tryz.ntmps100
    go_wp2_with (at_make; refine wpList_mk _ rfl (.tmp 9) (.tmp 9) 29 21 rfl (.int .i32 0) 4 Tryz.underlying29 info_i32 rfl .i64 .i64 n rfl rfl (by omega) (by omega) ?_; intro w1 hblk hbel hsz; have HBK := Lib.hid hblk; have hblk0 := obj_below hbel (heap_alloc_new w _) (by simp); have HBK0 := Lib.hid hblk0; have hc0 : w1.cell? ⟨w.heap.size, 0, none⟩ = some (.slice none 0 0) := (by simp [World.cell?, hblk0]); have hc1 : w1.cell? ⟨w.heap.size, 1, none⟩ = some (.int .i64 0) := (by simp [World.cell?, hblk0]); have hf0 : w1.frozen? ⟨w.heap.size, 0, none⟩ = false := (by simp [World.frozen?, hblk0]); have hf1 : w1.frozen? ⟨w.heap.size, 1, none⟩ = false := (by simp [World.frozen?, hblk0]); clear hblk hblk0)
    have k1 : Below w.heap.size w w1 := (below_alloc1 (Below.refl _ _) _).trans (hbel.mono (by simp))
    have hb0 := set_blk (cs := [_, _]) HBK0.out 0 (.slice (some ⟨w.heap.size + 1, 0, none⟩) n n)
    have hb1 := set_blk hb0 1 (.int .i64 0)
    have hr0 := cell_blk hb1 0
    have hr1 := cell_blk hb1 1
    simp only [List.set_cons_zero, List.set_cons_succ, List.getElem?_cons_zero, List.getElem?_cons_succ] at hr0 hr1
    refine bodyPost_ret (v := .agg #[.slice (some ⟨w.heap.size + 1, 0, none⟩) n n, .int .i64 0]) (by simp [results, Tryz.results100, go_sem, hr0, hr1]) rfl ⟨_, rfl, ?_, below_set (below_set k1 (Nat.le_refl _) _ _) (Nat.le_refl _) _ _⟩
    have hblk := HBK.out
    rw [World.size_alloc] at hblk
    exact Own.zeros (set_other (set_other hblk 0 _ (by omega)) 1 _ (by omega)) (by omega) (by unfold maxLen; omega)


end Go.Proofs.YticdmglondpgaaaGreat

/-! ## PlaneMath: Plain lemmas on planes between vectors: margins, bounds, the plane the other way round. Condition of each: coordinates that may be, equal lengths of at most 1024. -/
namespace Go.Proofs.YticdmglondpgaaaGreat
open Go.RowKit
set_option linter.unusedVariables false
set_option maxRecDepth 100000
set_option linter.unusedSimpArgs false

theorem _root_.Go.RowKit.Below.after {a b c : World} (h : Below a.heap.size a b) (k : Below b.heap.size b c) : Below a.heap.size a c := h.trans (k.mono h.size)
def B21 (xs : List Int) : Prop := ∀ x ∈ xs, -2097152 ≤ x ∧ x ≤ 2097152
theorem B21.at {xs : List Int} (h : B21 xs) (j : Nat) : -2097152 ≤ xs.getD j 0 ∧ xs.getD j 0 ≤ 2097152 := by
  rcases Nat.lt_or_ge j xs.length with hj | hj
  · exact h (xs.getD j 0) (by simp [List.getD, hj])
  · simp [List.getD, hj]
theorem B21.r32 {xs : List Int} (h : B21 xs) : R32 xs := fun x hx => by have := h x hx; omega
theorem mul_bd2 (x y X Y : Int) (hx : -X ≤ x ∧ x ≤ X) (hy : -Y ≤ y ∧ y ≤ Y) : -(X * Y) ≤ x * y ∧ x * y ≤ X * Y := by
  have h1 := Int.mul_nonneg (show 0 ≤ X - x by omega) (show 0 ≤ Y - y by omega)
  have h2 := Int.mul_nonneg (show 0 ≤ X + x by omega) (show 0 ≤ Y + y by omega)
  have h3 := Int.mul_nonneg (show 0 ≤ X - x by omega) (show 0 ≤ Y + y by omega)
  have h4 := Int.mul_nonneg (show 0 ≤ X + x by omega) (show 0 ≤ Y - y by omega)
  constructor <;> grind
theorem dot_bd2 {xs ys : List Int} (hx : B21 xs) (hy : B20 ys) (hn : xs.length ≤ 1024) : -2251799813685248 ≤ dot xs ys ∧ dot xs ys ≤ 2251799813685248 := by
  have h := sumTo_bd (f := fun i => xs.getD i 0 * ys.getD i 0) (min xs.length ys.length) 2199023255552 fun i _ => mul_bd2 _ _ 2097152 1048576 (hx.at i) (hy.at i)
  have e : sumTo (fun i => xs.getD i 0 * ys.getD i 0) (min xs.length ys.length) = dot xs ys := rfl
  rw [e] at h
  omega
theorem less_b21 {xs ys : List Int} (hx : B20 xs) (hy : B20 ys) : B21 (less xs ys) := fun x hx' => by
  unfold less lessN at hx'
  obtain ⟨i, _, rfl⟩ := List.mem_map.1 hx'
  have h1 := hx.at i
  have h2 := hy.at i
  rw [wrap32_id _ (by omega)]
  omega
theorem btw_off {xs ys : List Int} (hx : B20 xs) (hy : B20 ys) (hn : xs.length ≤ 1024) : betweenOff xs ys = dot (less xs ys) xs + dot (less xs ys) ys ∧ -4503599627370496 ≤ betweenOff xs ys ∧ betweenOff xs ys ≤ 4503599627370496 := by
  have hl : (less xs ys).length ≤ 1024 := by rw [less_length]; omega
  have h1 := dot_bd2 (less_b21 hx hy) hx hl
  have h2 := dot_bd2 (less_b21 hx hy) hy hl
  have e : betweenOff xs ys = dot (less xs ys) xs + dot (less xs ys) ys := wrap64_id _ (by omega)
  exact ⟨e, by omega, by omega⟩
theorem checkP_ok {ns : List Int} {off dim : Int} (h1 : 1 ≤ dim) (h2 : dim ≤ 1024) (h3 : (ns.length : Int) = dim) (h4 : B21 ns) (h5 : -9007199254740992 ≤ off ∧ off ≤ 9007199254740992) : checkP ns off dim = 0 := by
  unfold checkP
  rw [if_neg (by omega), if_neg (by omega)]
  have : anyOutP ns = false := by
    unfold anyOutP
    rw [List.any_eq_false]
    intro x hx
    have := h4 x hx
    rw [outP_iff]; omega
  rw [this, if_neg (by simp), if_neg (by omega)]
theorem checkP_zero {ns : List Int} {off dim : Int} (h : checkP ns off dim = 0) : 1 ≤ dim ∧ dim ≤ 1024 ∧ (ns.length : Int) = dim ∧ B21 ns ∧ -9007199254740992 ≤ off ∧ off ≤ 9007199254740992 := by
  unfold checkP at h
  by_cases h1 : dim < 1 ∨ 1024 < dim
  · rw [if_pos h1] at h; omega
  · rw [if_neg h1] at h
    by_cases h2 : (ns.length : Int) ≠ dim
    · rw [if_pos h2] at h; omega
    · rw [if_neg h2] at h
      cases h3 : anyOutP ns with
      | true => rw [h3] at h; simp at h
      | false =>
        rw [h3, if_neg (by simp)] at h
        by_cases h4 : off < -9007199254740992 ∨ 9007199254740992 < off
        · rw [if_pos h4] at h; omega
        · exact ⟨by omega, by omega, by omega, anyOutP_false h3, by omega, by omega⟩
theorem btw_margin {xs ys vs : List Int} (hx : B20 xs) (hy : B20 ys) (hv : B20 vs) (hn : xs.length ≤ 1024) (h1 : ys.length = xs.length) (h2 : vs.length = xs.length) :
    margin (less xs ys) (betweenOff xs ys) vs = far vs ys - far vs xs := by
  have hl : (less xs ys).length ≤ 1024 := by rw [less_length]; omega
  have b1 := dot_bd2 (less_b21 hx hy) hv hl
  obtain ⟨e, b2, b3⟩ := btw_off hx hy hn
  unfold margin
  rw [wrap64_id _ (by omega), e, dot_less hx hy h1 h2, dot_less hx hy h1 rfl, dot_less hx hy h1 h1]
  unfold dot dotN far farN
  rw [h1, h2, Nat.min_self, ← sumTo_sub, ← sumTo_sub, ← sumTo_sub, ← sumTo_sub, ← sumTo_mul, ← sumTo_add, ← sumTo_sub]
  exact sumTo_congr _ fun i hi => by grind
theorem far_self (xs : List Int) : far xs xs = 0 := (far_zero rfl).2 rfl
end Go.Proofs.YticdmglondpgaaaGreat

/-! ## Rng: Sources of numbers (package rng) and the reference's: what a source holds in memory, and the contract of each draw. Condition of each: the source's blocks are as its word says. -/
namespace Go.Proofs.YticdmglondpgaaaGreat
open Go.RowKit
set_option linter.unusedVariables false
set_option maxRecDepth 100000
set_option linter.unusedSimpArgs false

/-! ### the mixer's numbers -/
def mA (z : Int) : Int := IntKind.u64.wrap (bits .xor .u64 z (z / 1073741824) * 13787848793156543929)
def mB (a : Int) : Int := IntKind.u64.wrap (bits .xor .u64 a (a / 134217728) * 10723151780598845931)
def mC (b : Int) : Int := bits .xor .u64 b (b / 2147483648)
def mixOut (z : Int) : Int := mC (mB (mA z))
def mixAt (st : Int) (k : Nat) : Int := mixOut (IntKind.u64.wrap (st + k * 11400714819323198485))
theorem wrap_u64' (n : Int) : IntKind.u64.wrap n = n % 18446744073709551616 := by simp [IntKind.wrap, IntKind.bits, IntKind.signed]
theorem u64_bd (n : Int) : 0 ≤ IntKind.u64.wrap n ∧ IntKind.u64.wrap n ≤ 18446744073709551615 := by rw [wrap_u64']; omega
theorem u64_id (n : Int) (h : 0 ≤ n ∧ n ≤ 18446744073709551615) : IntKind.u64.wrap n = n := by rw [wrap_u64']; omega
theorem mixAt_next (st : Int) (k : Nat) : mixAt (IntKind.u64.wrap (st + 11400714819323198485)) k = mixAt st (k + 1) := by
  unfold mixAt
  congr 1
  rw [wrap_u64', wrap_u64', wrap_u64']
  generalize hj : (k : Int) = j
  have e : ((k + 1 : Nat) : Int) = j + 1 := by omega
  rw [e]
  omega
theorem quo_u64 (z m : Int) (h : 0 ≤ z ∧ z ≤ 18446744073709551615) (hm : 1 ≤ m) : IntKind.u64.wrap (z.tdiv m) = z / m := by
  rw [Int.tdiv_eq_ediv_of_nonneg h.1]
  have h1 := Int.ediv_nonneg h.1 (show 0 ≤ m by omega)
  have h2 := Int.ediv_le_self m h.1
  exact u64_id _ (by omega)
theorem bits_u64 (a b : Int) : 0 ≤ bits .xor .u64 a b ∧ bits .xor .u64 a b ≤ 18446744073709551615 := by
  have h : ∃ n, bits .xor .u64 a b = IntKind.u64.wrap n := ⟨_, rfl⟩
  obtain ⟨n, hn⟩ := h
  rw [hn]
  exact u64_bd n
theorem mixAt_bd (st : Int) (k : Nat) : 0 ≤ mixAt st k ∧ mixAt st k ≤ 18446744073709551615 := bits_u64 _ _

theorem mixer_draw (b : Nat) (st : Int) (w : World) (hb : w.heap[b]? = some (.cells #[.int .u64 st] 178 (0, 0))) :
    Calls Tryz.prog 262 #[.pointer (some ⟨b, 0, none⟩)] w fun e w' => e = .returned (.int .u64 (mixAt st 1)) ∧ w'.heap[b]? = some (.cells #[.int .u64 (IntKind.u64.wrap (st + 11400714819323198485))] 178 (0, 0)) ∧ Only (· = b) w w' := by
  have hc : w.cell? ⟨b, 0, none⟩ = some (.int .u64 st) := by simp [World.cell?, hb]
  have hf : w.frozen? ⟨b, 0, none⟩ = false := by simp [World.frozen?, hb]
  have HB := Lib.hid hb
  clear hb
  obtain ⟨z, hz⟩ : ∃ z, IntKind.u64.wrap (st + 11400714819323198485) = z := ⟨_, rfl⟩
  have e1 : mixAt st 1 = mixOut z := by unfold mixAt; rw [← hz]; congr 2
  rw [e1]
  have HZ := Lib.hid hz
  obtain ⟨a, ha⟩ : ∃ a, IntKind.u64.wrap (bits .xor .u64 z (z / 1073741824) * 13787848793156543929) = a := ⟨_, rfl⟩
  obtain ⟨c, hc2⟩ : ∃ a', IntKind.u64.wrap (bits .xor .u64 a (a / 134217728) * 10723151780598845931) = a' := ⟨_, rfl⟩
  have e2 : mixOut z = bits .xor .u64 c (c / 2147483648) := by rw [← hc2, ← ha]; rfl
  rw [e2]
  clear e1 e2
  go_enter Tryz.func262, Tryz.ntmps262
  go_wp2
  go_ret
  refine ⟨rfl, ?_, only_set _ _ _ _⟩
  rw [HZ.out]
  exact set_blk (cs := [.int .u64 st]) HB.out 0 _

/-! ### scripts -/
def U64 (l : List Int) : Prop := ∀ x ∈ l, 0 ≤ x ∧ x ≤ 18446744073709551615
theorem U64.at {l : List Int} (h : U64 l) (j : Nat) : 0 ≤ l.getD j 0 ∧ l.getD j 0 ≤ 18446744073709551615 := by
  rcases Nat.lt_or_ge j l.length with hj | hj
  · exact h (l.getD j 0) (by simp [List.getD, hj])
  · simp [List.getD, hj]
/-- The script at block b holds the numbers l still; its blocks lie from lo on, below hi. -/
def IsScr (w : World) (lo hi b : Nat) (l : List Int) : Prop :=
  lo ≤ b ∧ b < hi ∧ ∃ A c, w.heap[b]? = some (.cells #[.slice A l.length c] 121 (0, 0)) ∧ l.length ≤ c ∧ c ≤ 9223372036854775807 ∧
    (l = [] ∨ ∃ g o, A = some ⟨g, o, none⟩ ∧ lo ≤ g ∧ g < hi ∧ g ≠ b ∧ ∀ j, j < l.length → w.cell? ⟨g, o + j, none⟩ = some (.int .u64 (l.getD j 0)))

theorem script_draw_nil (lo hi b : Nat) (w : World) (h : IsScr w lo hi b []) :
    Calls Tryz.prog 259 #[.pointer (some ⟨b, 0, none⟩)] w fun e w' => e = .returned (.int .u64 0) ∧ w = w' := by
  obtain ⟨h1, h2, A, c, hb, _, _, _⟩ := h
  have hc : w.cell? ⟨b, 0, none⟩ = some (.slice A 0 c) := by simp [World.cell?, hb]
  clear hb h1 h2
  go_enter Tryz.func259, Tryz.ntmps259
  go_wp2
  go_ret
  exact ⟨rfl, rfl⟩
theorem script_draw_cons (lo hi b : Nat) (x : Int) (l : List Int) (w : World) (h : IsScr w lo hi b (x :: l)) :
    Calls Tryz.prog 259 #[.pointer (some ⟨b, 0, none⟩)] w fun e w' => e = .returned (.int .u64 x) ∧ IsScr w' lo hi b l ∧ Only (· = b) w w' := by
  obtain ⟨h1, h2, A, c, hb, hlc, hcm, hl⟩ := h
  obtain ⟨g, o, rfl, hg1, hg2, hg3, hcell⟩ : ∃ g o, A = some ⟨g, o, none⟩ ∧ lo ≤ g ∧ g < hi ∧ g ≠ b ∧ ∀ j, j < (x :: l).length → w.cell? ⟨g, o + j, none⟩ = some (.int .u64 ((x :: l).getD j 0)) := by
    rcases hl with h | h
    · cases h
    · exact h
  obtain ⟨n, hn⟩ : ∃ n, l.length = n := ⟨_, rfl⟩
  have hc : w.cell? ⟨b, 0, none⟩ = some (.slice (some ⟨g, o, none⟩) (n + 1) c) := by rw [← hn]; simp [World.cell?, hb]
  have hf : w.frozen? ⟨b, 0, none⟩ = false := by simp [World.frozen?, hb]
  have hx : w.cell? ⟨g, o, none⟩ = some (.int .u64 x) := by have := hcell 0 (by simp); simpa using this
  have HB := Lib.hid hb
  have HC := Lib.hid hcell
  have HN := Lib.hid hn
  simp only [List.length_cons] at hlc
  have hlc' : n + 1 ≤ c := by omega
  have hp : ((n + 1 : Nat) : Int) = (n : Int) + 1 := by omega
  clear hb hcell hn hl hlc
  by_cases h5 : c = 1
  · subst h5
    obtain rfl : n = 0 := by omega
    go_enter Tryz.func259, Tryz.ntmps259
    go_wp2
    go_ret
    obtain rfl : l = [] := List.eq_nil_of_length_eq_zero HN.out
    exact ⟨rfl, ⟨h1, h2, _, _, set_blk (cs := [_]) HB.out 0 (.slice (some ⟨g, o, none⟩) 0 0), Nat.le_refl _, by omega, .inl rfl⟩, only_set _ _ _ _⟩
  · go_enter Tryz.func259, Tryz.ntmps259
    go_wp2
    go_ret
    have hN := HN.out
    refine ⟨rfl, ⟨h1, h2, some ⟨g, o + 1, none⟩, c - 1, ?_, by omega, by omega, .inr ⟨g, o + 1, rfl, hg1, hg2, hg3, fun j hj => ?_⟩⟩, only_set _ _ _ _⟩
    · rw [hN]
      exact set_blk (cs := [_]) HB.out 0 (.slice (some ⟨g, o + 1, none⟩) n (c - 1))
    · have := HC.out (j + 1) (by simp; omega)
      rw [(only_set w b 0 (.slice (some ⟨g, o + 1, none⟩) n (c - 1))).cell (a := ⟨g, o + 1 + j, none⟩) (v := .int .u64 (l.getD j 0)) ?_ hg3]
      rw [show o + 1 + j = o + (j + 1) by omega, this]
      simp [List.getD]

/-! ### a source: a script or a mixer -/
/-- v is a source whose blocks lie from lo on, below hi; what it will tell is s 0, s 1, .. -/
def Src (w : World) (lo hi : Nat) (v : Value) (s : Nat → Int) : Prop :=
  (∃ b l, v = .iface 119 (.pointer (some ⟨b, 0, none⟩)) ∧ IsScr w lo hi b l ∧ U64 l ∧ s = fun i => l.getD i 0) ∨
  (∃ b st, v = .iface 176 (.pointer (some ⟨b, 0, none⟩)) ∧ lo ≤ b ∧ b < hi ∧ w.heap[b]? = some (.cells #[.int .u64 st] 178 (0, 0)) ∧ s = fun i => mixAt st (i + 1))
def Within (lo hi k : Nat) : Prop := lo ≤ k ∧ k < hi
theorem Src.bd {w : World} {lo hi : Nat} {v : Value} {s : Nat → Int} (h : Src w lo hi v s) (i : Nat) : 0 ≤ s i ∧ s i ≤ 18446744073709551615 := by
  rcases h with ⟨b, l, _, _, hu, rfl⟩ | ⟨b, st, _, _, _, _, rfl⟩
  · exact hu.at i
  · exact mixAt_bd _ _
theorem IsScr.only {w w' : World} {S : Nat → Prop} {lo hi b : Nat} {l : List Int} (h : IsScr w lo hi b l) (ho : Only S w w') (hs : ∀ k, lo ≤ k → k < hi → ¬ S k) : IsScr w' lo hi b l := by
  obtain ⟨h1, h2, A, c, hb, h3, h4, h5⟩ := h
  refine ⟨h1, h2, A, c, ho.obj hb (hs b h1 h2), h3, h4, ?_⟩
  rcases h5 with h5 | ⟨g, o, rfl, h6, h7, h8, h9⟩
  · exact .inl h5
  · exact .inr ⟨g, o, rfl, h6, h7, h8, fun j hj => ho.cell (h9 j hj) (hs g h6 h7)⟩
theorem Src.only {w w' : World} {S : Nat → Prop} {lo hi : Nat} {v : Value} {s : Nat → Int} (h : Src w lo hi v s) (ho : Only S w w') (hs : ∀ k, lo ≤ k → k < hi → ¬ S k) : Src w' lo hi v s := by
  rcases h with ⟨b, l, h1, h2, h3, h4⟩ | ⟨b, st, h1, h2, h3, h4, h5⟩
  · exact .inl ⟨b, l, h1, h2.only ho hs, h3, h4⟩
  · exact .inr ⟨b, st, h1, h2, h3, ho.obj h4 (hs b h2 h3), h5⟩
theorem IsScr.wide {w : World} {lo hi lo' hi' b : Nat} {l : List Int} (h : IsScr w lo hi b l) (h1 : lo' ≤ lo) (h2 : hi ≤ hi') : IsScr w lo' hi' b l := by
  obtain ⟨h3, h4, A, c, hb, h5, h6, h7⟩ := h
  refine ⟨by omega, by omega, A, c, hb, h5, h6, ?_⟩
  rcases h7 with h7 | ⟨g, o, rfl, h8, h9, h10⟩
  · exact .inl h7
  · exact .inr ⟨g, o, rfl, by omega, by omega, h10⟩
theorem Src.wide {w : World} {lo hi lo' hi' : Nat} {v : Value} {s : Nat → Int} (h : Src w lo hi v s) (h1 : lo' ≤ lo) (h2 : hi ≤ hi') : Src w lo' hi' v s := by
  rcases h with ⟨b, l, h3, h4, h5⟩ | ⟨b, st, h3, h4, h5, h6⟩
  · exact .inl ⟨b, l, h3, h4.wide h1 h2, h5⟩
  · exact .inr ⟨b, st, h3, by omega, by omega, h6⟩

/-! ### a draw, through the interface -/
theorem meth_script (a : Addr) (w : World) : (method 454 119 (.pointer (some a)) "Draw").run Tryz.prog w = .ok (259, .pointer (some a)) w := by kernel_rfl
theorem meth_mixer (a : Addr) (w : World) : (method 454 176 (.pointer (some a)) "Draw").run Tryz.prog w = .ok (262, .pointer (some a)) w := by kernel_rfl
theorem meth_counter (a : Addr) (w : World) : (method 454 43 (.pointer (some a)) "Draw").run Tryz.prog w = .ok (258, .pointer (some a)) w := by kernel_rfl
theorem call_script (v : Value) (w : World) : (callFunc 259 #[v]).run Tryz.prog w = .ok (.enter 259 #[v]) w := by kernel_rfl
theorem call_mixer (v : Value) (w : World) : (callFunc 262 #[v]).run Tryz.prog w = .ok (.enter 262 #[v]) w := by kernel_rfl
theorem call_counter (v : Value) (w : World) : (callFunc 258 #[v]).run Tryz.prog w = .ok (.enter 258 #[v]) w := by kernel_rfl
/-- The function that Draw is at a dynamic type. -/
def fdraw (T : TypeId) : FuncId := if T = 119 then 259 else if T = 176 then 262 else 258
structure DrwT (T : TypeId) : Prop where
  meth : ∀ (a : Addr) (W : World), (method 454 T (.pointer (some a)) "Draw").run Tryz.prog W = .ok (fdraw T, .pointer (some a)) W
  call : ∀ (v : Value) (W : World), (callFunc (fdraw T) #[v]).run Tryz.prog W = .ok (.enter (fdraw T) #[v]) W
theorem drwT_script : DrwT 119 := ⟨meth_script, call_script⟩
theorem drwT_mixer : DrwT 176 := ⟨meth_mixer, call_mixer⟩
theorem drwT_counter : DrwT 43 := ⟨meth_counter, call_counter⟩
theorem Src.shape {w : World} {lo hi : Nat} {v : Value} {s : Nat → Int} (h : Src w lo hi v s) : ∃ T a, v = .iface T (.pointer (some a)) ∧ DrwT T := by
  rcases h with ⟨b, l, rfl, _⟩ | ⟨b, st, rfl, _⟩
  · exact ⟨_, _, rfl, drwT_script⟩
  · exact ⟨_, _, rfl, drwT_mixer⟩
theorem Src.draw {w : World} {lo hi : Nat} {T : TypeId} {a : Addr} {s : Nat → Int} (h : Src w lo hi (.iface T (.pointer (some a))) s) :
    Calls Tryz.prog (fdraw T) #[.pointer (some a)] w fun e w' => e = .returned (.int .u64 (s 0)) ∧ Src w' lo hi (.iface T (.pointer (some a))) (fun i => s (i + 1)) ∧ Only (Within lo hi) w w' := by
  rcases h with ⟨b, l, h1, h2, h3, rfl⟩ | ⟨b, st, h1, h2, h3, h4, rfl⟩
  · injection h1 with h1 h5
    injection h5 with h5
    injection h5 with h5
    subst h1 h5
    cases l with
    | nil =>
      refine (script_draw_nil lo hi b w h2).mono ?_
      rintro e w' ⟨rfl, rfl⟩
      exact ⟨by simp, .inl ⟨b, [], rfl, h2, h3, by simp⟩, Only.refl _ _⟩
    | cons x l =>
      refine (script_draw_cons lo hi b x l w h2).mono ?_
      rintro e w' ⟨rfl, h5, h6⟩
      exact ⟨by simp, .inl ⟨b, l, rfl, h5, fun y hy => h3 y (List.mem_cons_of_mem _ hy), by funext i; simp [List.getD]⟩, h6.mono fun k _ hk => by rw [hk]; exact ⟨h2.1, h2.2.1⟩⟩
  · injection h1 with h1 h5
    injection h5 with h5
    injection h5 with h5
    subst h1 h5
    refine (mixer_draw b st w h4).mono ?_
    rintro e w' ⟨rfl, h5, h6⟩
    exact ⟨rfl, .inr ⟨b, _, rfl, h2, h3, h5, by funext i; exact (mixAt_next st (i + 1)).symm⟩, h6.mono fun k _ hk => by rw [hk]; exact ⟨h2, h3⟩⟩

/-! ### a counter -/
/-- The counter at block b has told n draws of a source. -/
def Ctr (w : World) (lo hi b : Nat) (s : Nat → Int) (n : Int) : Prop :=
  ∃ v m, lo ≤ m ∧ m ≤ b ∧ b < hi ∧ w.heap[b]? = some (.cells #[v, .int .i64 n] 102 (0, 0)) ∧ Src w lo m v s
theorem Ctr.bd {w : World} {lo hi b : Nat} {n : Int} {s : Nat → Int} (h : Ctr w lo hi b s n) (i : Nat) : 0 ≤ s i ∧ s i ≤ 18446744073709551615 := by
  obtain ⟨v, m, _, _, _, _, h⟩ := h
  exact h.bd i
theorem Ctr.only {w w' : World} {S : Nat → Prop} {lo hi b : Nat} {n : Int} {s : Nat → Int} (h : Ctr w lo hi b s n) (ho : Only S w w') (hs : ∀ k, lo ≤ k → k < hi → ¬ S k) : Ctr w' lo hi b s n := by
  obtain ⟨v, m, h1, h2, h3, h4, h5⟩ := h
  exact ⟨v, m, h1, h2, h3, ho.obj h4 (hs b (by omega) h3), h5.only ho fun k a c => hs k a (by omega)⟩
theorem counter_draw {w : World} {lo hi b : Nat} {n : Int} {s : Nat → Int} (h : Ctr w lo hi b s n) (hn : 0 ≤ n ∧ n ≤ 4611686018427387904) :
    Calls Tryz.prog 258 #[.pointer (some ⟨b, 0, none⟩)] w fun e w' => e = .returned (.int .u64 (s 0)) ∧ Ctr w' lo hi b (fun i => s (i + 1)) (n + 1) ∧ Only (Within lo hi) w w' := by
  obtain ⟨v, m, h1, h2, h3, h4, h5⟩ := h
  have hs : Src (w.setCell ⟨b, 1, none⟩ (.int .i64 (n + 1))) lo m v s := h5.only (only_set _ _ _ _) (fun k _ hk e => by omega)
  obtain ⟨T, a, rfl, hT⟩ := hs.shape
  have hd := hs.draw
  have hm := hT.meth a
  have hc := hT.call (.pointer (some a))
  have hc0 : w.cell? ⟨b, 0, none⟩ = some (.iface T (.pointer (some a))) := by simp [World.cell?, h4]
  have hc1 : w.cell? ⟨b, 1, none⟩ = some (.int .i64 n) := by simp [World.cell?, h4]
  have hf : w.frozen? ⟨b, 1, none⟩ = false := by simp [World.frozen?, h4]
  have HB := Lib.hid h4
  have HD := Lib.hid hd
  clear h4 hd h5 hs
  go_enter Tryz.func258, Tryz.ntmps258
  go_wp2_with fail
  refine HD.out.mono ?_
  rintro e w' ⟨rfl, hs1, ho⟩
  have hb' := set_blk (cs := [_, _]) HB.out 1 (.int .i64 (n + 1))
  have hb2 := ho.obj hb' (fun hk => by have := hk.2; omega)
  have HB2 := Lib.hid hb2
  clear hb' hb2
  go_wp2_with fail
  go_ret
  refine ⟨rfl, ⟨_, m, h1, h2, h3, HB2.out, hs1⟩, ?_⟩
  exact ((only_set w b 1 _).mono fun k _ hk => by rw [hk]; exact ⟨by omega, h3⟩).trans (ho.mono fun k _ hk => ⟨hk.1, by have := hk.2; omega⟩)

/-! ### whatever may be drawn of: a script, a mixer, or a counter of one -/
def Drw (w : World) (lo hi : Nat) (v : Value) (s : Nat → Int) (n : Int) : Prop :=
  Src w lo hi v s ∨ ∃ b, v = .iface 43 (.pointer (some ⟨b, 0, none⟩)) ∧ Ctr w lo hi b s n
theorem Drw.bd {w : World} {lo hi : Nat} {v : Value} {n : Int} {s : Nat → Int} (h : Drw w lo hi v s n) (i : Nat) : 0 ≤ s i ∧ s i ≤ 18446744073709551615 := by
  rcases h with h | ⟨b, _, h⟩
  · exact h.bd i
  · exact h.bd i
theorem Drw.only {w w' : World} {S : Nat → Prop} {lo hi : Nat} {v : Value} {n : Int} {s : Nat → Int} (h : Drw w lo hi v s n) (ho : Only S w w') (hs : ∀ k, lo ≤ k → k < hi → ¬ S k) : Drw w' lo hi v s n := by
  rcases h with h | ⟨b, hv, h⟩
  · exact .inl (h.only ho hs)
  · exact .inr ⟨b, hv, h.only ho hs⟩
theorem Drw.shape {w : World} {lo hi : Nat} {v : Value} {n : Int} {s : Nat → Int} (h : Drw w lo hi v s n) : ∃ T a, v = .iface T (.pointer (some a)) ∧ DrwT T := by
  rcases h with h | ⟨b, rfl, h⟩
  · exact h.shape
  · exact ⟨_, _, rfl, drwT_counter⟩
theorem Drw.draw {w : World} {lo hi : Nat} {T : TypeId} {a : Addr} {n : Int} {s : Nat → Int} (h : Drw w lo hi (.iface T (.pointer (some a))) s n) (hn : 0 ≤ n ∧ n ≤ 4611686018427387904) :
    Calls Tryz.prog (fdraw T) #[.pointer (some a)] w fun e w' => e = .returned (.int .u64 (s 0)) ∧ Drw w' lo hi (.iface T (.pointer (some a))) (fun i => s (i + 1)) (n + 1) ∧ Only (Within lo hi) w w' := by
  rcases h with h | ⟨b, h1, h⟩
  · exact h.draw.mono fun e w' ⟨h6, h7, h8⟩ => ⟨h6, .inl h7, h8⟩
  · injection h1 with h1 h5
    injection h5 with h5
    injection h5 with h5
    subst h1 h5
    exact (counter_draw h hn).mono fun e w' ⟨h6, h7, h8⟩ => ⟨h6, .inr ⟨b, rfl, h7⟩, h8⟩

/-! ### Below, Pair -/
def belowN (x n : Int) : Int := x % n
theorem rem_u64 (x n : Int) (hx : 0 ≤ x ∧ x ≤ 18446744073709551615) (hn : 1 ≤ n ∧ n ≤ 9223372036854775807) : IntKind.i64.wrap (IntKind.u64.wrap (x.tmod n)) = belowN x n ∧ 0 ≤ belowN x n ∧ belowN x n < n := by
  unfold belowN
  have h1 := Int.emod_nonneg x (show n ≠ 0 by omega)
  have h2 := Int.emod_lt_of_pos x (show 0 < n by omega)
  rw [Int.tmod_eq_emod_of_nonneg hx.1, u64_id _ (by omega), i64_w, wrap64_id _ (by omega)]
  exact ⟨rfl, h1, h2⟩
theorem Below_none (v : Value) (n : Int) (w : World) (h : n < 1) :
    Calls Tryz.prog 141 #[v, .int .i64 n] w fun e w' => e = .returned (.int .i64 0) ∧ w = w' := by
  go_enter Tryz.func141, Tryz.ntmps141
  go_wp2_with fail
  go_ret
  exact ⟨rfl, rfl⟩
theorem Below_draw (lo hi : Nat) (v : Value) (s : Nat → Int) (k n : Int) (w : World) (h : Drw w lo hi v s k) (hk : 0 ≤ k ∧ k ≤ 4611686018427387904) (hn : 1 ≤ n ∧ n ≤ 9223372036854775807) :
    Calls Tryz.prog 141 #[v, .int .i64 n] w fun e w' => e = .returned (.int .i64 (belowN (s 0) n)) ∧ Drw w' lo hi v (fun i => s (i + 1)) (k + 1) ∧ Only (Within lo hi) w w' := by
  obtain ⟨T, a, rfl, hT⟩ := h.shape
  have hd := h.draw hk
  have hm := hT.meth a
  have hc := hT.call (.pointer (some a))
  obtain ⟨hr, _, _⟩ := rem_u64 (s 0) n (h.bd 0) hn
  have hx := h.bd 0
  obtain ⟨x, hxe⟩ : ∃ x, s 0 = x := ⟨_, rfl⟩
  rw [hxe] at hr hx hd ⊢
  have HD := Lib.hid hd
  have HR := Lib.hid hr
  have hu : IntKind.u64.wrap n = n := u64_id _ (by omega)
  obtain ⟨hn1, hn2⟩ := hn
  clear hd hr hxe h
  go_enter Tryz.func141, Tryz.ntmps141
  go_wp2_with fail
  refine HD.out.mono ?_
  rintro e w' ⟨rfl, hs1, ho⟩
  have H1 := Lib.hid hs1
  clear hs1
  go_wp2_with fail
  go_ret
  refine ⟨ret_int ?_, H1.out, ho⟩
  have h1 := Int.emod_nonneg x (show n ≠ 0 by omega)
  have h2 := Int.emod_lt_of_pos x (show 0 < n by omega)
  exact wrap64_id _ (by omega)
theorem belowN_bd (x n : Int) (hn : 1 ≤ n) : 0 ≤ belowN x n ∧ belowN x n < n :=
  ⟨Int.emod_nonneg x (by omega), Int.emod_lt_of_pos x (by omega)⟩
def pairB (x y n : Int) : Int := if belowN x n ≤ belowN y (n - 1) then belowN y (n - 1) + 1 else belowN y (n - 1)
theorem pairB_bd (x y n : Int) (hn : 2 ≤ n) : 0 ≤ pairB x y n ∧ pairB x y n < n ∧ pairB x y n ≠ belowN x n := by
  have h1 := belowN_bd x n (by omega)
  have h2 := belowN_bd y (n - 1) (by omega)
  unfold pairB
  split <;> omega

theorem Pair_none (v : Value) (n : Int) (w : World) (h : n < 2) :
    Calls Tryz.prog 95 #[v, .int .i64 n] w fun e w' => e = .returned (.tuple #[.int .i64 0, .int .i64 0]) ∧ w = w' := by
  go_enter Tryz.func95, Tryz.ntmps95
  go_wp2_with fail
  go_ret2
  exact ⟨rfl, rfl⟩
theorem Pair_draw (lo hi : Nat) (v : Value) (s : Nat → Int) (k n : Int) (w : World) (h : Drw w lo hi v s k) (hk : 0 ≤ k ∧ k ≤ 4611686018427387000) (hn : 2 ≤ n ∧ n ≤ 9223372036854775807) :
    Calls Tryz.prog 95 #[v, .int .i64 n] w fun e w' => e = .returned (.tuple #[.int .i64 (belowN (s 0) n), .int .i64 (pairB (s 0) (s 1) n)]) ∧ Drw w' lo hi v (fun i => s (i + 2)) (k + 2) ∧ Only (Within lo hi) w w' := by
  obtain ⟨a, ha⟩ : ∃ a, belowN (s 0) n = a := ⟨_, rfl⟩
  obtain ⟨b, hb⟩ : ∃ b, belowN (s 1) (n - 1) = b := ⟨_, rfl⟩
  have hp : pairB (s 0) (s 1) n = if a ≤ b then b + 1 else b := by unfold pairB; rw [ha, hb]
  have ba := belowN_bd (s 0) n (by omega)
  have bb := belowN_bd (s 1) (n - 1) (by omega)
  rw [ha] at ba
  rw [hb] at bb
  obtain ⟨a1, a2⟩ := ba
  obtain ⟨b1, b2⟩ := bb
  obtain ⟨n1, n2⟩ := hn
  rw [ha, hp]
  have EA := Lib.hid ha
  have EB := Lib.hid hb
  have HS := Lib.hid h
  clear ha hb hp h
  by_cases hab : a ≤ b
  · rw [if_pos hab]
    have hab' : decide (a ≤ b) = true := decide_eq_true hab
    go_enter Tryz.func95, Tryz.ntmps95
    go_wp2_with fail
    refine (Below_draw lo hi v s k n _ HS.out (by omega) (by omega)).mono ?_
    rintro e w1 ⟨he, hs1, ho1⟩
    rw [EA.out] at he
    subst he
    have H1 := Lib.hid hs1
    clear hs1
    go_wp2_with fail
    refine (Below_draw lo hi v _ (k + 1) (n - 1) _ H1.out (by omega) (by omega)).mono ?_
    rintro e w2 ⟨he, hs2, ho2⟩
    rw [EB.out] at he
    subst he
    have H2 := Lib.hid hs2
    clear hs2
    go_wp2_with fail
    go_ret2
    refine ⟨rfl, ?_, ho1.trans ho2⟩
    have := H2.out
    rwa [show k + 1 + 1 = k + 2 by omega] at this
  · rw [if_neg hab]
    have hab' : decide (a ≤ b) = false := decide_eq_false hab
    go_enter Tryz.func95, Tryz.ntmps95
    go_wp2_with fail
    refine (Below_draw lo hi v s k n _ HS.out (by omega) (by omega)).mono ?_
    rintro e w1 ⟨he, hs1, ho1⟩
    rw [EA.out] at he
    subst he
    have H1 := Lib.hid hs1
    clear hs1
    go_wp2_with fail
    refine (Below_draw lo hi v _ (k + 1) (n - 1) _ H1.out (by omega) (by omega)).mono ?_
    rintro e w2 ⟨he, hs2, ho2⟩
    rw [EB.out] at he
    subst he
    have H2 := Lib.hid hs2
    clear hs2
    go_wp2_with fail
    go_ret2
    refine ⟨rfl, ?_, ho1.trans ho2⟩
    have := H2.out
    rwa [show k + 1 + 1 = k + 2 by omega] at this

/-! ### the makers -/
theorem info_u64 : (Tryz.prog.info? 23).map (fun i => (i.zero, i.size, i.bytes)) = some (some (.int .u64 0), 1, 8) := by kernel_rfl
theorem Script_calls (A : Option Addr) (c : Nat) (xs : List Int) (w : World) (ha : Rd w .u64 A xs) (hu : U64 xs) (hs : xs.length ≤ 17592186044416) :
    Calls Tryz.prog 22 #[.slice A xs.length c] w fun e w' => ∃ v, e = .returned v ∧ Src w' w.heap.size w'.heap.size v (fun i => xs.getD i 0) ∧ Below w.heap.size w w' ∧ ∃ T p, v = .iface T p := by
  go_enter Tryz.func22, Tryz.ntmps22
  go_wp2_with (at_builtin; refine wpList_appI _ rfl (.const (.slice none 0 0)) (.tmp 3) 24 23 rfl .u64 8 Tryz.underlying24 info_u64 (by omega) w.heap.size (.slice none 0 0) [] rfl A c xs rfl (World.ownsRow_nil _ _ _ _) w (Below.refl _ _) (Nat.le_refl _) ha (by simp; omega) ?_; intro v1 w1 ho hgrow hbel hat hnil; rw [List.nil_append] at ho; obtain ⟨A1, c1, rfl, hc1, _⟩ := ho.shape; have HO := Lib.hid ho; clear ho hat hnil hgrow)
  go_ret
  refine ⟨_, rfl, .inl ⟨w1.heap.size, xs, rfl, ?_, hu, rfl⟩, below_alloc1 hbel _, _, _, rfl⟩
  have hz := hbel.size
  have ho := HO.out
  refine ⟨hz, by simp, A1, c1, heap_alloc_new w1 _, hc1, ?_, ?_⟩
  · rcases ho.2 with ⟨h1, _⟩ | ⟨g, cap, cur, h1, _, _, _, h2, _⟩
    · injection h1 with _ _ h1; omega
    · injection h1 with _ _ h1
      have : maxLen = 9223372036854775807 := rfl
      omega
  · by_cases hx : xs = []
    · exact .inl hx
    · have hp : 0 < xs.length := by
        rcases Nat.eq_zero_or_pos xs.length with h | h
        · exact absurd (List.eq_nil_of_length_eq_zero h) hx
        · exact h
      obtain ⟨g, rfl, hg1, hg2, _⟩ := ho.at_ 0 hp
      refine .inr ⟨g, 0, rfl, hg1, by simp; omega, by omega, fun j hj => ?_⟩
      obtain ⟨g', e, _, _, hcell, _⟩ := (ho.alloc1 (.cells #[.slice (some ⟨g, 0, none⟩) xs.length c1] 121)).at_ j hj
      injection e with e
      injection e with e
      subst e
      rw [Nat.zero_add]
      exact hcell
theorem Mix_calls (st : Int) (w : World) :
    Calls Tryz.prog 52 #[.int .u64 st] w fun e w' => ∃ v, e = .returned v ∧ Src w' w.heap.size w'.heap.size v (fun i => mixAt st (i + 1)) ∧ Below w.heap.size w w' ∧ ∃ T p, v = .iface T p := by
  go_enter Tryz.func52, Tryz.ntmps52
  go_wp2_with fail
  go_ret
  exact ⟨_, rfl, .inr ⟨w.heap.size, st, rfl, Nat.le_refl _, by simp, heap_alloc_new w _, rfl⟩, below_alloc1 (Below.refl _ _) _, _, _, rfl⟩
theorem Count_calls (T : TypeId) (p : Value) (lo hi : Nat) (s : Nat → Int) (w : World) (h : Src w lo hi (.iface T p) s) (hh : hi ≤ w.heap.size) (hl : lo ≤ hi) :
    Calls Tryz.prog 17 #[.iface T p] w fun e w' => e = .returned (.pointer (some ⟨w.heap.size, 0, none⟩)) ∧ Ctr w' lo w'.heap.size w.heap.size s 0 ∧ Below w.heap.size w w' := by
  have HS := Lib.hid h
  clear h
  go_enter Tryz.func17, Tryz.ntmps17
  go_wp2_with fail
  go_ret
  refine ⟨rfl, ⟨_, hi, hl, hh, by simp, heap_alloc_new w _, ?_⟩, below_alloc1 (Below.refl _ _) _⟩
  exact HS.out.only (S := fun _ => False) (Only.of_below (below_alloc1 (Below.refl _ _) _)) fun _ _ _ h => h
theorem Drawn_calls (lo hi b : Nat) (s : Nat → Int) (n : Int) (w : World) (h : Ctr w lo hi b s n) :
    Calls Tryz.prog 23 #[.pointer (some ⟨b, 0, none⟩)] w fun e w' => e = .returned (.int .i64 n) ∧ w = w' := by
  obtain ⟨v, m, h1, h2, h3, h4, h5⟩ := h
  have hc1 : w.cell? ⟨b, 1, none⟩ = some (.int .i64 n) := by simp [World.cell?, h4]
  clear h4 h5
  go_enter Tryz.func23, Tryz.ntmps23
  go_wp2_with fail
  go_ret
  exact ⟨rfl, rfl⟩
end Go.Proofs.YticdmglondpgaaaGreat

/-! ## Ref05: The reference's source (layer 5): what it holds in memory, and the contract of each draw. Condition of each: its block is as its word says. -/
namespace Go.Proofs.YticdmglondpgaaaGreat
open Go.RowKit
set_option linter.unusedVariables false
set_option maxRecDepth 100000
set_option linter.unusedSimpArgs false

theorem nth_start (st n : Int) : IntKind.u64.wrap (st + IntKind.u64.wrap (IntKind.u64.wrap (wrap64 (n + 1)) * 11400714819323198485)) = IntKind.u64.wrap (st + (n + 1) * 11400714819323198485) := by
  rw [wrap_u64', wrap_u64', wrap_u64', wrap_u64']
  have h : wrap64 (n + 1) % 18446744073709551616 = (n + 1) % 18446744073709551616 := by unfold wrap64; omega
  rw [h]
  generalize n + 1 = m
  have e1 : m % 18446744073709551616 * 11400714819323198485 % 18446744073709551616 = m * 11400714819323198485 % 18446744073709551616 := by omega
  rw [e1]
  omega
def nthOut (st n : Int) : Int := mixOut (IntKind.u64.wrap (st + (n + 1) * 11400714819323198485))
theorem nthOut_nat (st : Int) (n : Nat) : nthOut st n = mixAt st (n + 1) := by
  unfold nthOut mixAt
  congr 3
def refS (mixed : Bool) (st : Int) (l : List Int) (n : Nat) : Int := if mixed then mixAt st (n + 1) else l.getD n 0
theorem refS_bd (mixed : Bool) (st : Int) {l : List Int} (n : Nat) (hu : U64 l) : 0 ≤ refS mixed st l n ∧ refS mixed st l n ≤ 18446744073709551615 := by
  cases mixed with
  | true => exact mixAt_bd st (n + 1)
  | false => exact hu.at n

theorem Rd.blk_lt {w : World} {k : IntKind} {A : Option Addr} {xs : List Int} (h : Rd w k A xs) (ad : Addr) (hl : 0 < xs.length) (e : A = some ad) : ad.block < w.heap.size := by
  obtain ⟨ad', e', hc⟩ := h.2 0 hl
  rw [e] at e'
  injection e' with e'
  subst e'
  have hbl : (ad.add 0).block = ad.block := by unfold Addr.add; split <;> rfl
  rw [← hbl]
  exact World.block_lt_of_cell? _ _ hc
end Go.Proofs.YticdmglondpgaaaGreat

/-! ## Law05: What the statements of layer 5 (rng) share: the document's example answers true, and the source that they draw of. Condition: the list reads as numbers of 64 bits. -/
namespace Go.Proofs.YticdmglondpgaaaGreat
open Go.RowKit
set_option linter.unusedVariables false
set_option maxRecDepth 100000
set_option linter.unusedSimpArgs false

theorem u64_of_wf {xs : List Int} (h : ∀ n ∈ xs, (Lit.int .u64 n).wf = true) : U64 xs := fun x hx => by
  have := h x hx
  simp [Lit.wf, IntKind.min, IntKind.max, IntKind.signed, IntKind.bits] at this
  omega
theorem u64w_of_wf {n : Int} (h : (Lit.int .u64 n).wf = true) : 0 ≤ n ∧ n ≤ 18446744073709551615 := by
  simp [Lit.wf, IntKind.min, IntKind.max, IntKind.signed, IntKind.bits] at h
  omega
theorem iface_nil (T : TypeId) (p : Value) (w : World) : (binOp .eql 46 (.iface T p) .nilIface).run Tryz.prog w = .ok (.bool false) w := by
  kernel_rfl
theorem iface_nil2 (T : TypeId) (p : Value) (w : World) : (binOp .neq 46 (.iface T p) .nilIface).run Tryz.prog w = .ok (.bool true) w := by
  kernel_rfl
/-- what 'of' draws of. -/
def ofS (mixed : Bool) (st : Int) (l : List Int) (i : Nat) : Int := refS mixed st l i
theorem mix_zero : mixAt 0 1 = 16294208416658607535 := by
  kernel_rfl
theorem rd_u64_pair (w : World) (a b : Int) (t : TypeId) : Rd (w.alloc (.cells #[.int .u64 a, .int .u64 b] t)) .u64 (some ⟨w.heap.size, 0, none⟩) [a, b] := Rd.new w .u64 [a, b] t (by simp)
end Go.Proofs.YticdmglondpgaaaGreat

/-! ## Rng2: Draws of a source by its place: one contract for each number asked for, also where nothing is drawn. Condition: so few draws that no count goes round. -/
namespace Go.Proofs.YticdmglondpgaaaGreat
open Go.RowKit
set_option linter.unusedVariables false
set_option maxRecDepth 100000
set_option linter.unusedSimpArgs false

def At (w : World) (lo hi : Nat) (v : Value) (s : Nat → Int) (k : Nat) : Prop := Drw w lo hi v (fun i => s (i + k)) k
def bK (n : Int) : Nat := if n < 1 then 0 else 1
def pK (n : Int) : Nat := if n < 2 then 0 else 2
def bX (s : Nat → Int) (k : Nat) (n : Int) : Int := if n < 1 then 0 else belowN (s k) n
def pX (s : Nat → Int) (k : Nat) (n : Int) : Int := if n < 2 then 0 else belowN (s k) n
def pY (s : Nat → Int) (k : Nat) (n : Int) : Int := if n < 2 then 0 else pairB (s k) (s (k + 1)) n
theorem bK_le (n : Int) : bK n ≤ 1 := by unfold bK; split <;> omega
theorem pK_le (n : Int) : pK n ≤ 2 := by unfold pK; split <;> omega
theorem At.only {w w' : World} {S : Nat → Prop} {lo hi : Nat} {v : Value} {s : Nat → Int} {k : Nat} (h : At w lo hi v s k) (ho : Only S w w') (hs : ∀ b, lo ≤ b → b < hi → ¬ S b) : At w' lo hi v s k := Drw.only h ho hs
theorem At.below {w w' : World} {B lo hi : Nat} {v : Value} {s : Nat → Int} {k : Nat} (h : At w lo hi v s k) (hb : Below B w w') (hB : hi ≤ B) : At w' lo hi v s k :=
  Drw.only h (S := fun b => B ≤ b) ⟨hb.os, hb.tape, hb.output, hb.size, fun i hi' hs => hb.block i (by omega)⟩ (fun b _ h1 h2 => by omega)
theorem shift_at (s : Nat → Int) (k j : Nat) : (fun i => s (i + j + k)) = fun i => s (i + (k + j)) := by
  funext i
  congr 1
  omega
theorem At.below_calls (lo hi : Nat) (v : Value) (s : Nat → Int) (k : Nat) (n : Int) (w : World) (h : At w lo hi v s k) (hk : k ≤ 1000000) (hn : n ≤ 9223372036854775807) :
    Calls Tryz.prog 141 #[v, .int .i64 n] w fun e w' => e = .returned (.int .i64 (bX s k n)) ∧ At w' lo hi v s (k + bK n) ∧ Only (Within lo hi) w w' := by
  by_cases h1 : n < 1
  · refine (Below_none v n w h1).mono ?_
    rintro e w' ⟨rfl, rfl⟩
    simp only [bX, bK, if_pos h1]
    exact ⟨trivial, h, Only.refl _ _⟩
  · refine (Below_draw lo hi v _ k n w h (by omega) (by omega)).mono ?_
    rintro e w' ⟨rfl, hs, ho⟩
    simp only [bX, bK, if_neg h1, Nat.zero_add]
    refine ⟨trivial, ?_, ho⟩
    have e1 := shift_at s k 1
    unfold At
    rw [← e1]
    exact hs
theorem At.pair_calls (lo hi : Nat) (v : Value) (s : Nat → Int) (k : Nat) (n : Int) (w : World) (h : At w lo hi v s k) (hk : k ≤ 1000000) (hn : n ≤ 9223372036854775807) :
    Calls Tryz.prog 95 #[v, .int .i64 n] w fun e w' => e = .returned (.tuple #[.int .i64 (pX s k n), .int .i64 (pY s k n)]) ∧ At w' lo hi v s (k + pK n) ∧ Only (Within lo hi) w w' := by
  by_cases h1 : n < 2
  · refine (Pair_none v n w h1).mono ?_
    rintro e w' ⟨rfl, rfl⟩
    simp only [pX, pY, pK, if_pos h1]
    exact ⟨trivial, h, Only.refl _ _⟩
  · refine (Pair_draw lo hi v _ k n w h (by omega) (by omega)).mono ?_
    rintro e w' ⟨rfl, hs, ho⟩
    simp only [pX, pY, pK, if_neg h1, Nat.zero_add, Nat.add_comm 1 k]
    refine ⟨trivial, ?_, ho⟩
    have e1 := shift_at s k 2
    unfold At
    rw [← e1]
    exact hs
theorem At.draw_calls {w : World} {lo hi : Nat} {T : TypeId} {a : Addr} {s : Nat → Int} {k : Nat} (h : At w lo hi (.iface T (.pointer (some a))) s k) (hk : k ≤ 1000000) :
    Calls Tryz.prog (fdraw T) #[.pointer (some a)] w fun e w' => e = .returned (.int .u64 (s k)) ∧ At w' lo hi (.iface T (.pointer (some a))) s (k + 1) ∧ Only (Within lo hi) w w' := by
  refine (Drw.draw h (by omega)).mono ?_
  rintro e w' ⟨rfl, hs, ho⟩
  simp only [Nat.zero_add]
  refine ⟨trivial, ?_, ho⟩
  have e1 := shift_at s k 1
  unfold At
  rw [← e1]
  exact hs
theorem At.ctr {w : World} {lo hi b : Nat} {s : Nat → Int} {k : Nat} (h : At w lo hi (.iface 43 (.pointer (some ⟨b, 0, none⟩))) s k) : Ctr w lo hi b (fun i => s (i + k)) k := by
  rcases h with hs | ⟨b', h3, hs⟩
  · rcases hs with ⟨b', l', h3, _⟩ | ⟨b', st', h3, _⟩
    · injection h3 with h3; exact absurd h3 (by decide)
    · injection h3 with h3; exact absurd h3 (by decide)
  · injection h3 with _ h3
    injection h3 with h3
    injection h3 with h3
    injection h3 with h3
    subst h3
    exact hs
theorem At.counter_calls {w : World} {lo hi b : Nat} {s : Nat → Int} {k : Nat} (h : At w lo hi (.iface 43 (.pointer (some ⟨b, 0, none⟩))) s k) (hk : k ≤ 1000000) :
    Calls Tryz.prog 258 #[.pointer (some ⟨b, 0, none⟩)] w fun e w' => e = .returned (.int .u64 (s k)) ∧ At w' lo hi (.iface 43 (.pointer (some ⟨b, 0, none⟩))) s (k + 1) ∧ Only (Within lo hi) w w' := by
  have h5 := h.draw_calls hk
  have e : fdraw 43 = 258 := by decide
  rwa [e] at h5
theorem At.drawn_calls {w : World} {lo hi b : Nat} {s : Nat → Int} {k : Nat} (h : At w lo hi (.iface 43 (.pointer (some ⟨b, 0, none⟩))) s k) :
    Calls Tryz.prog 23 #[.pointer (some ⟨b, 0, none⟩)] w fun e w' => e = .returned (.int .i64 k) ∧ w = w' :=
  Drawn_calls _ _ _ _ _ _ h.ctr
theorem At.of_src {w : World} {lo hi : Nat} {v : Value} {s : Nat → Int} (h : Src w lo hi v s) : At w lo hi v s 0 := .inl h
theorem At.of_ctr {w : World} {lo hi b : Nat} {s : Nat → Int} (h : Ctr w lo hi b s 0) : At w lo hi (.iface 43 (.pointer (some ⟨b, 0, none⟩))) s 0 := .inr ⟨b, rfl, h⟩
theorem At.shape {w : World} {lo hi : Nat} {v : Value} {s : Nat → Int} {k : Nat} (h : At w lo hi v s k) : ∃ T a, v = .iface T (.pointer (some a)) ∧ DrwT T := Drw.shape h

/-! ### the reference's, by its place -/
theorem Only.belowW {S : Nat → Prop} {w w' W : World} (ho : Only S w w') {B C : Nat} (hW : Below C W w) (hB : B ≤ W.heap.size) (hs : ∀ k, k < B → ¬ S k) : Below B w w' := ho.below (Nat.le_trans hB hW.size) hs
theorem At.drawn_q {w : World} {lo hi b : Nat} {s : Nat → Int} {k : Nat} (h : At w lo hi (.iface 43 (.pointer (some ⟨b, 0, none⟩))) s k) :
    Calls Tryz.prog 23 #[.pointer (some ⟨b, 0, none⟩)] w fun e w' => e = .returned (.int .i64 k) ∧ ∃ n, w' = w.drewN n := by
  refine h.drawn_calls.mono ?_
  rintro e _ ⟨he, rfl⟩
  exact ⟨he, 0, rfl⟩
theorem At.drewN {w : World} {lo hi : Nat} {v : Value} {s : Nat → Int} {k : Nat} (h : At w lo hi v s k) (n : Nat) : At (w.drewN n) lo hi v s k := h.only (S := fun _ => False) (Only.of_below (below_drewN_self w n)) fun _ _ _ h => h
end Go.Proofs.YticdmglondpgaaaGreat
