
/-
  Words and small lemmas for the walks of this seat: slices that are read, rows that a call owns, sums, wraps. No condition: plain definitions and lemmas.
-/
import Derived.Test.YtacgkoclammggaaProg
import Derived.Below
import Derived.Deep.Draws
import Derived.Deep.AppendSrc
import Derived.OwnWalk
import Derived.Laws.MakeOwn
import Derived.Laws.OwnMore
import Derived.Laws.CopyOwn
import Derived.Laws.Slices
import Derived.Laws.Rows
import Derived.Tactics
import Derived.WalkKit
import Derived.KernelRfl
import Derived.Deep.LoopGhost
import Derived.Deep.QuietTactic
import Derived.BigQuiet
import Derived.Outline
import Derived.WideLaws
import Derived.Lib.Hide
import Derived.Deep.DeepCutAuto
import Derived.Deep.CutBlock
import Derived.Deep.RegionHeld3
import Derived.StillTailTactics
import Derived.WalkLawsBesides
import Derived.WalkSpells
import Derived.Maps.AppendAt
import Derived.Deep.AppendLies
namespace Go.Proofs.Ytacgkoclammggaa
open Go.RowKit
set_option linter.unusedVariables false
set_option maxRecDepth 100000
set_option linter.unusedSimpArgs false

/-! ### 1. numbers -/
theorem ret_int {k : IntKind} {a b : Int} (h : a = b) : Ending.returned (.int k a) = .returned (.int k b) := by rw [h]
theorem ret_bool {a b : Bool} (h : a = b) : Ending.returned (.bool a) = .returned (.bool b) := by rw [h]
theorem min2_run (P : Program) (w : World) (k k' : IntKind) (x y : Int) : (Builtin.min2 (.int k x) (.int k' y)).run P w = .ok (.int k (if y < x then y else x)) w := rfl
theorem wrap64_zero : wrap64 0 = 0 := by simp [wrap64]
theorem wrap64_id (n : Int) (h : -9223372036854775808 ≤ n ∧ n ≤ 9223372036854775807) : wrap64 n = n := by unfold wrap64; omega
theorem wrap32_id (n : Int) (h : -2147483648 ≤ n ∧ n ≤ 2147483647) : wrap32 n = n := by unfold wrap32; omega
theorem wrap64_bd (n : Int) : -9223372036854775808 ≤ wrap64 n ∧ wrap64 n ≤ 9223372036854775807 := by unfold wrap64; omega
theorem wrap32_bd (n : Int) : -2147483648 ≤ wrap32 n ∧ wrap32 n ≤ 2147483647 := by unfold wrap32; omega
theorem i32_w (n : Int) : IntKind.i32.wrap n = wrap32 n := by unfold wrap32; exact IntKind.wrap_i32 n
theorem i64_w (n : Int) : IntKind.i64.wrap n = wrap64 n := by unfold wrap64; exact IntKind.wrap_i64 n
theorem wrap64_add (a b : Int) : wrap64 (wrap64 a + b) = wrap64 (a + b) := by unfold wrap64; omega
theorem wrap64_add' (a b : Int) : wrap64 (a + wrap64 b) = wrap64 (a + b) := by unfold wrap64; omega
theorem wrap64_sub' (a b : Int) : wrap64 (a - wrap64 b) = wrap64 (a - b) := by unfold wrap64; omega
theorem wrap64_sub (a b : Int) : wrap64 (wrap64 a - b) = wrap64 (a - b) := by unfold wrap64; omega
theorem wrap64_wrap (a : Int) : wrap64 (wrap64 a) = wrap64 a := by unfold wrap64; omega

/-- The sum of the first k numbers that f tells. -/
def sumTo (f : Nat → Int) : Nat → Int
  | 0 => 0
  | k + 1 => sumTo f k + f k
theorem sumTo_congr {f g : Nat → Int} (n : Nat) (h : ∀ i, i < n → f i = g i) : sumTo f n = sumTo g n := by
  induction n with
  | zero => rfl
  | succ n ih => simp only [sumTo]; rw [ih fun i hi => h i (by omega), h n (by omega)]
theorem sumTo_add (f g : Nat → Int) (n : Nat) : sumTo (fun i => f i + g i) n = sumTo f n + sumTo g n := by
  induction n with
  | zero => rfl
  | succ n ih => simp only [sumTo]; rw [ih]; omega
theorem sumTo_sub (f g : Nat → Int) (n : Nat) : sumTo (fun i => f i - g i) n = sumTo f n - sumTo g n := by
  induction n with
  | zero => rfl
  | succ n ih => simp only [sumTo]; rw [ih]; omega
theorem sumTo_mul (c : Int) (f : Nat → Int) (n : Nat) : sumTo (fun i => c * f i) n = c * sumTo f n := by
  induction n with
  | zero => simp [sumTo]
  | succ n ih => simp only [sumTo]; rw [ih, Int.mul_add]
theorem sumTo_le {f g : Nat → Int} (n : Nat) (h : ∀ i, i < n → f i ≤ g i) : sumTo f n ≤ sumTo g n := by
  induction n with
  | zero => exact Int.le_refl _
  | succ n ih => simp only [sumTo]; have := ih fun i hi => h i (by omega); have := h n (by omega); omega
theorem sumTo_const (c : Int) (n : Nat) : sumTo (fun _ => c) n = n * c := by
  induction n with
  | zero => simp [sumTo]
  | succ n ih => simp only [sumTo]; rw [ih]; simp [Int.add_mul]
theorem sumTo_split (f : Nat → Int) (n m : Nat) : sumTo f (n + m) = sumTo f n + sumTo (fun i => f (n + i)) m := by
  induction m with
  | zero => simp [sumTo]
  | succ m ih => show sumTo f (n + m) + f (n + m) = sumTo f n + (sumTo (fun i => f (n + i)) m + f (n + m)); rw [ih]; omega
theorem sumTo_eq_zero {f : Nat → Int} (n : Nat) (h0 : ∀ i, i < n → 0 ≤ f i) (h : sumTo f n = 0) : ∀ i, i < n → f i = 0 := by
  induction n with
  | zero => intro i hi; omega
  | succ n ih =>
    simp only [sumTo] at h
    have h1 := sumTo_le (f := fun _ => 0) (g := f) n fun i hi => h0 i (by omega)
    rw [sumTo_const] at h1
    have h2 := h0 n (by omega)
    have h3 : (n : Int) * 0 = 0 := Int.mul_zero _
    intro i hi
    rcases Nat.lt_or_ge i n with h4 | h4
    · exact ih (fun i hi => h0 i (by omega)) (by omega) i h4
    · obtain rfl : i = n := by omega
      omega

/-! ### 2. worlds -/
theorem add_plain (g j : Nat) : (⟨g, 0, none⟩ : Addr).add j = ⟨g, j, none⟩ := by unfold Addr.add; split <;> simp_all
theorem below_drewN {B : Nat} {w W : World} (h : Below B w W) (n : Nat) : Below B w (W.drewN n) := ⟨h.os, h.tape, h.output, h.size, h.block⟩
theorem below_drewN_self (w : World) (n : Nat) : Below w.heap.size w (w.drewN n) := below_drewN (Below.refl _ _) n
theorem below_then {B : Nat} {w w1 w2 : World} (h : Below B w w1) (hB : B ≤ w1.heap.size) (k : Below w1.heap.size w1 w2) : Below B w w2 :=
  h.trans (k.mono hB)
theorem grown_of_below {w w1 : World} (h : Below w.heap.size w w1) (row : Option Nat) : w.grownBy w1 row := ⟨h.os, h.tape, h.output, h.size, fun i hi _ => h.block i hi⟩
theorem cell_below {B : Nat} {w w1 : World} (h : Below B w w1) {a : Addr} {v : Value} (hc : w.cell? a = some v) (hB : a.block < B) : w1.cell? a = some v := (h.cell hB).trans hc

/-- Nothing but the blocks of S has turned; no block has gone. -/
structure Only (S : Nat → Prop) (w w' : World) : Prop where
  os : w'.os = w.os
  tape : w'.tape = w.tape
  output : w'.output = w.output
  size : w.heap.size ≤ w'.heap.size
  block : ∀ k, k < w.heap.size → ¬ S k → w'.heap[k]? = w.heap[k]?
theorem Only.refl (S : Nat → Prop) (w : World) : Only S w w := ⟨rfl, rfl, rfl, Nat.le_refl _, fun _ _ _ => rfl⟩
theorem Only.trans {S : Nat → Prop} {a b c : World} (h : Only S a b) (k : Only S b c) : Only S a c :=
  ⟨k.os.trans h.os, k.tape.trans h.tape, k.output.trans h.output, Nat.le_trans h.size k.size, fun i hi hs => (k.block i (Nat.lt_of_lt_of_le hi h.size) hs).trans (h.block i hi hs)⟩
theorem Only.mono {S T : Nat → Prop} {a b : World} (h : Only S a b) (hst : ∀ k, k < a.heap.size → S k → T k) : Only T a b :=
  ⟨h.os, h.tape, h.output, h.size, fun i hi hs => h.block i hi fun x => hs (hst i hi x)⟩
theorem Only.of_below {S : Nat → Prop} {w w' : World} (h : Below w.heap.size w w') : Only S w w' := ⟨h.os, h.tape, h.output, h.size, fun i hi _ => h.block i hi⟩
theorem Only.below {S : Nat → Prop} {w w' : World} (h : Only S w w') {B : Nat} (hB : B ≤ w.heap.size) (hs : ∀ k, k < B → ¬ S k) : Below B w w' := ⟨h.os, h.tape, h.output, h.size, fun i hi => h.block i (by omega) (hs i hi)⟩
theorem Only.cell {S : Nat → Prop} {w w' : World} (h : Only S w w') {a : Addr} {v : Value} (hc : w.cell? a = some v) (hs : ¬ S a.block) : w'.cell? a = some v :=
  (World.cell?_of_block (h.block a.block (World.block_lt_of_cell? w a hc) hs)).trans hc
theorem Only.obj {S : Nat → Prop} {w w' : World} (h : Only S w w') {b : Nat} {o : Obj} (hc : w.heap[b]? = some o) (hs : ¬ S b) : w'.heap[b]? = some o :=
  (h.block b (Array.getElem?_eq_some_iff.1 hc).1 hs).trans hc
theorem obj_below {B : Nat} {w w' : World} (h : Below B w w') {b : Nat} {o : Obj} (hc : w.heap[b]? = some o) (hB : b < B) : w'.heap[b]? = some o := (h.block b hB).trans hc
theorem obj_lt {w : World} {b : Nat} {o : Obj} (hc : w.heap[b]? = some o) : b < w.heap.size := (Array.getElem?_eq_some_iff.1 hc).1

/-! ### 3. slices of whole numbers -/
/-- The slice at A reads as the numbers xs. -/
def Rd (w : World) (k : IntKind) (A : Option Addr) (xs : List Int) : Prop :=
  xs.length ≤ 9223372036854775807 ∧ ∀ j, j < xs.length → ∃ ad, A = some ad ∧ w.cell? (ad.add j) = some (.int k (xs.getD j 0))
def R32 (xs : List Int) : Prop := ∀ x ∈ xs, -2147483648 ≤ x ∧ x ≤ 2147483647
theorem R32.at {xs : List Int} (h : R32 xs) (j : Nat) : -2147483648 ≤ xs.getD j 0 ∧ xs.getD j 0 ≤ 2147483647 := by
  rcases Nat.lt_or_ge j xs.length with hj | hj
  · exact h (xs.getD j 0) (by simp [List.getD, hj])
  · simp [List.getD, hj]
theorem Rd.below {w w1 : World} {k : IntKind} {A : Option Addr} {xs : List Int} (h : Rd w k A xs) (hb : Below w.heap.size w w1) : Rd w1 k A xs :=
  ⟨h.1, fun j hj => by
    obtain ⟨ad, e, hc⟩ := h.2 j hj
    exact ⟨ad, e, cell_below hb hc (World.block_lt_of_cell? w _ hc)⟩⟩
theorem Rd.drewN {w : World} {k : IntKind} {A : Option Addr} {xs : List Int} (h : Rd w k A xs) (n : Nat) : Rd (w.drewN n) k A xs := h.below (below_drewN_self w n)
theorem Rd.nil (w : World) (k : IntKind) (A : Option Addr) : Rd w k A [] := ⟨by simp, fun j hj => by simp at hj⟩
def nums (k : IntKind) (xs : List Int) : List Value := xs.map fun x => .int k x
theorem nums_length (k : IntKind) (xs : List Int) : (nums k xs).length = xs.length := by simp [nums]
theorem nums_append (k : IntKind) (xs ys : List Int) : nums k (xs ++ ys) = nums k xs ++ nums k ys := by simp [nums]
theorem nums_get (k : IntKind) (xs : List Int) (j : Nat) (h : j < xs.length) : (nums k xs)[j]? = some (.int k (xs.getD j 0)) := by simp [nums, List.getD, h]
theorem below_alloc1 {w W : World} (h : Below w.heap.size w W) (o : Obj) : Below w.heap.size w (W.alloc o) := h.alloc h.size o
theorem below_drew1 {B : Nat} {w W : World} (h : Below B w W) : Below B w W.drew := h.drew
/-- A row of the call's own, as whole numbers. -/
def Own (w : World) (base : Nat) (e : TypeId) (k : IntKind) (v : Value) (xs : List Int) : Prop := w.ownsRow base e 1 v xs.length (nums k xs)
theorem own_shape {w : World} {base : Nat} {e : TypeId} {size n : Nat} {v : Value} {xs : List Value} (h : w.ownsRow base e size v n xs) : ∃ A cap, v = .slice A n cap ∧ n ≤ cap := by
  rcases h.2 with ⟨rfl, rfl⟩ | ⟨g, cap, cur, rfl, _, _, hc, _⟩
  · exact ⟨_, _, rfl, Nat.le_refl _⟩
  · exact ⟨_, _, rfl, hc⟩
theorem own_cell {w : World} {base : Nat} {e : TypeId} {A : Option Addr} {n c : Nat} {xs : List Value} (h : w.ownsRow base e 1 (.slice A n c) n xs) (j : Nat) (hj : j < n) :
    ∃ g, A = some ⟨g, 0, none⟩ ∧ base ≤ g ∧ w.cell? ⟨g, j, none⟩ = xs[j]? ∧ w.frozen? ⟨g, j, none⟩ = false := by
  rcases h.2 with ⟨h1, rfl⟩ | ⟨g, cap, cur, h1, hb, hg, hc, _, hs, ht⟩
  · omega
  · injection h1 with h1 h2 h3
    refine ⟨g, h1, hb, ?_, ?_⟩
    · simp only [World.cell?, hg]
      rw [← ht]
      simp [hj]
    · simp [World.frozen?, hg]
theorem Own.rd {w : World} {base : Nat} {e : TypeId} {k : IntKind} {A : Option Addr} {n c : Nat} {xs : List Int} (h : Own w base e k (.slice A n c) xs) : n = xs.length ∧ Rd w k A xs := by
  obtain ⟨A', cap, he, hcap⟩ := own_shape h
  injection he with h1 h2 h3
  subst h1 h2 h3
  refine ⟨rfl, ?_, fun j hj => ?_⟩
  · rcases h.2 with ⟨_, h0⟩ | ⟨g, cap, cur, h1, _, _, h2, h3, _⟩
    · omega
    · have : maxLen = 9223372036854775807 := rfl
      omega
  · obtain ⟨g, rfl, _, hcell, _⟩ := own_cell h j hj
    exact ⟨_, rfl, by rw [add_plain, hcell, nums_get _ _ _ hj]⟩
theorem Own.shape {w : World} {base : Nat} {e : TypeId} {k : IntKind} {v : Value} {xs : List Int} (h : Own w base e k v xs) : ∃ A c, v = .slice A xs.length c ∧ xs.length ≤ c ∧ Rd w k A xs := by
  obtain ⟨A, c, rfl, hc⟩ := own_shape h
  exact ⟨A, c, rfl, hc, (Own.rd h).2⟩
theorem Own.keep {w w1 : World} {base : Nat} {e : TypeId} {k : IntKind} {v : Value} {xs : List Int} (h : Own w base e k v xs) (hb : Below w.heap.size w w1) : Own w1 base e k v xs :=
  World.ownsRow.kept h (grown_of_below hb none) (by cases v.ownBlock <;> simp)
theorem Own.low {w : World} {base base' : Nat} {e : TypeId} {k : IntKind} {v : Value} {xs : List Int} (h : Own w base e k v xs) (hb : base' ≤ base) : Own w base' e k v xs := by
  refine ⟨h.1, ?_⟩
  rcases h.2 with h | ⟨g, cap, cur, h1, h2, h3⟩
  · exact .inl h
  · exact .inr ⟨g, cap, cur, h1, by omega, h3⟩

/-! ### 4. append: whatever is appended, whoever owns the row -/
/-- The slice at A reads as the cells cs. -/
def RdC (w : World) (A : Option Addr) (cs : List Value) : Prop := ∀ j u, cs[j]? = some u → ∃ ad, A = some ad ∧ w.cell? (ad.add j) = some u
theorem RdC.below {w w1 : World} {A : Option Addr} {cs : List Value} (h : RdC w A cs) (hb : Below w.heap.size w w1) : RdC w1 A cs := fun j u hu => by
  obtain ⟨ad, e, hc⟩ := h j u hu
  exact ⟨ad, e, cell_below hb hc (World.block_lt_of_cell? w _ hc)⟩
theorem Rd.c {w : World} {k : IntKind} {A : Option Addr} {xs : List Int} (h : Rd w k A xs) : RdC w A (nums k xs) := fun j u hu => by
  have hj : j < xs.length := by
    rcases Nat.lt_or_ge j xs.length with h | h
    · exact h
    · simp [nums, List.getElem?_eq_none h] at hu
  obtain ⟨ad, e, hc⟩ := h.2 j hj
  rw [nums_get _ _ _ hj] at hu
  exact ⟨ad, e, by rw [hc, hu]⟩
theorem RdC.block {w : World} {b : Nat} {cs : Array Value} {t : TypeId} {fr : Nat × Nat} (h : w.heap[b]? = some (.cells cs t fr)) : RdC w (some ⟨b, 0, none⟩) cs.toList := fun j u hu => by
  refine ⟨_, rfl, ?_⟩
  rw [add_plain]
  simp only [World.cell?, h]
  simpa using hu
theorem RdC.one (w : World) (u : Value) (t : TypeId) : RdC (w.alloc (.cells #[u] t)) (some ⟨w.heap.size, 0, none⟩) [u] := RdC.block (cs := #[u]) (heap_alloc_new _ _)
theorem RdC.oneD (w : World) (u : Value) (t : TypeId) : RdC (w.alloc (.cells #[u] t)).drew (some ⟨w.heap.size, 0, none⟩) [u] := RdC.block (w := (w.alloc (.cells #[u] t)).drew) (cs := #[u]) (heap_alloc_new w _)
theorem nums_one (k : IntKind) (xs : List Int) : ∀ u ∈ nums k xs, u.oneCell' = true := by
  intro u hu
  obtain ⟨x, _, rfl⟩ := List.mem_map.1 hu
  rfl
def OwnB (v : Value) (k : Nat) : Prop := v.ownBlock = some k
theorem own_base {w : World} {base : Nat} {e : TypeId} {size n : Nat} {v : Value} {xs : List Value} (h : w.ownsRow base e size v n xs) (k : Nat) (hk : v.ownBlock = some k) : base ≤ k := by
  rcases h.2 with ⟨rfl, _⟩ | ⟨g, cap, cur, rfl, hb, _⟩
  · simp [Value.ownBlock] at hk
  · have : g = k := by simpa [Value.ownBlock] using hk
    omega
theorem only_grown {w w1 : World} {v : Value} (h : w.grownBy w1 v.ownBlock) : Only (OwnB v) w w1 := ⟨h.os, h.tape, h.output, h.size, fun k hk hs => h.block k hk fun e => hs e.symm⟩

section
variable {P : Program} (w : World)
theorem run_app (t ty e : TypeId) (z : Value) (size bytes : Nat) (ht : P.underlying t = some (.slice e)) (hinfo : (P.info? e).map (fun i => (i.zero, i.size, i.bytes)) = some (some z, size, bytes)) (hzs : z.cells.size = size) (hsz : 0 < size) (hb0 : 0 < bytes)
    (base : Nat) (v : Value) (n : Nat) (xs : List Value) (hown : w.ownsRow base e size v n xs) (hbase : base ≤ w.heap.size)
    (A : Option Addr) (m c : Nat) (news : List Value) (hl : news.length = m * size) (hnews : RdC w A news) (h1 : ∀ u ∈ news, u.oneCell' = true) (hbytes : (n + m) * bytes ≤ 140737488355328) :
    ∃ v' w', (Builtin.append_ #[t, t] ty #[v, .slice A m c]).run P w = .ok v' w' ∧ w'.ownsRow base e size v' (n + m) (xs ++ news) ∧ w.grownBy w' v.ownBlock ∧ (v'.ownBlock = v.ownBlock ∨ v'.ownBlock = some w.heap.size) ∧ (v' = .slice none 0 0 ↔ v = .slice none 0 0 ∧ m = 0) := by
  obtain ⟨i0, hi, hzz⟩ := Option.map_eq_some_iff.1 hinfo
  simp only [Prod.mk.injEq] at hzz
  obtain ⟨hz0, hz1, hz2⟩ := hzz
  have hlen : n + m ≤ 140737488355328 := Nat.le_trans (Nat.le_mul_of_pos_right _ hb0) hbytes
  rcases A with _ | ad
  · have h0 : m = 0 := by
      rcases Nat.eq_zero_or_pos m with h0 | h0
      · exact h0
      · have hp : 0 < news.length := by rw [hl]; exact Nat.mul_pos h0 hsz
        obtain ⟨ad, h, _⟩ := hnews 0 news[0] (by simp)
        cases h
    subst h0
    obtain rfl : news = [] := List.eq_nil_of_length_eq_zero (by simpa using hl)
    refine ⟨v, w, ?_, by simpa using hown, World.grownBy.refl w _, .inl rfl, by simp⟩
    rcases hown.2 with ⟨rfl, hn⟩ | ⟨g, cap, cur, rfl, _, _, hnc, _⟩
    · simp [Builtin.append_, run_underlying ht, sizeOf, typeInfo, hi, Builtin.lenOf, Builtin.firstCells]
    · simp [Builtin.append_, run_underlying ht, sizeOf, typeInfo, hi, Builtin.lenOf, Builtin.firstCells, hnc, storeCells]
  · obtain ⟨v1, w1, hr, h2, h3, h4, h5⟩ := run_append_own_at (P := P) w base t ty e i0 z size bytes ht hi hz0 hz1 hz2 hzs hsz v n xs hown ad m c news hl
      (fun j u hu => by obtain ⟨ad', he, hc⟩ := hnews j u hu; injection he with he; subst he; exact hc) h1 (by simp only [maxLen]; omega) hbytes hbase
    exact ⟨v1, w1, hr, h2, h3, h5, h4⟩

theorem wpList_app {ops : Array Oper} {rest : List Oper} {o : Oper} {a : Act} {Q : Exit → Act → World → Prop} (hgd : o.guard = none) (s x : Operand) (t e : TypeId)
    (ho : o.op = .call { callee := .builtin .append, args := #[s, x], argTypes := #[t, t] })
    (z : Value) (size bytes : Nat) (ht : P.underlying t = some (.slice e)) (hinfo : (P.info? e).map (fun i => (i.zero, i.size, i.bytes)) = some (some z, size, bytes)) (hzs : z.cells.size = size) (hsz : 0 < size) (hb0 : 0 < bytes)
    (base : Nat) (v : Value) (n : Nat) (xs : List Value) (hs : a.eval s = v) (A : Option Addr) (m c : Nat) (hx : a.eval x = .slice A m c) (hown : w.ownsRow base e size v n xs) (w0 : World) (HB : Below base w0 w) (hbase : base ≤ w.heap.size)
    (news : List Value) (hl : news.length = m * size) (hnews : RdC w A news) (h1 : ∀ u ∈ news, u.oneCell' = true) (hbytes : (n + m) * bytes ≤ 140737488355328)
    (h : ∀ v' w', w'.ownsRow base e size v' (n + m) (xs ++ news) → Only (OwnB v) w w' → Below base w0 w' → (v'.ownBlock = v.ownBlock ∨ v'.ownBlock = some w.heap.size) → (v' = .slice none 0 0 ↔ v = .slice none 0 0 ∧ m = 0) → wpList P ops Q rest (a.put o.dst v') w') :
    wpList P ops Q (o :: rest) a w := by
  obtain ⟨v1, w1, hr, h2, h3, h4, h5⟩ := run_app (P := P) w t o.type e z size bytes ht hinfo hzs hsz hb0 base v n xs hown hbase A m c news hl hnews h1 hbytes
  have h20 := hown
  refine wpList_plain hgd fun K hK => ?_
  unfold Oper.wp execOp
  simp only [ho, resolve, invoke, builtin, Sem.run_bind, Sem.run_pure, Result.andThen_ok, List.map_toArray, List.map_cons, List.map_nil, hs, hx, hr]
  exact hK _ _ (h v1 w1 h2 (only_grown h3) (HB.grown h3 hbase (own_base h20)) h4 h5)

theorem step_app {ops : Array Oper} {o : Oper} {a : Act} {K : Act → World → Prop} {Q : Exit → Act → World → Prop} {E : Prop} (hgd : o.guard = none) (s x : Operand) (t e : TypeId)
    (ho : o.op = .call { callee := .builtin .append, args := #[s, x], argTypes := #[t, t] })
    (z : Value) (size bytes : Nat) (ht : P.underlying t = some (.slice e)) (hinfo : (P.info? e).map (fun i => (i.zero, i.size, i.bytes)) = some (some z, size, bytes)) (hzs : z.cells.size = size) (hsz : 0 < size) (hb0 : 0 < bytes)
    (base : Nat) (v : Value) (n : Nat) (xs : List Value) (hs : a.eval s = v) (A : Option Addr) (m c : Nat) (hx : a.eval x = .slice A m c) (hown : w.ownsRow base e size v n xs) (w0 : World) (HB : Below base w0 w) (hbase : base ≤ w.heap.size)
    (news : List Value) (hl : news.length = m * size) (hnews : RdC w A news) (h1 : ∀ u ∈ news, u.oneCell' = true) (hbytes : (n + m) * bytes ≤ 140737488355328)
    (h : ∀ v' w', w'.ownsRow base e size v' (n + m) (xs ++ news) → Only (OwnB v) w w' → Below base w0 w' → (v'.ownBlock = v.ownBlock ∨ v'.ownBlock = some w.heap.size) → (v' = .slice none 0 0 ↔ v = .slice none 0 0 ∧ m = 0) → K (a.put o.dst v') w') :
    if Region.wanted o (yielded ops a.tmps) = true then Oper.wp P o a w K Q else E := by
  have hw : Region.wanted o (yielded ops a.tmps) = true := by simp [Region.wanted, hgd]
  rw [if_pos hw]
  have h20 := hown
  obtain ⟨v1, w1, hr, h2, h3, h4, h5⟩ := run_app (P := P) w t o.type e z size bytes ht hinfo hzs hsz hb0 base v n xs hown hbase A m c news hl hnews h1 hbytes
  unfold Oper.wp execOp
  simp only [ho, resolve, invoke, builtin, Sem.run_bind, Sem.run_pure, Result.andThen_ok, List.map_toArray, List.map_cons, List.map_nil, hs, hx, hr]
  exact h v1 w1 h2 (only_grown h3) (HB.grown h3 hbase (own_base h20)) h4 h5

theorem madeCells_one (u : Value) (n : Nat) : madeCells #[u] n = (List.replicate n u).toArray := by
  apply Array.ext'
  simp only [madeCells, Array.toList_map, Array.toList_range]
  apply List.ext_getElem
  · simp
  · intro i h1 h2
    simp [Nat.mod_one]

/-- make([]T, n), T of one cell. -/
theorem wpList_mk {ops : Array Oper} {rest : List Oper} {o : Oper} {a : Act} {Q : Exit → Act → World → Prop} (hg : o.guard = none) (l c : Operand) (t e : TypeId) (hop : o.op = Op.makeSlice t l c)
    (z : Value) (bytes : Nat) (ht : P.underlying t = some (.slice e)) (hinfo : (P.info? e).map (fun i => (i.zero, i.size, i.bytes)) = some (some z, 1, bytes)) (hzc : z.cells = #[z])
    (kl kc : IntKind) (n : Nat) (hl : a.eval l = .int kl n) (hc : a.eval c = .int kc n) (hb : bytes * n ≤ 281474976710656) (h63 : n ≤ 9223372036854775807)
    (h : ∀ w', w'.heap[w.heap.size]? = some (.cells (List.replicate n z).toArray e (0, 0)) → Below w.heap.size w w' → w.heap.size < w'.heap.size → wpList P ops Q rest (a.put o.dst (.slice (some ⟨w.heap.size, 0, none⟩) n n)) w') :
    wpList P ops Q (o :: rest) a w := by
  obtain ⟨i0, hi, hzz⟩ := Option.map_eq_some_iff.1 hinfo
  simp only [Prod.mk.injEq] at hzz
  obtain ⟨hz0, hz1, hz2⟩ := hzz
  have hb' : (i0.bytes : Int) * (n : Int) ≤ 281474976710656 := by
    rw [hz2]
    have h : ((bytes * n : Nat) : Int) ≤ 281474976710656 := by omega
    rwa [Int.natCast_mul] at h
  have hrun := run_make (P := P) w t e i0 z ht hi hz0 kl kc n n (by omega) (Int.le_refl _) hb' (by omega)
  rw [Int.toNat_natCast, hz1, Nat.mul_one, hzc, madeCells_one] at hrun
  refine wpList_plain hg fun K hK => ?_
  unfold Oper.wp
  simp [execOp, hop, hl, hc, hrun, Result.andThen]
  exact hK _ _ (h _ (heap_alloc_new w _) ((Below.refl _ _).alloc (Nat.le_refl _) _) (by rw [World.size_alloc]; omega))
end

/-! ### 5. blocks that are known whole -/
theorem cell_blk {w : World} {b : Nat} {cs : List Value} {t : TypeId} {fr : Nat × Nat} (h : w.heap[b]? = some (.cells cs.toArray t fr)) (j : Nat) : w.cell? ⟨b, j, none⟩ = cs[j]? := by simp [World.cell?, h]
theorem free_blk {w : World} {b : Nat} {cs : Array Value} {t : TypeId} (h : w.heap[b]? = some (.cells cs t (0, 0))) (j : Nat) : w.frozen? ⟨b, j, none⟩ = false := by simp [World.frozen?, h]
theorem set_blk {w : World} {b : Nat} {cs : List Value} {t : TypeId} {fr : Nat × Nat} (h : w.heap[b]? = some (.cells cs.toArray t fr)) (j : Nat) (u : Value) : (w.setCell ⟨b, j, none⟩ u).heap[b]? = some (.cells (cs.set j u).toArray t fr) := by
  simp [World.setCell, Array.getElem?_modify, h]
theorem set_other {w : World} {b g : Nat} {o : Obj} (h : w.heap[b]? = some o) (j : Nat) (u : Value) (hne : b ≠ g) : (w.setCell ⟨g, j, none⟩ u).heap[b]? = some o := by
  rw [Below.heap_setCell _ _ _ _ hne]; exact h
theorem only_set (w : World) (b j : Nat) (u : Value) : Only (· = b) w (w.setCell ⟨b, j, none⟩ u) := ⟨rfl, rfl, rfl, by simp [World.setCell], fun k _ hk => Below.heap_setCell _ _ _ _ hk⟩
theorem below_set {B : Nat} {w W : World} (h : Below B w W) {b : Nat} (hb : B ≤ b) (j : Nat) (u : Value) : Below B w (W.setCell ⟨b, j, none⟩ u) := h.setCell hb u
theorem own_blk {w : World} {b base n cap : Nat} {cs : List Value} {t : TypeId} (h : w.heap[b]? = some (.cells cs.toArray t (0, 0))) (hb : base ≤ b) (hn : n ≤ cap) (hc : cap ≤ maxLen) (hl : cs.length = cap) : w.ownsRow base t 1 (.slice (some ⟨b, 0, none⟩) n cap) n (cs.take n) :=
  ⟨by simp; omega, .inr ⟨b, cap, cs.toArray, rfl, hb, h, hn, hc, by simp [hl], by simp⟩⟩
theorem Rd.blk {w : World} {k : IntKind} {b : Nat} {xs : List Int} {t : TypeId} {fr : Nat × Nat} (h : w.heap[b]? = some (.cells (nums k xs).toArray t fr)) (hl : xs.length ≤ 9223372036854775807) : Rd w k (some ⟨b, 0, none⟩) xs :=
  ⟨hl, fun j hj => ⟨_, rfl, by rw [add_plain, cell_blk h, nums_get _ _ _ hj]⟩⟩
theorem Rd.new (w : World) (k : IntKind) (xs : List Int) (t : TypeId) (hl : xs.length ≤ 9223372036854775807) : Rd (w.alloc (.cells (nums k xs).toArray t)) k (some ⟨w.heap.size, 0, none⟩) xs := Rd.blk (heap_alloc_new w _) hl
theorem Rd.alloc {w : World} {k : IntKind} {A : Option Addr} {xs : List Int} (h : Rd w k A xs) (o : Obj) : Rd (w.alloc o) k A xs := h.below ((Below.refl _ _).alloc (Nat.le_refl _) _)

theorem wpList_appI {P : Program} (w : World) {ops : Array Oper} {rest : List Oper} {o : Oper} {a : Act} {Q : Exit → Act → World → Prop} (hgd : o.guard = none) (s x : Operand) (t e : TypeId)
    (ho : o.op = .call { callee := .builtin .append, args := #[s, x], argTypes := #[t, t] })
    (k : IntKind) (bytes : Nat) (ht : P.underlying t = some (.slice e)) (hinfo : (P.info? e).map (fun i => (i.zero, i.size, i.bytes)) = some (some (.int k 0), 1, bytes)) (hb0 : 0 < bytes)
    (base : Nat) (v : Value) (xs : List Int) (hs : a.eval s = v) (A : Option Addr) (c : Nat) (ys : List Int) (hx : a.eval x = .slice A ys.length c) (hown : Own w base e k v xs) (w0 : World) (HB : Below base w0 w) (hbase : base ≤ w.heap.size)
    (hnews : Rd w k A ys) (hbytes : (xs.length + ys.length) * bytes ≤ 140737488355328)
    (h : ∀ v' w', Own w' base e k v' (xs ++ ys) → Only (OwnB v) w w' → Below base w0 w' → (v'.ownBlock = v.ownBlock ∨ v'.ownBlock = some w.heap.size) → (v' = .slice none 0 0 ↔ v = .slice none 0 0 ∧ ys.length = 0) → wpList P ops Q rest (a.put o.dst v') w') :
    wpList P ops Q (o :: rest) a w :=
  wpList_app w hgd s x t e ho (.int k 0) 1 bytes ht hinfo rfl (by omega) hb0 base v xs.length (nums k xs) hs A ys.length c hx hown w0 HB hbase (nums k ys) (by simp [nums]) hnews.c (nums_one _ _) hbytes
    fun v' w' h1 h2 h3 h4 h5 => h v' w' (by unfold Own; rw [nums_append, List.length_append]; exact h1) h2 h3 h4 h5
theorem Own.only {w w1 : World} {S : Nat → Prop} {base : Nat} {e : TypeId} {k : IntKind} {v : Value} {xs : List Int} (h : Own w base e k v xs) (ho : Only S w w1) (hs : ∀ b, v.ownBlock = some b → ¬ S b) : Own w1 base e k v xs := by
  refine ⟨h.1, ?_⟩
  rcases h.2 with h | ⟨g, cap, cur, rfl, h2, h3, h4⟩
  · exact .inl h
  · exact .inr ⟨g, cap, cur, rfl, h2, ho.obj h3 (hs g rfl), h4⟩
theorem Own.lt {w : World} {base : Nat} {e : TypeId} {k : IntKind} {v : Value} {xs : List Int} (h : Own w base e k v xs) (b : Nat) (hb : v.ownBlock = some b) : base ≤ b ∧ b < w.heap.size := World.ownsRow.lt h b hb
theorem Own.empty (w : World) (e : TypeId) (k : IntKind) : Own (w.alloc (.cells #[] e)) w.heap.size e k (.slice (some ⟨w.heap.size, 0, none⟩) 0 0) [] :=
  World.ownsRow_made w #[] 0 (Nat.le_refl _) (by unfold maxLen; omega) rfl
theorem Own.belowB {w w1 : World} {B base : Nat} {e : TypeId} {k : IntKind} {v : Value} {xs : List Int} (h : Own w base e k v xs) (hb : Below B w w1) (hB : ∀ b, v.ownBlock = some b → b < B) : Own w1 base e k v xs := by
  refine ⟨h.1, ?_⟩
  rcases h.2 with h | ⟨g, cap, cur, rfl, h2, h3, h4⟩
  · exact .inl h
  · exact .inr ⟨g, cap, cur, rfl, h2, obj_below hb h3 (hB g rfl), h4⟩
theorem Own.at_ {w : World} {base : Nat} {e : TypeId} {k : IntKind} {A : Option Addr} {n c : Nat} {xs : List Int} (h : Own w base e k (.slice A n c) xs) (j : Nat) (hj : j < n) :
    ∃ g, A = some ⟨g, 0, none⟩ ∧ base ≤ g ∧ g < w.heap.size ∧ w.cell? ⟨g, j, none⟩ = some (.int k (xs.getD j 0)) ∧ w.frozen? ⟨g, j, none⟩ = false ∧
      (∀ u, Own (w.setCell ⟨g, j, none⟩ (.int k u)) base e k (.slice A n c) (xs.set j u)) ∧ (Value.slice A n c).ownBlock = some g := by
  obtain ⟨hn, _⟩ := h.rd
  subst hn
  obtain ⟨g, rfl, hb, hc, hf⟩ := own_cell h j hj
  have hlt := (h.lt g rfl).2
  refine ⟨g, rfl, hb, hlt, by rw [hc, nums_get _ _ _ hj], hf, fun u => ?_, rfl⟩
  have hs := (World.ownsRow.stored h j (.int k u)).1
  unfold Own
  have he : nums k (xs.set j u) = (nums k xs).set j (.int k u) := by simp [nums, List.map_set]
  rw [he, List.length_set]
  exact hs

theorem own_alloc1 {w : World} {base : Nat} {e : TypeId} {size n : Nat} {v : Value} {xs : List Value} (h : w.ownsRow base e size v n xs) (o : Obj) : (w.alloc o).ownsRow base e size v n xs := h.alloc o
theorem own_drew1 {w : World} {base : Nat} {e : TypeId} {size n : Nat} {v : Value} {xs : List Value} (h : w.ownsRow base e size v n xs) : w.drew.ownsRow base e size v n xs := h.drew
theorem Own.row {w : World} {base : Nat} {e : TypeId} {k : IntKind} {v : Value} {xs : List Int} {n : Nat} (h : Own w base e k v xs) (hn : xs.length = n) : w.ownsRow base e 1 v n (nums k xs) := by subst hn; exact h
theorem Own.of_row {w : World} {base : Nat} {e : TypeId} {k : IntKind} {v : Value} {xs : List Int} {x : Int} {n : Nat} (h : w.ownsRow base e 1 v (n + 1) (nums k xs ++ [.int k x])) (hn : xs.length = n) : Own w base e k v (xs ++ [x]) := by
  subst hn
  unfold Own
  rw [nums_append, List.length_append]
  exact h
theorem row_only {w w1 : World} {S : Nat → Prop} {base : Nat} {e : TypeId} {size n : Nat} {v : Value} {xs : List Value} (h : w.ownsRow base e size v n xs) (ho : Only S w w1) (hs : ∀ b, v.ownBlock = some b → ¬ S b) : w1.ownsRow base e size v n xs := by
  refine ⟨h.1, ?_⟩
  rcases h.2 with h | ⟨g, cap, cur, rfl, h2, h3, h4⟩
  · exact .inl h
  · exact .inr ⟨g, cap, cur, rfl, h2, ho.obj h3 (hs g rfl), h4⟩
theorem RdC.alloc1 {w : World} {A : Option Addr} {cs : List Value} (h : RdC w A cs) (o : Obj) : RdC (w.alloc o) A cs := h.below ((Below.refl _ _).alloc (Nat.le_refl _) _)
theorem RdC.drew1 {w : World} {A : Option Addr} {cs : List Value} (h : RdC w A cs) : RdC w.drew A cs := h.below (Below.refl _ _).drew
theorem RdC.one' (w : World) (u : Value) (t : TypeId) (n : Nat) (hn : w.heap.size = n) : RdC (w.alloc (.cells #[u] t)) (some ⟨n, 0, none⟩) [u] := by subst hn; exact RdC.one _ _ _
theorem RdC.only {w w1 : World} {S : Nat → Prop} {g : Nat} {cs : List Value} (h : RdC w (some ⟨g, 0, none⟩) cs) (ho : Only S w w1) (hs : ¬ S g) : RdC w1 (some ⟨g, 0, none⟩) cs := fun j u hu => by
  obtain ⟨ad, e, hc⟩ := h j u hu
  injection e with e
  subst e
  exact ⟨_, rfl, ho.cell hc (by rw [add_plain]; exact hs)⟩
/-- Two rows in blocks of their own. -/
def Apart (v u : Value) : Prop := ∀ b, v.ownBlock = some b → u.ownBlock = some b → False
theorem Apart.symm {v u : Value} (h : Apart v u) : Apart u v := fun b h1 h2 => h b h2 h1
theorem Apart.nil (u : Value) : Apart (.slice none 0 0) u := fun b h1 _ => by simp [Value.ownBlock] at h1
theorem Apart.step {u v u1 v1 : Value} {n m1 m2 : Nat} (h : Apart u v) (hu : ∀ b, u.ownBlock = some b → b < n) (hv : ∀ b, v.ownBlock = some b → b < n)
    (h1 : u1.ownBlock = u.ownBlock ∨ u1.ownBlock = some m1) (hm1 : n ≤ m1) (h2 : v1.ownBlock = v.ownBlock ∨ v1.ownBlock = some m2) (hm2 : n ≤ m2) (hl : ∀ b, u1.ownBlock = some b → b < m2) : Apart u1 v1 := fun b hb1 hb2 => by
  have h3 := hl b hb1
  rcases h2 with h2 | h2
  · rw [h2] at hb2
    have h4 := hv b hb2
    rcases h1 with h1 | h1
    · rw [h1] at hb1; exact h b hb1 hb2
    · rw [h1] at hb1; injection hb1 with e; omega
  · rw [h2] at hb2; injection hb2 with e; omega
theorem row_lt {w : World} {base : Nat} {e : TypeId} {size n : Nat} {v : Value} {xs : List Value} (h : w.ownsRow base e size v n xs) (b : Nat) (hb : v.ownBlock = some b) : b < w.heap.size := (World.ownsRow.lt h b hb).2
theorem nums_replicate (k : IntKind) (n : Nat) (x : Int) : nums k (List.replicate n x) = List.replicate n (.int k x) := by simp [nums]
theorem Own.zeros {w : World} {b n base : Nat} {t : TypeId} {k : IntKind} (h : w.heap[b]? = some (.cells (List.replicate n (.int k 0)).toArray t (0, 0))) (hb : base ≤ b) (hn : n ≤ maxLen) : Own w base t k (.slice (some ⟨b, 0, none⟩) n n) (List.replicate n 0) := by
  have h2 := own_blk h hb (Nat.le_refl n) hn (by simp)
  rw [List.take_of_length_le (by simp), ← nums_replicate] at h2
  unfold Own
  rw [List.length_replicate]
  exact h2
theorem Own.alloc1 {w : World} {base : Nat} {e : TypeId} {k : IntKind} {v : Value} {xs : List Int} (h : Own w base e k v xs) (o : Obj) : Own (w.alloc o) base e k v xs := World.ownsRow.alloc h o
end Go.Proofs.Ytacgkoclammggaa
