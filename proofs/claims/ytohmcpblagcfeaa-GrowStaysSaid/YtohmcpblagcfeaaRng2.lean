
/-
  Draws of a source by its place: one contract for each number asked for, also where nothing is drawn. Condition: so few draws that no count goes round.
-/
import Derived.Test.YtohmcpblagcfeaaLaw05
namespace Go.Proofs.Ytohmcpblagcfeaa
open Go.RowKit
set_option linter.unusedVariables false
set_option maxRecDepth 100000
set_option linter.unusedSimpArgs false

def At (w : World) (lo hi : Nat) (v : Value) (s : Nat → Int) (k : Nat) : Prop := Drw w lo hi v (fun i => s (i + k)) k
def bK (n : Int) : Nat := if n < 1 then 0 else 1
def pK (n : Int) : Nat := if n < 2 then 0 else 2
def bX (s : Nat → Int) (k : Nat) (n : Int) : Int := if n < 1 then 0 else belowN (s k) n
def pX (s : Nat → Int) (k : Nat) (n : Int) : Int := if n < 2 then 0 else belowN (s k) n
def pY (s : Nat → Int) (k : Nat) (n : Int) : Int := if n < 2 then 0 else pairB (s k) (s (k + 1)) n
theorem bK_le (n : Int) : bK n ≤ 1 := by unfold bK; split <;> omega
theorem pK_le (n : Int) : pK n ≤ 2 := by unfold pK; split <;> omega
theorem At.only {w w' : World} {S : Nat → Prop} {lo hi : Nat} {v : Value} {s : Nat → Int} {k : Nat} (h : At w lo hi v s k) (ho : Only S w w') (hs : ∀ b, lo ≤ b → b < hi → ¬ S b) : At w' lo hi v s k := Drw.only h ho hs
theorem At.below {w w' : World} {B lo hi : Nat} {v : Value} {s : Nat → Int} {k : Nat} (h : At w lo hi v s k) (hb : Below B w w') (hB : hi ≤ B) : At w' lo hi v s k :=
  Drw.only h (S := fun b => B ≤ b) ⟨hb.os, hb.tape, hb.output, hb.size, fun i hi' hs => hb.block i (by omega)⟩ (fun b _ h1 h2 => by omega)
theorem shift_at (s : Nat → Int) (k j : Nat) : (fun i => s (i + j + k)) = fun i => s (i + (k + j)) := by
  funext i
  congr 1
  omega
theorem At.below_calls (lo hi : Nat) (v : Value) (s : Nat → Int) (k : Nat) (n : Int) (w : World) (h : At w lo hi v s k) (hk : k ≤ 1000000) (hn : n ≤ 9223372036854775807) :
    Calls Try.prog 66 #[v, .int .i64 n] w fun e w' => e = .returned (.int .i64 (bX s k n)) ∧ At w' lo hi v s (k + bK n) ∧ Only (Within lo hi) w w' := by
  by_cases h1 : n < 1
  · refine (Below_none v n w h1).mono ?_
    rintro e w' ⟨rfl, rfl⟩
    simp only [bX, bK, if_pos h1]
    exact ⟨trivial, h, Only.refl _ _⟩
  · refine (Below_draw lo hi v _ k n w h (by omega) (by omega)).mono ?_
    rintro e w' ⟨rfl, hs, ho⟩
    simp only [bX, bK, if_neg h1, Nat.zero_add]
    refine ⟨trivial, ?_, ho⟩
    have e1 := shift_at s k 1
    unfold At
    rw [← e1]
    exact hs
theorem At.pair_calls (lo hi : Nat) (v : Value) (s : Nat → Int) (k : Nat) (n : Int) (w : World) (h : At w lo hi v s k) (hk : k ≤ 1000000) (hn : n ≤ 9223372036854775807) :
    Calls Try.prog 50 #[v, .int .i64 n] w fun e w' => e = .returned (.tuple #[.int .i64 (pX s k n), .int .i64 (pY s k n)]) ∧ At w' lo hi v s (k + pK n) ∧ Only (Within lo hi) w w' := by
  by_cases h1 : n < 2
  · refine (Pair_none v n w h1).mono ?_
    rintro e w' ⟨rfl, rfl⟩
    simp only [pX, pY, pK, if_pos h1]
    exact ⟨trivial, h, Only.refl _ _⟩
  · refine (Pair_draw lo hi v _ k n w h (by omega) (by omega)).mono ?_
    rintro e w' ⟨rfl, hs, ho⟩
    simp only [pX, pY, pK, if_neg h1, Nat.zero_add, Nat.add_comm 1 k]
    refine ⟨trivial, ?_, ho⟩
    have e1 := shift_at s k 2
    unfold At
    rw [← e1]
    exact hs
theorem At.draw_calls {w : World} {lo hi : Nat} {T : TypeId} {a : Addr} {s : Nat → Int} {k : Nat} (h : At w lo hi (.iface T (.pointer (some a))) s k) (hk : k ≤ 1000000) :
    Calls Try.prog (fdraw T) #[.pointer (some a)] w fun e w' => e = .returned (.int .u64 (s k)) ∧ At w' lo hi (.iface T (.pointer (some a))) s (k + 1) ∧ Only (Within lo hi) w w' := by
  refine (Drw.draw h (by omega)).mono ?_
  rintro e w' ⟨rfl, hs, ho⟩
  simp only [Nat.zero_add]
  refine ⟨trivial, ?_, ho⟩
  have e1 := shift_at s k 1
  unfold At
  rw [← e1]
  exact hs
theorem At.ctr {w : World} {lo hi b : Nat} {s : Nat → Int} {k : Nat} (h : At w lo hi (.iface 55 (.pointer (some ⟨b, 0, none⟩))) s k) : Ctr w lo hi b (fun i => s (i + k)) k := by
  rcases h with hs | ⟨b', h3, hs⟩
  · rcases hs with ⟨b', l', h3, _⟩ | ⟨b', st', h3, _⟩
    · injection h3 with h3; exact absurd h3 (by decide)
    · injection h3 with h3; exact absurd h3 (by decide)
  · injection h3 with _ h3
    injection h3 with h3
    injection h3 with h3
    injection h3 with h3
    subst h3
    exact hs
theorem At.counter_calls {w : World} {lo hi b : Nat} {s : Nat → Int} {k : Nat} (h : At w lo hi (.iface 55 (.pointer (some ⟨b, 0, none⟩))) s k) (hk : k ≤ 1000000) :
    Calls Try.prog 92 #[.pointer (some ⟨b, 0, none⟩)] w fun e w' => e = .returned (.int .u64 (s k)) ∧ At w' lo hi (.iface 55 (.pointer (some ⟨b, 0, none⟩))) s (k + 1) ∧ Only (Within lo hi) w w' := by
  have h5 := h.draw_calls hk
  have e : fdraw 55 = 92 := by decide
  rwa [e] at h5
theorem At.drawn_calls {w : World} {lo hi b : Nat} {s : Nat → Int} {k : Nat} (h : At w lo hi (.iface 55 (.pointer (some ⟨b, 0, none⟩))) s k) :
    Calls Try.prog 29 #[.pointer (some ⟨b, 0, none⟩)] w fun e w' => e = .returned (.int .i64 k) ∧ w = w' :=
  Drawn_calls _ _ _ _ _ _ h.ctr
theorem At.of_src {w : World} {lo hi : Nat} {v : Value} {s : Nat → Int} (h : Src w lo hi v s) : At w lo hi v s 0 := .inl h
theorem At.of_ctr {w : World} {lo hi b : Nat} {s : Nat → Int} (h : Ctr w lo hi b s 0) : At w lo hi (.iface 55 (.pointer (some ⟨b, 0, none⟩))) s 0 := .inr ⟨b, rfl, h⟩
theorem At.shape {w : World} {lo hi : Nat} {v : Value} {s : Nat → Int} {k : Nat} (h : At w lo hi v s k) : ∃ T a, v = .iface T (.pointer (some a)) ∧ DrwT T := Drw.shape h

/-! ### the reference's, by its place -/
theorem refBelow_calls (b : Nat) (mixed : Bool) (st : Int) (A : Option Addr) (c : Nat) (l : List Int) (k : Nat) (n : Int) (w : World) (h : RefS w b mixed st A c l k) (hu : U64 l) (hk : k ≤ 1000000) (hn : n ≤ 9223372036854775807) :
    Calls Try.prog 69 #[.pointer (some ⟨b, 0, none⟩), .int .i64 n] w fun e w' => e = .returned (.int .i64 (bX (refS mixed st l) k n)) ∧ RefS w' b mixed st A c l (k + bK n) ∧ Only (· = b) w w' := by
  by_cases h1 : n < 1
  · refine (refBelow_none _ n w h1).mono ?_
    rintro e w' ⟨rfl, rfl⟩
    simp only [bX, bK, if_pos h1]
    exact ⟨trivial, h, Only.refl _ _⟩
  · refine (refBelow_draw b mixed st A c l k n w h hu (by omega) (by omega)).mono ?_
    rintro e w' ⟨rfl, hs, ho⟩
    simp only [bX, bK, if_neg h1]
    exact ⟨trivial, hs, ho⟩
theorem refPair_calls (b : Nat) (mixed : Bool) (st : Int) (A : Option Addr) (c : Nat) (l : List Int) (k : Nat) (n : Int) (w : World) (h : RefS w b mixed st A c l k) (hu : U64 l) (hk : k ≤ 1000000) (hn : n ≤ 9223372036854775807) :
    Calls Try.prog 55 #[.pointer (some ⟨b, 0, none⟩), .int .i64 n] w fun e w' => e = .returned (.tuple #[.int .i64 (pX (refS mixed st l) k n), .int .i64 (pY (refS mixed st l) k n)]) ∧ RefS w' b mixed st A c l (k + pK n) ∧ Only (· = b) w w' := by
  by_cases h1 : n < 2
  · refine (refPair_none _ n w h1).mono ?_
    rintro e w' ⟨rfl, rfl⟩
    simp only [pX, pY, pK, if_pos h1]
    exact ⟨trivial, h, Only.refl _ _⟩
  · refine (refPair_draw b mixed st A c l k n w h hu (by omega) (by omega)).mono ?_
    rintro e w' ⟨rfl, hs, ho⟩
    simp only [pX, pY, pK, if_neg h1]
    exact ⟨trivial, hs, ho⟩
theorem Only.belowW {S : Nat → Prop} {w w' W : World} (ho : Only S w w') {B C : Nat} (hW : Below C W w) (hB : B ≤ W.heap.size) (hs : ∀ k, k < B → ¬ S k) : Below B w w' := ho.below (Nat.le_trans hB hW.size) hs
theorem At.drawn_q {w : World} {lo hi b : Nat} {s : Nat → Int} {k : Nat} (h : At w lo hi (.iface 55 (.pointer (some ⟨b, 0, none⟩))) s k) :
    Calls Try.prog 29 #[.pointer (some ⟨b, 0, none⟩)] w fun e w' => e = .returned (.int .i64 k) ∧ ∃ n, w' = w.drewN n := by
  refine h.drawn_calls.mono ?_
  rintro e _ ⟨he, rfl⟩
  exact ⟨he, 0, rfl⟩
theorem At.drewN {w : World} {lo hi : Nat} {v : Value} {s : Nat → Int} {k : Nat} (h : At w lo hi v s k) (n : Nat) : At (w.drewN n) lo hi v s k := h.only (S := fun _ => False) (Only.of_below (below_drewN_self w n)) fun _ _ _ h => h
theorem RefS.drewN {w : World} {b : Nat} {mixed : Bool} {st : Int} {A : Option Addr} {c : Nat} {l : List Int} {n : Nat} (h : RefS w b mixed st A c l n) (m : Nat) : RefS (w.drewN m) b mixed st A c l n := h.only (S := fun _ => False) (Only.of_below (below_drewN_self w m)) (fun h => h) fun _ _ _ h => h
theorem _root_.Go.RowKit.Below.after {a b c : World} (h : Below a.heap.size a b) (k : Below b.heap.size b c) : Below a.heap.size a c := h.trans (k.mono h.size)
end Go.Proofs.Ytohmcpblagcfeaa
