/-
  Package rng: Draws, as an iterator. Condition: no more than a thousand draws.
-/
import Derived.Shelf.Abstract
import Derived.Test.YticdmglondpgaaaGreatQ02
import Derived.Test.YticdmglondpgaaaGreatQ08

namespace Go.Proofs.YticdmglondpgaaaGreat
open Go.RowKit
set_option linter.unusedVariables false
set_option maxRecDepth 100000
set_option linter.unusedSimpArgs false
attribute [local go_sem] Oper.semAt_some

/-- The blocks of E lie as they lay. -/
def KeepD (E : Nat → Prop) (W W' : World) : Prop := Only (fun k => ¬ E k) W W'
theorem KeepD.putObj {E : Nat → Prop} {n : Nat} (hE : ∀ k, E k → k < n) (W : World) (l : Nat) (o' : Obj) (hl : n ≤ l) : KeepD E W (W.putObj l o') :=
  ⟨rfl, rfl, rfl, by simp, fun k _ hk => World.putObj_heap_other fun e => hk fun h => by have := hE k h; omega⟩
def told (s : Nat → Int) (n : Nat) : List Int := (List.range n).map s
theorem told_length (s : Nat → Int) (n : Nat) : (told s n).length = n := by simp [told]
theorem told_succ (s : Nat → Int) (n : Nat) : told s (n + 1) = told s n ++ [s n] := by simp [told, List.range_succ]
def E31 (lo hi bn bs : Nat) (k : Nat) : Prop := Within lo hi k ∨ k = bn ∨ k = bs
theorem draws_iter (m lo hi bn bs : Nat) (T : TypeId) (a : Addr) (s : Nat → Int) (n0 : Int) (n : Nat) (w : World) (hnn : n0.toNat = n) (hn : n ≤ 1000)
    (hat : At w lo hi (.iface T (.pointer (some a))) s 0) (hT : DrwT T) (hbn : w.cell? ⟨bn, 0, none⟩ = some (.int .i64 n0)) (hbs : w.cell? ⟨bs, 0, none⟩ = some (.iface T (.pointer (some a)))) (hlo : hi ≤ bn ∧ hi ≤ bs) :
    IterD Fence.wide m Tryz.prog 58 #[.pointer (some ⟨bn, 0, none⟩), .pointer (some ⟨bs, 0, none⟩)] (fun x : Int => #[.int .u64 x]) (Within lo hi) (KeepD (E31 lo hi bn bs)) (fun _ _ _ _ => True)
      (fun xs W => xs = told s n ∧ At W lo hi (.iface T (.pointer (some a))) s n) (fun xs W => ∃ k, k ≤ n ∧ 1 ≤ k ∧ xs = told s k ∧ At W lo hi (.iface T (.pointer (some a))) s k) n w := by
  intro l J Jx W hW hJ hJx hY h0
  have HNN := Lib.hid hnn
  clear hnn
  refine callsIn_of_wp Tryz.func58 rfl trivial ?_ rfl
  simp only [Tryz.ntmps58, List.size_toArray, List.length_cons, List.length_nil, Nat.reduceAdd, Nat.reduceSub, Array.replicate_succ, Array.replicate_zero, List.push_toArray, List.append_toArray, List.nil_append, List.cons_append]
  have hbnW : W.cell? ⟨bn, 0, none⟩ = some (.int .i64 n0) := cell_below hW hbn (World.block_lt_of_cell? _ _ hbn)
  have hbsW : W.cell? ⟨bs, 0, none⟩ = some (.iface T (.pointer (some a))) := cell_below hW hbs (World.block_lt_of_cell? _ _ hbs)
  have hatW : At W lo hi (.iface T (.pointer (some a))) s 0 := At.only hat (S := fun _ => False) (Only.of_below hW) fun _ _ _ h => h
  have HATW := Lib.hid hatW
  have mt := hT.meth a
  have ct := hT.call (.pointer (some a))
  have HJ := Lib.hid hJ
  have HJX := Lib.hid hJx
  have HY := Lib.hid hY
  have H0 := Lib.hid h0
  clear hat hatW hJ hJx hY h0
  gi_wp2
  gi_loopw [4] (fun v4 wr => ∃ k : Nat, k ≤ n ∧ v4 = .int .i64 k ∧ J (told s k) wr ∧ At wr lo hi (.iface T (.pointer (some a))) s k ∧ wr.cell? ⟨bn, 0, none⟩ = some (.int .i64 n0) ∧ wr.cell? ⟨bs, 0, none⟩ = some (.iface T (.pointer (some a)))) (fun v4 _ => n - (intOf v4).toNat)
  case atStart => exact ⟨0, Nat.zero_le _, rfl, H0.out, HATW.out, hbnW, hbsW⟩
  case round =>
    obtain ⟨k, hk, rfl, hJs, hat, hn1, hs1⟩ := hrel
    have HAT := Lib.hid hat
    have HJS := Lib.hid hJs
    clear hat hJs hbnW hbsW
    by_cases hlt0 : (k : Int) < n0
    · have hlt : k < n := by have := HNN.out; omega
      have hlt0' : decide ((k : Int) < n0) = true := decide_eq_true hlt0
      obtain ⟨q, hq⟩ : ∃ q, s k = q := ⟨_, rfl⟩
      have HQ := Lib.hid hq
      clear hq
      gi_wp2
      refine ⟨trivial, (fun h => by cases h), (callsIn_wide.2 (HAT.out.draw_calls (by omega))).mono ?_⟩
      rintro e w2 ⟨he, hat, ho⟩
      rw [HQ.out] at he
      subst he
      have HAT2 := Lib.hid hat
      have hn2 : w2.cell? ⟨bn, 0, none⟩ = some (.int .i64 n0) := ho.cell hn1 (fun h => by have : bn < hi := h.2; omega)
      have hs2 : w2.cell? ⟨bs, 0, none⟩ = some (.iface T (.pointer (some a))) := ho.cell hs1 (fun h => by have : bs < hi := h.2; omega)
      obtain ⟨fn, tmps, assign, body, hy, hR⟩ := HY.out (told s k) q wr w2 HJS.out ho (by rw [told_length]; exact hlt) trivial
      have HRD := Lib.hid hR
      have htold : told s k ++ [q] = told s (k + 1) := by rw [told_succ, HQ.out]
      have HTD := Lib.hid htold
      clear hat ho hR htold
      gi_wp2
      refine ⟨(fun h => by cases h), HRD.out.mono ?_⟩
      rintro e W3 (⟨rfl, hJ3, hk3⟩ | ⟨rfl, hJx3, hk3⟩)
      · have HJ3 := Lib.hid hJ3
        have HAT3 := Lib.hid (HAT2.out.only hk3 fun b h1 h2 hne => hne (.inl ⟨h1, h2⟩))
        have hn3 : W3.cell? ⟨bn, 0, none⟩ = some (.int .i64 n0) := Only.cell hk3 hn2 (fun h => h (.inr (.inl rfl)))
        have hs3 : W3.cell? ⟨bs, 0, none⟩ = some (.iface T (.pointer (some a))) := Only.cell hk3 hs2 (fun h => h (.inr (.inr rfl)))
        clear hJ3 hk3
        gi_wp2
        go_roundw
        case rel => exact ⟨k + 1, by omega, by simp, by rw [← HTD.out]; exact HJ3.out, HAT3.out, hn3, hs3⟩
        case measure => simp [intOf]; omega
      · have HJ3 := Lib.hid hJx3
        have HAT3 := Lib.hid (HAT2.out.only hk3 fun b h1 h2 hne => hne (.inl ⟨h1, h2⟩))
        clear hJx3 hk3
        gi_wp2
        refine bodyPost_ret (results_none rfl _ _ _) rfl ?_
        exact ⟨⟨_, rfl⟩, .inr ⟨_, ⟨k + 1, by omega, by omega, rfl, HAT3.out⟩, by rw [← HTD.out]; exact HJ3.out⟩⟩
    · obtain rfl : k = n := by have := HNN.out; omega
      have hlt0' : decide ((k : Int) < n0) = false := decide_eq_false hlt0
      gi_wp2
      go_end0
      exact ⟨⟨_, rfl⟩, .inl ⟨_, ⟨rfl, HAT.out⟩, HJS.out⟩⟩

theorem Draws_calls (T : TypeId) (p : Value) (n : Int) (w : World) :
    Calls Tryz.prog 20 #[.iface T p, .int .i64 n] w fun e w' => e = .returned (.func (.func 58) #[] #[.pointer (some ⟨w.heap.size + 1, 0, none⟩), .pointer (some ⟨w.heap.size, 0, none⟩)]) ∧ w' = (w.alloc (.cells #[.iface T p] 46)).alloc (.cells #[.int .i64 n] 3) := by
  go_enter Tryz.func20, Tryz.ntmps20
  go_wp2_with fail
  go_ret
  exact ⟨rfl, rfl⟩
end Go.Proofs.YticdmglondpgaaaGreat
