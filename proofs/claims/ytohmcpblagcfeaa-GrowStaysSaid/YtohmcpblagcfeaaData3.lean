
/-
  The iterator of all items, and a row of lists that is the call's own. Condition: the blocks are as the words say.
-/
import Derived.Test.YtohmcpblagcfeaaData2
namespace Go.Proofs.Ytohmcpblagcfeaa
open Go.RowKit
set_option linter.unusedVariables false
set_option maxRecDepth 100000
set_option linter.unusedSimpArgs false
attribute [local go_sem] Oper.semAt_some

theorem DAll_calls (b : Nat) (w : World) :
    Calls Try.prog 40 #[.pointer (some ⟨b, 0, none⟩)] w fun e w' => e = .returned (.func (.func 60) #[] #[.pointer (some ⟨w.heap.size, 0, none⟩)]) ∧ w' = w.alloc (.cells #[.pointer (some ⟨b, 0, none⟩)] 28) := by
  go_enter Try.func40, Try.ntmps40
  go_wp2_with fail
  go_ret
  exact ⟨rfl, rfl⟩
/-- The caller keeps what was before it, and the box. -/
def KpD (n0 bX : Nat) (A B : World) : Prop := Only (fun k => ¬ (k < n0 ∨ k = bX)) A B
theorem KpD.putObj {W : World} {n0 bX k : Nat} {o' : Obj} (h0 : n0 ≤ k) (h1 : k ≠ bX) : KpD n0 bX W (W.putObj k o') :=
  ⟨rfl, rfl, rfl, by simp, fun j _ hk => World.putObj_heap_other fun e => hk fun h => by omega⟩
abbrev DX := Int × Option Addr × Nat × Nat
/-- What is yielded: the next number, and that item's list in new memory. -/
def XD (rows : List (List Int)) (pre : List DX) (x : DX) (A0 W : World) : Prop :=
  x.1 = pre.length ∧ x.2.2.1 = (rows.getD pre.length []).length ∧ x.2.2.1 ≤ x.2.2.2 ∧ Own W A0.heap.size 21 .i32 (.slice x.2.1 x.2.2.1 x.2.2.2) (rows.getD pre.length [])
theorem XD.putObj {rows : List (List Int)} {n : Nat} (pre : List DX) (x : DX) (A0 W : World) (o' : Obj) (hz : n + 2 ≤ A0.heap.size) (h : XD rows pre x A0 W) : XD rows pre x A0 (W.putObj (n + 1) o') := by
  obtain ⟨h1, h2, h3, h4⟩ := h
  have ho : Only (fun k => k = n + 1) W (W.putObj (n + 1) o') := ⟨rfl, rfl, rfl, by simp, fun j _ hk => World.putObj_heap_other hk⟩
  exact ⟨h1, h2, h3, h4.only ho fun b hb h => by have := (h4.lt b hb).1; omega⟩
set_option maxHeartbeats 1600000 in
theorem ditems_iter (m bX b dim : Nat) (rows : List (List Int)) (w0 w : World) (hw : Below w0.heap.size w0 w) (hit : It w0 b dim rows) (hbX : w.heap[bX]? = some (.cells #[.pointer (some ⟨b, 0, none⟩)] 28 (0, 0))) :
    IterD Fence.wide m Try.prog 60 #[.pointer (some ⟨bX, 0, none⟩)] (fun x : DX => #[.int .i64 x.1, .slice x.2.1 x.2.2.1 x.2.2.2]) (fun _ => False) (KpD w0.heap.size bX) (XD rows)
      (fun xs W => xs.length = rows.length) (fun xs W => True) rows.length w := by
  intro lp J Jx W hW hJ hJx hY h0
  refine callsIn_of_wp Try.func60 rfl trivial ?_ rfl
  simp only [Try.ntmps60, List.size_toArray, List.length_cons, List.length_nil, Nat.reduceAdd, Nat.reduceSub, Array.replicate_succ, Array.replicate_zero, List.push_toArray, List.append_toArray, List.nil_append, List.cons_append]
  have hX0 := obj_below hW hbX (obj_lt hbX)
  have hcX0 : W.cell? ⟨bX, 0, none⟩ = some (.pointer (some ⟨b, 0, none⟩)) := by simp [World.cell?, hX0]
  have hB0 : Below w0.heap.size w0 W := hw.trans (hW.mono hw.size)
  have HJ := Lib.hid hJ
  have HJX := Lib.hid hJx
  have HY := Lib.hid hY
  have H0 := Lib.hid h0
  have HIT := Lib.hid hit
  have HX0 := Lib.hid hX0
  have hrl := hit.2.2.2.1
  obtain ⟨n, hn⟩ : ∃ n, rows.length = n := ⟨_, rfl⟩
  rw [hn] at hrl
  have HN := Lib.hid hn
  clear hJ hJx hY h0 hit hX0 hbX
  have hlenc := Len_calls b dim rows W (HIT.out.below hB0)
  rw [hn] at hlenc
  have HLC := Lib.hid hlenc
  clear hlenc hn
  gi_wp2
  refine ⟨trivial, (fun h => by cases h), (callsIn_wide.2 HLC.out).mono ?_⟩
  rintro e _ ⟨he, q0, rfl⟩
  subst he
  have hoq : Only (fun _ => False) W (W.drewN q0) := Only.of_below (below_drewN_self W q0)
  have hJ0 := HJ.out _ _ _ H0.out hoq
  have HJ0 := Lib.hid hJ0
  have hB1 : Below w0.heap.size w0 (W.drewN q0) := below_drewN hB0 q0
  clear hJ0 HLC hB0
  gi_wp2
  gi_loopw [6] (fun v6 wr => ∃ k : Nat, k ≤ n ∧ v6 = .int .i64 k ∧ ∃ pre : List DX, pre.length = k ∧ J pre wr ∧ Below w0.heap.size w0 wr ∧ wr.heap[bX]? = some (.cells #[.pointer (some ⟨b, 0, none⟩)] 28 (0, 0))) (fun v6 _ => n - (intOf v6).toNat)
  case atStart => exact ⟨0, Nat.zero_le _, rfl, [], rfl, HJ0.out, hB1, HX0.out⟩
  case round =>
    clear HX0 H0 HJ0 hcX0 hB1
    obtain ⟨k, hk, rfl, pre, hpl, hJs, hB, hX⟩ := hrel
    have HPL := Lib.hid hpl
    have HJS := Lib.hid hJs
    have hx0 : wr.cell? ⟨bX, 0, none⟩ = some (.pointer (some ⟨b, 0, none⟩)) := by simp [World.cell?, hX]
    have HX := Lib.hid hX
    clear hpl hJs hX
    by_cases hlt : k < n
    · have hlt0' : decide ((k : Int) < (n : Int)) = true := decide_eq_true (by omega)
      have hkr : k < rows.length := by rw [HN.out]; exact hlt
      have hrlen := HIT.out.rowlen k hkr
      have hdim := HIT.out.2.1
      have hrc := row_calls b dim rows k wr (HIT.out.below hB) hkr
      obtain ⟨r, hr⟩ : ∃ r, rows.getD k [] = r := ⟨_, rfl⟩
      rw [hr] at hrc hrlen
      have hrl4 : r.length ≤ 1024 := by omega
      clear hrlen
      have HRC := Lib.hid hrc
      have HR := Lib.hid hr
      clear hrc hr hkr
      gi_wp2
      refine ⟨trivial, (fun h => by cases h), (callsIn_wide.2 HRC.out).mono ?_⟩
      rintro e _ ⟨ad, c, he, hlc, hrd, q1, rfl⟩
      subst he
      have HRD := Lib.hid hrd
      clear hrd HRC
      gi_wp2
      refine ⟨trivial, (fun h => by cases h), (callsIn_wide.2 (Clone_calls (some ad) c r _ HRD.out (by omega))).mono ?_⟩
      rintro e w2 ⟨v, he, hown, _, hbn⟩
      subst he
      obtain ⟨A1, c1, rfl, hc1, _⟩ := hown.shape
      have hB2w : Below wr.heap.size wr w2 := (below_drewN_self wr q1).trans (hbn.mono (by simp))
      have hoA : Only (fun _ => False) wr w2 := Only.of_below hB2w
      have hown' : Own w2 wr.heap.size 21 .i32 (.slice A1 r.length c1) r := hown
      obtain ⟨fn, tmps, assign, body, hy, hR⟩ := HY.out pre (((k : Nat) : Int), A1, r.length, c1) wr w2 HJS.out hoA (by rw [HPL.out, HN.out]; exact hlt) ⟨by rw [HPL.out], by rw [HPL.out, HR.out], hc1, by rw [HPL.out, HR.out]; exact hown'⟩
      have HRR := Lib.hid hR
      have HX2 := Lib.hid (obj_below hB2w HX.out (obj_lt HX.out))
      have hB2 : Below w0.heap.size w0 w2 := hB.trans (hB2w.mono hB.size)
      clear hown hown' hoA hbn hR HX hB2w
      gi_wp2
      refine ⟨(fun h => by cases h), HRR.out.mono ?_⟩
      rintro e W3 (⟨rfl, hJ3, hk3⟩ | ⟨rfl, hJx3, hk3⟩)
      · have HJ3 := Lib.hid hJ3
        have hB3 : Below w0.heap.size w0 W3 := hB2.trans (Only.below hk3 hB2.size fun k hk h => h (.inl hk))
        have HX3 := Lib.hid (Only.obj hk3 HX2.out fun h => h (.inr rfl))
        clear hJ3 hk3
        gi_wp2
        go_roundw
        case rel => exact ⟨k + 1, by omega, by simp, _, by simp [HPL.out], HJ3.out, hB3, HX3.out⟩
        case measure => simp [intOf]; omega
      · have HJ3 := Lib.hid hJx3
        clear hJx3 hk3
        gi_wp2
        refine bodyPost_ret (results_none rfl _ _ _) rfl ?_
        exact ⟨⟨_, rfl⟩, .inr ⟨_, trivial, HJ3.out⟩⟩
    · obtain rfl : k = n := by omega
      have hlt0' : decide ((k : Int) < (k : Int)) = false := decide_eq_false (by omega)
      gi_wp2
      go_end0
      exact ⟨⟨_, rfl⟩, .inl ⟨_, by rw [HPL.out, HN.out], HJS.out⟩⟩
end Go.Proofs.Ytohmcpblagcfeaa
