
/-
  Numbers, and where they stand (law08.pairs); the document's first few (ref08.First); a selector's last pair. Conditions: the slices read as the lists; no more than a million.
-/
import Derived.Test.YtacgkoclammggaaKeepQ
import Derived.Test.YtacgkoclammggaaLstQ
import Derived.Test.YtacgkoclammggaaLaw08
namespace Go.Proofs.Ytacgkoclammggaa
open Go.RowKit
set_option linter.unusedVariables false
set_option maxRecDepth 100000
set_option linter.unusedSimpArgs false

theorem OwnF.lo {w : World} {base : Nat} {e : TypeId} {q : Nat} {f : Int × Int → List Value} {A : Option Addr} {n c : Nat} {xs : List (Int × Int)} (h : OwnF w base e q f (.slice A n c) xs) (ad : Addr) (ha : A = some ad) : base ≤ ad.block := by
  rcases h.2 with ⟨h1, _⟩ | ⟨g, cap, cur, h1, hb, _⟩
  · injection h1 with h1
    rw [h1] at ha
    cases ha
  · injection h1 with h1
    rw [h1] at ha
    injection ha with ha
    rw [← ha]
    exact hb
theorem RdP.only {w w' : World} {S : Nat → Prop} {k0 k1 : IntKind} {A : Option Addr} {xs : List (Int × Int)} (h : RdP w k0 k1 A xs) (ho : Only S w w') (hs : ∀ ad, A = some ad → ¬ S ad.block) : RdP w' k0 k1 A xs :=
  ⟨h.1, fun j hj => by
    obtain ⟨ad, e, h0, h1⟩ := h.2 j hj
    have hb : ∀ i, (ad.add i).block = ad.block := fun i => by unfold Addr.add; split <;> rfl
    exact ⟨ad, e, ho.cell h0 (by rw [hb]; exact hs ad e), ho.cell h1 (by rw [hb]; exact hs ad e)⟩⟩
theorem SLastQ_calls (s : Sl) (most nx : Int) (L : List (Int × Int × Int)) (w : World) (h : SelQ w s most nx L) :
    Calls Try.prog 55 #[.pointer (some ⟨s.bs, 0, none⟩)] w fun e w' => e = .returned (.tuple #[.agg #[.int .i64 (lastQ L).1, .int .i64 (lastQ L).2], .bool (isQ L)]) ∧ Below w.heap.size w w' := by
  cases L with
  | nil => exact SLastQ_none s most nx w h
  | cons z r =>
    obtain ⟨z0, z1, z2⟩ := z
    exact SLastQ_some s most nx z0 z1 z2 r w h
set_option maxHeartbeats 3200000 in
set_option maxRecDepth 1000000 in
theorem pairs_calls (A : Option Addr) (c : Nat) (l : List Int) (w : World) (ha : Rd w .i64 A l) (hl : l.length ≤ 100000) :
    Calls Try.prog 49 #[.slice A l.length c] w fun e w' => ∃ v, e = .returned v ∧ OwnF w' w.heap.size 80 2 twoP v (prs 0 l) ∧ Below w.heap.size w w' := by
  have KA := Lib.hid ha
  clear ha
  obtain ⟨N, hN⟩ : ∃ N, l.length = N := ⟨_, rfl⟩
  have HN := Lib.hid hN
  rw [hN] at hl ⊢
  clear hN
  go_enter Try.func49, Try.ntmps49
  go_wp2_with fail
  go_loopg [3, 4] N (fun kq v3 v4 w' => kq ≤ N ∧ v4 = .int .i64 ((N - kq : Nat) : Int) ∧ OwnF w' w.heap.size 80 2 twoP v3 (prs 0 (l.take (N - kq))) ∧ Below w.heap.size w w')
  case atStart => exact ⟨Nat.le_refl _, by simp, by simp [prs]; exact OwnF.nil _ _ _, Below.refl _ _⟩
  case round =>
    obtain ⟨hkq, rfl, hO, hB⟩ := hrel
    have HB := Lib.hid hB
    clear hB
    cases gk with
    | zero =>
      simp only [Nat.sub_zero] at hO ⊢
      rw [List.take_of_length_le (by rw [HN.out]; exact Nat.le_refl _)] at hO
      have HO := Lib.hid hO
      clear hO
      have hlt0 : ¬ ((N : Int) < (N : Int)) := by omega
      go_wp2_with fail
      go_ret
      exact ⟨_, rfl, HO.out, HB.out⟩
    | succ k1 =>
      obtain ⟨i, hi⟩ : ∃ i, N - (k1 + 1) = i := ⟨_, rfl⟩
      have hi2 : N - k1 = i + 1 := by omega
      have HI := Lib.hid hi2
      have hiN : i < N := by omega
      have bi : (i : Int) < (N : Int) := by omega
      rw [hi] at hO ⊢
      clear hi hi2
      obtain ⟨P, hP⟩ : ∃ P, prs 0 (l.take i) = P := ⟨_, rfl⟩
      have hPl : P.length = i := by rw [← hP, prs_length, List.length_take, HN.out]; omega
      obtain ⟨x, hx⟩ : ∃ x, l.getD i 0 = x := ⟨_, rfl⟩
      have hP1 : prs 0 (l.take (i + 1)) = P ++ [(x, (i : Int))] := by
        rw [List.take_add_one, getF (d := (0 : Int)) (by rw [HN.out]; exact hiN), hx, Option.toList_some, prs_snoc, hP, Nat.zero_add, List.length_take, HN.out, Nat.min_eq_left (by omega)]
      rw [hP] at hO
      obtain ⟨Ao, co, rfl, hoc⟩ := hO.shape
      rw [hPl] at hO hoc ⊢
      obtain ⟨ad, rfl, hca⟩ := (KA.out.below HB.out).2 i (by rw [HN.out]; exact hiN)
      rw [hx] at hca
      have HO := Lib.hid hO
      have HP1 := Lib.hid hP1
      have HPL := Lib.hid hPl
      have hzw := HB.out.size
      clear hP hP1 hPl hx hO
      go_wp2_with (first
        | (at_builtin; refine wpList_appF (q := 2) (f := twoP) _ rfl (.tmp 11) (.tmp 18) 82 80 rfl (.agg #[.int .i64 0, .int .i64 0]) 16 Try.underlying82 infoP rfl (by omega) (by omega) twoP_q twoP_one w.heap.size (.slice Ao i co) P rfl (some ⟨wr.heap.size, 0, none⟩) 1 [(x, (i : Int))] rfl (HO.out.alloc1 _) w (below_alloc1 HB.out _) (by rw [World.size_alloc]; omega) (RdC.block (cs := #[.int .i64 x, .int .i64 (i : Int)]) (heap_alloc_new _ _)) (by have := HPL.out; simp; omega) ?_; intro v6 W5 hown hgrow hbel hat hnil; obtain ⟨A6, c6, hv6, _⟩ := hown.shape; subst hv6; have HO6 := Lib.hid hown; have HB6 := Lib.hid hbel; clear hown hgrow hbel hat hnil))
      go_roundg k1
      case measure => omega
      case rel => exact ⟨by omega, by rw [HI.out]; simp, by rw [HI.out, HP1.out]; have h := HO6.out; rw [List.length_append, List.length_singleton] at h; exact h, HB6.out⟩
set_option maxHeartbeats 3200000 in
set_option maxRecDepth 1000000 in
theorem First_calls (A : Option Addr) (c : Nat) (l : List (Int × Int)) (most : Int) (w : World) (ha : RdP w .i64 .i64 A l) (hl : l.length ≤ 100000) :
    Calls Try.prog 51 #[.slice A l.length c, .int .i64 most] w fun e w' => ∃ A' c', e = .returned (.slice A' ((sortI ltP (0, 0) l).take most.toNat).length c') ∧ RdP w' .i64 .i64 A' ((sortI ltP (0, 0) l).take most.toNat) ∧ (∀ ad, A' = some ad → w.heap.size ≤ ad.block) ∧ Below w.heap.size w w' := by
  have hs := SortP_calls A c l w ha (by omega)
  obtain ⟨T, hT⟩ : ∃ T, sortI ltP (0, 0) l = T := ⟨_, rfl⟩
  have hTl : T.length = l.length := by rw [← hT, sortI_length]
  rw [hT] at hs ⊢
  have HS := Lib.hid hs
  obtain ⟨n, hn⟩ : ∃ n, T.length = n := ⟨_, rfl⟩
  have hn1 : n ≤ 100000 := by omega
  have HN := Lib.hid hn
  clear hs hT hTl hn
  go_enter Try.func51, Try.ntmps51
  go_wp2_with fail
  refine HS.out.mono ?_
  rintro e w1 ⟨v, he, hO, hB⟩
  subst he
  obtain ⟨A1, c1, rfl, hc1⟩ := hO.shape
  rw [HN.out] at hO hc1 ⊢
  have HR := Lib.hid (hO.rdp rfl)
  have HAB := Lib.hid (show ∀ ad, A1 = some ad → w.heap.size ≤ ad.block from fun ad h => hO.lo ad h)
  have HB := Lib.hid hB
  clear hO hB
  by_cases h0 : most < 0
  · go_wp2_with fail
    go_ret
    have e0 : T.take most.toNat = [] := by rw [show most.toNat = 0 by omega]; simp
    refine ⟨none, 0, ?_, ?_, (fun ad h => by cases h), HB.out⟩
    · rw [e0]; rfl
    · rw [e0]; exact RdP.nil _ _ _ _
  · by_cases h1 : (n : Int) < most
    · go_wp2_with fail
      go_ret
      have e1 : T.take most.toNat = T := List.take_of_length_le (by rw [HN.out]; omega)
      refine ⟨A1, c1, ?_, ?_, HAB.out, HB.out⟩
      · rw [e1, HN.out]; rfl
      · rw [e1]; exact HR.out
    · obtain ⟨m, rfl⟩ : ∃ m : Nat, most = (m : Int) := ⟨most.toNat, by omega⟩
      have hmn : m ≤ n := by omega
      have hmc : m ≤ c1 := by omega
      go_wp2_with fail
      go_ret
      have e2 : (T.take m).length = m := by rw [List.length_take, HN.out]; omega
      refine ⟨A1, c1, ?_, ?_, HAB.out, HB.out⟩
      · rw [Int.toNat_natCast, e2]; rfl
      · rw [Int.toNat_natCast]; exact HR.out.take m
end Go.Proofs.Ytacgkoclammggaa
