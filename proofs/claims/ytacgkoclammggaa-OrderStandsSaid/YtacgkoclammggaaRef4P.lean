
/-
  The document's answer of layer 4 (shelterbeltref04.Pair): its order, sort and sameness. Condition: no more than a million things.
-/
import Derived.Test.YtacgkoclammggaaTwo
import Derived.Test.YtacgkoclammggaaLaw4
import Derived.Test.YtacgkoclammggaaPairs
import Derived.Test.YtacgkoclammggaaSortI
import Derived.BigRegion
import Derived.Deep.RegionHeld3
namespace Go.Proofs.Ytacgkoclammggaa
open Go.RowKit
set_option linter.unusedVariables false
set_option maxRecDepth 100000
set_option linter.unusedSimpArgs false

def twoP (p : Int × Int) : List Value := [.int .i64 p.1, .int .i64 p.2]
theorem twoP_q (p : Int × Int) : (twoP p).length = 2 := rfl
theorem twoP_one (p : Int × Int) : ∀ u ∈ twoP p, u.oneCell' = true := by
  intro u hu
  simp [twoP] at hu
  rcases hu with rfl | rfl <;> rfl
def ltP (a b : Int × Int) : Bool := lessB a.1 a.2 b.1 b.2
theorem infoP : (Try.prog.info? 80).map (fun i => (i.zero, i.size, i.bytes)) = some (some (.agg #[.int .i64 0, .int .i64 0]), 2, 16) := by kernel_rfl
theorem ltP_iff (a b : Int × Int) : ltP a b = true ↔ a.1 < b.1 := by unfold ltP lessB; rw [decide_eq_true_iff]
theorem ltP_no (a b : Int × Int) : ltP a b = false ↔ ¬ a.1 < b.1 := by rw [← ltP_iff, Bool.not_eq_true]
theorem ltP_wo : WO ltP := ⟨fun a b h => by rw [ltP_iff] at h; rw [ltP_no]; omega, fun a b c h1 h2 => by rw [ltP_no] at *; omega⟩
theorem two_addP (ad : Addr) (i : Nat) (w : World) : w.cell? ⟨(ad.add (i * 2)).block, (ad.add (i * 2)).off + 1, none⟩ = w.cell? (ad.add (i * 2 + 1)) := by rw [← Addr.add_add]; rfl
/-! ### the same ones -/
set_option maxHeartbeats 1600000 in
theorem SameP_calls (A B : Option Addr) (c d : Nat) (xs ys : List (Int × Int)) (w : World) (ha : RdP w .i64 .i64 A xs) (hb : RdP w .i64 .i64 B ys) :
    Calls Try.prog 53 #[.slice A xs.length c, .slice B ys.length d] w fun e w' => e = .returned (.bool (decide (xs = ys))) ∧ ∃ n, w' = w.drewN n := by
  have KA := Lib.hid ha
  have KB := Lib.hid hb
  have lA := ha.1
  clear ha hb
  by_cases hl : xs.length = ys.length
  · obtain ⟨n, hn⟩ : ∃ n, ys.length = n := ⟨_, rfl⟩
    rw [hn] at hl
    have HX := Lib.hid hl
    have HY := Lib.hid hn
    rw [hl] at lA
    rw [hl, hn]
    have hnn : ((n : Int) != (n : Int)) = false := by simp
    clear hl hn
    go_enter Try.func53, Try.ntmps53
    go_wp2_with fail
    go_loopg [5] n (fun kq v5 w' => kq ≤ n ∧ v5 = .int .i64 ((n - kq : Nat) : Int) ∧ (∀ j, j < n - kq → xs.getD j (0, 0) = ys.getD j (0, 0)) ∧ ∃ q, w' = w.drewN q)
    case atStart => exact ⟨Nat.le_refl _, by simp, fun j hj => by omega, 0, rfl⟩
    case round =>
      obtain ⟨hk, rfl, hpre, q, hwq⟩ := hrel
      have HP := Lib.hid hpre
      have hbel : Below w.heap.size w wr := by rw [hwq]; exact below_drewN_self w q
      have HW := Lib.hid hwq
      clear hpre hwq
      cases gk with
      | zero =>
        simp only [Nat.sub_zero] at HP ⊢
        have hlt0 : ¬ ((n : Int) < (n : Int)) := by omega
        go_wp2_with fail
        go_ret
        refine ⟨ret_bool ?_, q, HW.out⟩
        symm
        rw [decide_eq_true_iff]
        refine List.ext_getElem (by rw [HX.out, HY.out]) fun j h1 h2 => ?_
        have := HP.out j (by have := HX.out; omega)
        simpa [List.getD, h1, h2] using this
      | succ k1 =>
        obtain ⟨i, hi⟩ : ∃ i, n - (k1 + 1) = i := ⟨_, rfl⟩
        have hi2 : n - k1 = i + 1 := by omega
        have HI := Lib.hid hi2
        have hlt : i < n := by omega
        rw [hi] at HP ⊢
        obtain ⟨ad, rfl, hca0, hca1⟩ := (KA.out.below hbel).2 i (by rw [HX.out]; exact hlt)
        obtain ⟨bd, rfl, hcb0, hcb1⟩ := (KB.out.below hbel).2 i (by rw [HY.out]; exact hlt)
        obtain ⟨⟨x0, x1⟩, hx⟩ : ∃ x, xs.getD i (0, 0) = x := ⟨_, rfl⟩
        obtain ⟨⟨y0, y1⟩, hy⟩ : ∃ y, ys.getD i (0, 0) = y := ⟨_, rfl⟩
        rw [hx] at hca0 hca1
        rw [hy] at hcb0 hcb1
        rw [← two_addP] at hca1 hcb1
        have HXE := Lib.hid hx
        have HYE := Lib.hid hy
        clear hi hi2 hx hy
        rcases (by by_cases h0 : x0 = y0 <;> by_cases h1 : x1 = y1 <;> simp [h0, h1] : (x0 = y0 ∧ x1 = y1) ∨ ¬ x0 = y0 ∨ (x0 = y0 ∧ ¬ x1 = y1)) with hc | hc | hc
        · obtain ⟨rfl, rfl⟩ := hc
          go_wp2_with fail
          go_quiet (fail)
          go_wp2_with fail
          go_roundg k1
          case measure => omega
          case rel =>
            refine ⟨by omega, by rw [HI.out]; rfl, fun j hj => ?_, q + nq, by rw [HW.out, World.drewN_drewN]⟩
            rw [HI.out] at hj
            rcases Nat.lt_or_ge j i with h | h
            · exact HP.out j h
            · obtain rfl : j = i := by omega
              rw [HXE.out, HYE.out]
        · have nc0 : ¬ y0 = x0 := fun h => hc h.symm
          go_wp2_with fail
          go_quiet (fail)
          go_wp2_with fail
          go_ret
          refine ⟨ret_bool ?_, q + nq, by rw [HW.out, World.drewN_drewN]⟩
          symm
          rw [decide_eq_false_iff_not]
          intro e
          have h1 := HXE.out
          rw [e, HYE.out] at h1
          injection h1 with h1 h2
          exact nc0 h1
        · obtain ⟨rfl, hc⟩ := hc
          have nc1 : ¬ y1 = x1 := fun h => hc h.symm
          go_wp2_with fail
          go_quiet (fail)
          go_wp2_with fail
          go_ret
          refine ⟨ret_bool ?_, q + nq, by rw [HW.out, World.drewN_drewN]⟩
          symm
          rw [decide_eq_false_iff_not]
          intro e
          have h1 := HXE.out
          rw [e, HYE.out] at h1
          injection h1 with h1 h2
          exact nc1 h2
  · have hne : ((xs.length : Int) != (ys.length : Int)) = true := by
      rw [bne_iff_ne]
      omega
    obtain ⟨n, hn⟩ : ∃ n, xs.length = n := ⟨_, rfl⟩
    obtain ⟨m, hm⟩ : ∃ m, ys.length = m := ⟨_, rfl⟩
    have hf : decide (xs = ys) = false := decide_eq_false fun e => hl (by rw [e])
    rw [hn, hm] at hne
    rw [hn, hm, hf]
    clear hl hn hm hf lA
    go_enter Try.func53, Try.ntmps53
    go_wp2_with fail
    go_ret
    exact ⟨rfl, 0, rfl⟩
/-! ### sort -/
theorem OwnF.empty_at {α : Type} {f : α → List Value} {q : Nat} (W : World) (e : TypeId) (n base : Nat) (hn : W.heap.size = n) (hb : base ≤ n) : OwnF (W.alloc (.cells #[] e)) base e q f (.slice (some ⟨n, 0, none⟩) 0 0) [] := by
  subst hn
  refine ⟨by simp, .inr ⟨_, 0, #[], rfl, hb, heap_alloc_new W _, Nat.le_refl _, by unfold maxLen; omega, by simp, by simp⟩⟩
theorem RdC.two_at (W : World) (u v : Value) (e : TypeId) (n : Nat) (hn : W.heap.size = n) : RdC (W.alloc (.cells #[u, v] e)) (some ⟨n, 0, none⟩) [u, v] := by
  subst hn
  exact RdC.block (cs := #[u, v]) (heap_alloc_new W _)
/-- What lies at the head, and behind place k. -/
theorem OwnF.head {α : Type} {f : α → List Value} {q : Nat} {w : World} {base : Nat} {e : TypeId} {g n c k : Nat} {xs : List α} (hq : ∀ x, (f x).length = q) (h : OwnF w base e q f (.slice (some ⟨g, 0, none⟩) n c) xs) (hk : k ≤ n) : RdC w (some ⟨g, 0, none⟩) ((xs.take k).flatMap f) := by
  obtain ⟨A1, c1, he, _⟩ := h.shape
  injection he with e1 e2 e3
  subst e2 e3
  rcases h.2 with ⟨h1, _⟩ | ⟨g', cap, cur, h1, hb, hg, hc, _, hs, ht⟩
  · injection h1 with h1; cases h1
  · injection h1 with h1 h2 h3
    injection h1 with h1
    injection h1 with h1
    subst h1
    refine fun j u hu => ⟨_, rfl, ?_⟩
    have hcat : (xs.take k).flatMap f ++ (xs.drop k).flatMap f = xs.flatMap f := by rw [← List.flatMap_append, List.take_append_drop]
    have hj := (List.getElem?_eq_some_iff.1 hu).1
    have h5 : (xs.flatMap f)[j]? = some u := by rw [← hcat, List.getElem?_append_left hj]; exact hu
    have hjl := (List.getElem?_eq_some_iff.1 h5).1
    rw [cellsF_length hq] at hjl
    rw [add_plain]
    rw [← ht] at h5
    rw [List.getElem?_take_of_lt hjl] at h5
    simp only [World.cell?, hg]
    simpa using h5
theorem OwnF.tail {α : Type} {f : α → List Value} {q : Nat} {w : World} {base : Nat} {e : TypeId} {g n c k : Nat} {xs : List α} (hq : ∀ x, (f x).length = q) (h : OwnF w base e q f (.slice (some ⟨g, 0, none⟩) n c) xs) (hk : k ≤ n) : RdC w (some ⟨g, k * q, none⟩) ((xs.drop k).flatMap f) := by
  obtain ⟨A1, c1, he, _⟩ := h.shape
  injection he with e1 e2 e3
  subst e2 e3
  rcases h.2 with ⟨h1, _⟩ | ⟨g', cap, cur, h1, hb, hg, hc, _, hs, ht⟩
  · injection h1 with h1; cases h1
  · injection h1 with h1 h2 h3
    injection h1 with h1
    injection h1 with h1
    subst h1
    refine fun j u hu => ⟨_, rfl, ?_⟩
    have hcat : (xs.take k).flatMap f ++ (xs.drop k).flatMap f = xs.flatMap f := by rw [← List.flatMap_append, List.take_append_drop]
    have hlt : ((xs.take k).flatMap f).length = k * q := by rw [cellsF_length hq, List.length_take, Nat.min_eq_left hk]
    have h5 : (xs.flatMap f)[k * q + j]? = some u := by rw [← hcat, List.getElem?_append_right (by omega), hlt, Nat.add_sub_cancel_left]; exact hu
    have hjl := (List.getElem?_eq_some_iff.1 h5).1
    rw [cellsF_length hq] at hjl
    rw [← ht] at h5
    rw [List.getElem?_take_of_lt hjl] at h5
    have : (⟨g, k * q, none⟩ : Addr).add j = ⟨g, k * q + j, none⟩ := by unfold Addr.add; split <;> simp_all
    rw [this]
    simp only [World.cell?, hg]
    simpa using h5
theorem OwnF.cut {α : Type} {f : α → List Value} {q : Nat} {w : World} {base : Nat} {e : TypeId} {A : Option Addr} {n c k : Nat} {xs : List α} (hq : ∀ x, (f x).length = q) (h : OwnF w base e q f (.slice A n c) xs) (hk : k ≤ n) (hc : n ≤ c) : RdC w A ((xs.take k).flatMap f) ∧ RdC w (if c = k then A else Option.map (fun x => x.add (k * q)) A) ((xs.drop k).flatMap f) := by
  rcases h.2 with ⟨h1, h2⟩ | ⟨g, cap, cur, h1, _⟩
  · have hx : xs = [] := by
      injection h1 with h1 h3 h4
      obtain ⟨A1, c1, he, _⟩ := h.shape
      injection he with e1 e2 e3
      exact List.eq_nil_of_length_eq_zero (by omega)
    subst hx
    exact ⟨fun j u hu => by simp at hu, fun j u hu => by simp at hu⟩
  · injection h1 with h1 h3 h4
    subst h1
    refine ⟨h.head hq hk, ?_⟩
    by_cases hck : c = k
    · have : xs.drop k = [] := by
        obtain ⟨A1, c1, he, _⟩ := h.shape
        injection he with e1 e2 e3
        rw [List.drop_eq_nil_iff]
        omega
      rw [this]
      exact fun j u hu => by simp at hu
    · rw [if_neg hck]
      have := h.tail hq hk
      simpa [add_plain] using this
theorem OwnF.insI {α : Type} {f : α → List Value} {q : Nat} {W : World} {base base' : Nat} {e : TypeId} {v : Value} {lt : α → α → Bool} {d x : α} {out : List α} {p i : Nat} (h : W.ownsRow base e q v (p + 1 + (i - p)) (((out.take p).flatMap f ++ f x) ++ (out.drop p).flatMap f)) (hp : posI lt d x out i = p) (hi : out.length = i) (hb : base' ≤ base) : OwnF W base' e q f v (insI lt d x out) := by
  have hpi : p ≤ i := by rw [← hp]; exact posI_le _ _ _
  have hl : (Go.Proofs.Ytacgkoclammggaa.insI lt d x out).length = p + 1 + (i - p) := by rw [insI_length]; omega
  refine OwnF.low (base := base) ?_ hb
  unfold OwnF
  rw [hl]
  unfold Go.Proofs.Ytacgkoclammggaa.insI
  rw [hi, hp]
  simpa using h
set_option maxHeartbeats 6400000 in
theorem SortP_calls (A : Option Addr) (c : Nat) (l : List (Int × Int)) (w : World) (ha : RdP w .i64 .i64 A l) (hl : l.length ≤ 1000000) :
    Calls Try.prog 62 #[.slice A l.length c] w fun e w' => ∃ v, e = .returned v ∧ OwnF w' w.heap.size 80 2 twoP v (sortI ltP (0, 0) l) ∧ Below w.heap.size w w' := by
  have KA := Lib.hid ha
  clear ha
  go_enter Try.func62, Try.ntmps62
  go_wp2_with fail
  go_loopg [3, 4, 5] l.length (fun kq v3 v4 v5 w' => kq ≤ l.length ∧ v4 = .int .i64 ((l.length - kq : Nat) : Int) ∧ OwnF w' w.heap.size 80 2 twoP v3 (sortI ltP (0, 0) (l.take (l.length - kq))) ∧ Below w.heap.size w w')
  case atStart => exact ⟨Nat.le_refl _, by simp, by simp [sortI]; exact OwnF.nil _ _ _, Below.refl _ _⟩
  case round =>
    obtain ⟨hk, rfl, hO, hB⟩ := hrel
    obtain ⟨out, hout⟩ : ∃ out, sortI ltP (0, 0) (l.take (l.length - gk)) = out := ⟨_, rfl⟩
    have hol : out.length = l.length - gk := by rw [← hout, sortI_length]; simp
    rw [hout] at hO
    have HOUT := Lib.hid hout
    have HB := Lib.hid hB
    clear hout hB
    cases gk with
    | zero =>
      have HO := Lib.hid hO
      clear hO
      simp only [Nat.sub_zero] at HOUT hol ⊢
      have hlt0 : ¬ ((l.length : Int) < (l.length : Int)) := by omega
      go_wp2_with fail
      go_ret
      refine ⟨_, rfl, ?_, HB.out⟩
      have h := HOUT.out
      rw [List.take_of_length_le (Nat.le_refl _)] at h
      rw [h]
      exact HO.out
    | succ k1 =>
      obtain ⟨i, hi⟩ : ∃ i, l.length - (k1 + 1) = i := ⟨_, rfl⟩
      have hi2 : l.length - k1 = i + 1 := by omega
      have HI := Lib.hid hi2
      have hlt : i < l.length := by omega
      rw [hi] at HOUT hol ⊢
      obtain ⟨Ao, co, rfl, hoc⟩ := hO.shape
      rw [hol] at hO hoc ⊢
      have HO := Lib.hid hO
      have HOL := Lib.hid hol
      obtain ⟨ad, rfl, hca0, hca1⟩ := (KA.out.below HB.out).2 i hlt
      obtain ⟨⟨x0, x1⟩, hx⟩ : ∃ x, l.getD i (0, 0) = x := ⟨_, rfl⟩
      rw [hx] at hca0 hca1
      rw [← two_addP] at hca1
      have htk : l.take (i + 1) = l.take i ++ [(x0, x1)] := by rw [← hx, List.take_add_one]; simp [List.getD, hlt]
      have HTK := Lib.hid htk
      obtain ⟨p, hp⟩ : ∃ p, posI ltP (0, 0) (x0, x1) out i = p := ⟨_, rfl⟩
      have hpi : p ≤ i := by rw [← hp]; exact posI_le _ _ _
      have HP := Lib.hid hp
      have hwz := HB.out.size
      have hi6 : i ≤ 1000000 := by omega
      clear hi hi2 hx htk hO hol hp
      obtain ⟨wo, hwo⟩ : ∃ wo : World, wo = wr := ⟨_, rfl⟩
      rw [← hwo] at HB HO hca0 hca1 hwz ⊢
      clear hwo
      go_upto_block 2 with (fail)
      go_cut [5] (fun s5 wx => s5 = .int .i64 ((p : Nat) : Int) ∧ Below wo.heap.size wo wx)
      case first =>
        go_wp2_with fail
        go_loopg [5] i (fun kq v5 w' => kq ≤ i ∧ v5 = .int .i64 ((kq : Nat) : Int) ∧ posI ltP (0, 0) (x0, x1) out kq = p ∧ Below wo.heap.size wo w')
        case atStart => exact ⟨Nat.le_refl _, rfl, HP.out, Below.refl _ _⟩
        case round =>
          clear HP
          obtain ⟨hk, rfl, hp, hB2⟩ := hrel
          cases gk with
          | zero =>
            obtain rfl : p = 0 := hp.symm
            clear hp
            go_wp2_with fail
            go_quiet (fail)
            go_wp2_with fail
            go_meet
            exact ⟨rfl, below_drewN hB2 _⟩
          | succ j =>
            have hpos : decide ((0 : Int) < ((j : Int) + 1)) = true := decide_eq_true (by omega)
            have hjw : IntKind.i64.wrap ((j : Int) + 1 - 1) = (j : Int) := by rw [i64_w, show ((j : Int) + 1 - 1) = (j : Int) by omega]; exact wrap64_id _ (by omega)
            have hjw2 : IntKind.i64.wrap (j : Int) = (j : Int) := by rw [i64_w]; exact wrap64_id _ (by omega)
            obtain ⟨g, ⟨y0, y1⟩, rfl, _, _, hyj, hcy, _, _⟩ := HO.out.at_ twoP_q j (by omega) (by omega)
            have hcy0 : wo.cell? ⟨g, j * 2, none⟩ = some (.int .i64 y0) := hcy 0 (by omega)
            have hcy1 : wo.cell? ⟨g, j * 2 + 1, none⟩ = some (.int .i64 y1) := hcy 1 (by omega)
            have hy : out.getD j (0, 0) = (y0, y1) := by simp [List.getD, hyj]
            have hd0 := cell_below hB2 hca0 (World.block_lt_of_cell? _ _ hca0)
            have hd1 := cell_below hB2 hca1 (World.block_lt_of_cell? _ _ hca1)
            have hz0 := cell_below hB2 hcy0 (World.block_lt_of_cell? _ _ hcy0)
            have hz1 := cell_below hB2 hcy1 (World.block_lt_of_cell? _ _ hcy1)
            have bj : (j : Int) < (i : Int) := by omega
            obtain ⟨r, hr⟩ : ∃ r, lessB x0 x1 y0 y1 = r := ⟨_, rfl⟩
            have HR := Lib.hid hr
            have HPP := Lib.hid hp
            have HY := Lib.hid hy
            have HB2 := Lib.hid hB2
            have hb0 : Below wr.heap.size wr wr := Below.refl _ _
            clear hr hp hy hyj hcy hcy0 hcy1 hca0 hca1 hB2
            cases r with
            | true =>
              go_wp2_with fail
              go_region_held3 (fun w' => w'.cell? (ad.add (i * 2)) = some (.int .i64 x0) ∧ w'.cell? ⟨(ad.add (i * 2)).block, (ad.add (i * 2)).off + 1, none⟩ = some (.int .i64 x1) ∧ w'.cell? ⟨g, j * 2, none⟩ = some (.int .i64 y0) ∧ w'.cell? ⟨g, j * 2 + 1, none⟩ = some (.int .i64 y1) ∧ Below wr.heap.size wr w')
                (first | exact ⟨cell_below (B := wr.heap.size) (w := wr) (by first | ((repeat (first | assumption | exact Below.refl _ _ | apply below_drew1 | apply below_alloc1)); done)) hd0 (World.block_lt_of_cell? _ _ hd0), cell_below (B := wr.heap.size) (w := wr) (by first | ((repeat (first | assumption | exact Below.refl _ _ | apply below_drew1 | apply below_alloc1)); done)) hd1 (World.block_lt_of_cell? _ _ hd1), cell_below (B := wr.heap.size) (w := wr) (by first | ((repeat (first | assumption | exact Below.refl _ _ | apply below_drew1 | apply below_alloc1)); done)) hz0 (World.block_lt_of_cell? _ _ hz0), cell_below (B := wr.heap.size) (w := wr) (by first | ((repeat (first | assumption | exact Below.refl _ _ | apply below_drew1 | apply below_alloc1)); done)) hz1 (World.block_lt_of_cell? _ _ hz1), (by first | ((repeat (first | assumption | exact Below.refl _ _ | apply below_drew1 | apply below_alloc1)); done))⟩ | go_keep)
                (first
                  | (go_at_call 48; go_split_ands; (with_reducible refine (PLess_calls x0 x1 y0 y1 _).mono ?_); rintro e wq ⟨he, hbq⟩; rw [HR.out] at he; subst he; have hbB : Below wr.heap.size wr wq := Below.after (by first | ((repeat (first | assumption | exact Below.refl _ _ | apply below_drew1 | apply below_alloc1)); done)) hbq))
              have HBB := Lib.hid hbB
              clear hbB hbq hb0
              go_wp2_with fail
              go_roundg j
              case measure => omega
              case rel => exact ⟨by omega, rfl, by rw [← HPP.out, posI_step (by rw [HY.out]; exact HR.out)], HB2.out.trans (HBB.out.mono HB2.out.size)⟩
            | false =>
              obtain rfl : p = j + 1 := by rw [← HPP.out, posI_stop (by rw [HY.out]; exact HR.out)]
              go_wp2_with fail
              go_region_held3 (fun w' => w'.cell? (ad.add (i * 2)) = some (.int .i64 x0) ∧ w'.cell? ⟨(ad.add (i * 2)).block, (ad.add (i * 2)).off + 1, none⟩ = some (.int .i64 x1) ∧ w'.cell? ⟨g, j * 2, none⟩ = some (.int .i64 y0) ∧ w'.cell? ⟨g, j * 2 + 1, none⟩ = some (.int .i64 y1) ∧ Below wr.heap.size wr w')
                (first | exact ⟨cell_below (B := wr.heap.size) (w := wr) (by first | ((repeat (first | assumption | exact Below.refl _ _ | apply below_drew1 | apply below_alloc1)); done)) hd0 (World.block_lt_of_cell? _ _ hd0), cell_below (B := wr.heap.size) (w := wr) (by first | ((repeat (first | assumption | exact Below.refl _ _ | apply below_drew1 | apply below_alloc1)); done)) hd1 (World.block_lt_of_cell? _ _ hd1), cell_below (B := wr.heap.size) (w := wr) (by first | ((repeat (first | assumption | exact Below.refl _ _ | apply below_drew1 | apply below_alloc1)); done)) hz0 (World.block_lt_of_cell? _ _ hz0), cell_below (B := wr.heap.size) (w := wr) (by first | ((repeat (first | assumption | exact Below.refl _ _ | apply below_drew1 | apply below_alloc1)); done)) hz1 (World.block_lt_of_cell? _ _ hz1), (by first | ((repeat (first | assumption | exact Below.refl _ _ | apply below_drew1 | apply below_alloc1)); done))⟩ | go_keep)
                (first
                  | (go_at_call 48; go_split_ands; (with_reducible refine (PLess_calls x0 x1 y0 y1 _).mono ?_); rintro e wq ⟨he, hbq⟩; rw [HR.out] at he; subst he; have hbB : Below wr.heap.size wr wq := Below.after (by first | ((repeat (first | assumption | exact Below.refl _ _ | apply below_drew1 | apply below_alloc1)); done)) hbq))
              have HBB := Lib.hid hbB
              clear hbB hbq hb0
              go_wp2_with fail
              go_meet
              exact ⟨rfl, HB2.out.trans (HBB.out.mono HB2.out.size)⟩
      case rest =>
        obtain ⟨rfl, hB2⟩ := hcut
        have hd0 := cell_below hB2 hca0 (World.block_lt_of_cell? _ _ hca0)
        have hd1 := cell_below hB2 hca1 (World.block_lt_of_cell? _ _ hca1)
        have gd0 := fun o => (World.cell?_alloc_lt (o := o) wc _ (World.block_lt_of_cell? _ _ hd0)).trans hd0
        have gd1 := fun o => (World.cell?_alloc_lt (o := o) wc _ (World.block_lt_of_cell? _ _ hd1)).trans hd1
        obtain ⟨hRT, hRD⟩ := (HO.out.keep hB2).cut twoP_q hpi hoc
        have RT := Lib.hid hRT
        have RD := Lib.hid hRD
        have bp1 : (p : Int) ≤ (i : Int) := by omega
        have bp2 : (p : Int) ≤ (co : Int) := by omega
        have bp3 : (0 : Int) ≤ (p : Int) := by omega
        have bi : (i : Int) < (l.length : Int) := by omega
        have hlt1 : ((out.take p).flatMap twoP).length = p * 2 := by rw [cellsF_length twoP_q, List.length_take, HOL.out, Nat.min_eq_left hpi]
        have hlt2 : ((out.drop p).flatMap twoP).length = (i - p) * 2 := by rw [cellsF_length twoP_q, List.length_drop, HOL.out]
        have HL1 := Lib.hid hlt1
        have HL2 := Lib.hid hlt2
        have HB2 := Lib.hid hB2
        clear hRT hRD hlt1 hlt2 hca0 hca1 hB2
        go_wp2_with fail
        go_region_law
          (first
            | (refine step_app _ (by rfl) (.tmp 30) (.tmp 33) 82 80 (by rfl) (.agg #[.int .i64 0, .int .i64 0]) 2 16 Try.underlying82 infoP rfl (by omega) (by omega) wc.heap.size (.slice (some ⟨_, 0, none⟩) 0 0) 0 ([] : List Value) (by rfl) Ao p co (by rfl) (by repeat (first | with_reducible apply own_drew1 | exact OwnF.empty_at (f := twoP) (q := 2) _ _ _ _ (by simp) (by simp) | with_reducible apply own_alloc1)) wc (by first | ((repeat (first | assumption | exact Below.refl _ _ | apply below_drew1 | apply below_alloc1)); done)) (by first | omega | (simp; done) | (simp; omega)) ((out.take p).flatMap twoP) HL1.out (RT.out.below (by first | ((repeat (first | assumption | exact Below.refl _ _ | apply below_drew1 | apply below_alloc1)); done))) (cellsF_one twoP_one _) (by omega) ?_; intro v1 w3 hown hgrow hbel hat hnil; obtain ⟨A1, c1, rfl, hc1⟩ := own_shape hown; simp only [Nat.zero_add, List.nil_append] at hown hc1; have hzb := hbel.size; have hd03 := cell_below hbel hd0 (World.block_lt_of_cell? _ _ hd0); have hd13 := cell_below hbel hd1 (World.block_lt_of_cell? _ _ hd1))
            | (refine step_app _ (by rfl) (.tmp 34) (.tmp 39) 82 80 (by rfl) (.agg #[.int .i64 0, .int .i64 0]) 2 16 Try.underlying82 infoP rfl (by omega) (by omega) wc.heap.size (.slice A1 p c1) p ((out.take p).flatMap twoP) (by rfl) _ 1 1 (by rfl) (by repeat (first | with_reducible exact hown | with_reducible apply own_drew1 | with_reducible apply own_alloc1)) wc (by first | ((repeat (first | assumption | exact Below.refl _ _ | apply below_drew1 | apply below_alloc1)); done)) (by first | omega | (simp; done) | (simp; omega)) [.int .i64 x0, .int .i64 x1] (by rfl) (by repeat (first | with_reducible refine RdC.only ?_ hgrow (by simp [OwnB, Value.ownBlock]) | with_reducible exact RdC.two_at _ _ _ _ _ (by first | rfl | (simp; done) | (simp; omega)) | with_reducible apply RdC.drew1 | with_reducible apply RdC.alloc1)) (twoP_one (x0, x1)) (by omega) ?_; intro v2 w4 hown2 hgrow2 hbel2 hat2 hnil2; obtain ⟨A2, c2, rfl, hc2⟩ := own_shape hown2; have hzb2 := hbel2.size)
            | (refine step_app _ (by rfl) (.tmp 40) (.tmp 43) 82 80 (by rfl) (.agg #[.int .i64 0, .int .i64 0]) 2 16 Try.underlying82 infoP rfl (by omega) (by omega) wc.heap.size (.slice A2 (p + 1) c2) (p + 1) ((out.take p).flatMap twoP ++ [.int .i64 x0, .int .i64 x1]) (by rfl) _ (i - p) (co - p) (by rfl) (by repeat (first | with_reducible exact hown2 | with_reducible apply own_drew1 | with_reducible apply own_alloc1)) wc (by first | ((repeat (first | assumption | exact Below.refl _ _ | apply below_drew1 | apply below_alloc1)); done)) (by first | omega | (simp; done) | (simp; omega)) ((out.drop p).flatMap twoP) HL2.out (RD.out.below (by first | ((repeat (first | assumption | exact Below.refl _ _ | apply below_drew1 | apply below_alloc1)); done))) (cellsF_one twoP_one _) (by omega) ?_; intro v3 w5 hown3 hgrow3 hbel3 hat3 hnil3; obtain ⟨A3, c3, rfl, hc3⟩ := own_shape hown3))
        all_goals
          go_wp2_with fail
          all_goals
            go_roundg k1
            case measure => omega
            case rel =>
              refine ⟨by omega, by rw [HI.out]; rfl, ?_, HB.out.trans ((HB2.out.trans (hbel3.mono HB2.out.size)).mono hwz)⟩
              rw [HI.out, HTK.out, sortI_snoc, HOUT.out]
              exact OwnF.insI (x := (x0, x1)) hown3 HP.out HOL.out (Nat.le_trans hwz HB2.out.size)
end Go.Proofs.Ytacgkoclammggaa
