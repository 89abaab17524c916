
/-
  The split that is chosen by a source (package split, Choose). Condition: the items, the ids and the source lie as the words say, apart from one another; no more than a million ids.
-/
import Derived.Test.YtohmcpblagcfeaaSplit
import Derived.Test.YtohmcpblagcfeaaRng2
import Derived.Laws.ResultCell
namespace Go.Proofs.Ytohmcpblagcfeaa
open Go.RowKit
set_option linter.unusedVariables false
set_option maxRecDepth 100000
set_option linter.unusedSimpArgs false

/-! ### plain -/
structure SplitV where
  ns : List Int
  off : Int
  left : List Int
  right : List Int
  tries : Nat
def flatV (dim : Nat) (ids : List Int) (t : Nat) : SplitV := ⟨List.replicate dim 0, 0, ids.take (halfN ids.length), ids.drop (halfN ids.length), t⟩
/-- The items that a try takes: by the draws k and k + 1. -/
def itemA (rows : List (List Int)) (ids : List Int) (s : Nat → Int) (k : Nat) : List Int := itemZ rows (ids.getD (pX s k ids.length).toNat 0)
def itemB (rows : List (List Int)) (ids : List Int) (s : Nat → Int) (k : Nat) : List Int := itemZ rows (ids.getD (pY s k ids.length).toNat 0)
def tryV (rows : List (List Int)) (ids : List Int) (s : Nat → Int) (k t : Nat) : SplitV :=
  ⟨less (itemA rows ids s k) (itemB rows ids s k), betweenOff (itemA rows ids s k) (itemB rows ids s k),
    sideL rows (less (itemA rows ids s k) (itemB rows ids s k)) (betweenOff (itemA rows ids s k) (itemB rows ids s k)) ids false,
    sideL rows (less (itemA rows ids s k) (itemB rows ids s k)) (betweenOff (itemA rows ids s k) (itemB rows ids s k)) ids true, t⟩
def chooseF (rows : List (List Int)) (dim : Nat) (ids : List Int) (s : Nat → Int) (k : Nat) : Nat → Nat → SplitV
  | 0, t => flatV dim ids t
  | f + 1, t => if 1 < ids.length then
      (if goodB (tryV rows ids s (k + 2 * t) (t + 1)).left.length (tryV rows ids s (k + 2 * t) (t + 1)).right.length = true then tryV rows ids s (k + 2 * t) (t + 1) else chooseF rows dim ids s k f (t + 1))
    else flatV dim ids t
def choose (rows : List (List Int)) (dim : Nat) (ids : List Int) (s : Nat → Int) (k : Nat) : SplitV := chooseF rows dim ids s k 4 0
theorem pX_bd (s : Nat → Int) (k : Nat) (n : Nat) (h : 1 < n) : ∃ i : Nat, pX s k n = (i : Int) ∧ i < n := by
  have hx : pX s k n = belowN (s k) n := by unfold pX; rw [if_neg (by omega)]
  have := belowN_bd (s k) n (by omega)
  exact ⟨(pX s k n).toNat, by omega, by omega⟩
theorem pY_bd (s : Nat → Int) (k : Nat) (n : Nat) (h : 1 < n) : ∃ i : Nat, pY s k n = (i : Int) ∧ i < n := by
  have hx : pY s k n = pairB (s k) (s (k + 1)) n := by unfold pY; rw [if_neg (by omega)]
  have := pairB_bd (s k) (s (k + 1)) n (by omega)
  exact ⟨(pY s k n).toNat, by omega, by omega⟩
theorem less_r32 (xs ys : List Int) : R32 (less xs ys) := by
  intro x hx
  unfold less lessN at hx
  obtain ⟨i, _, rfl⟩ := List.mem_map.1 hx
  exact wrap32_bd _
theorem Rd.onlyB {w w' : World} {S : Nat → Prop} {k : IntKind} {A : Option Addr} {xs : List Int} (h : Rd w k A xs) (ho : Only S w w') (hs : ∀ ad, 0 < xs.length → A = some ad → ¬ S ad.block) : Rd w' k A xs :=
  ⟨h.1, fun j hj => by
    obtain ⟨ad, e, hc⟩ := h.2 j hj
    exact ⟨ad, e, ho.cell hc (by
      have := hs ad (by omega) e
      have hb : (ad.add j).block = ad.block := by unfold Addr.add; split <;> rfl
      rw [hb]; exact this)⟩⟩

theorem Only.trans2 {S T : Nat → Prop} {a b c : World} (h1 : Only S a b) (h2 : Only T b c) (h : ∀ k, k < a.heap.size → T k → S k) : Only S a c :=
  ⟨h2.os.trans h1.os, h2.tape.trans h1.tape, h2.output.trans h1.output, Nat.le_trans h1.size h2.size, fun k hk hs => (h2.block k (by have := h1.size; omega) fun ht => hs (h k hk ht)).trans (h1.block k hk hs)⟩
theorem results_cell1 {fn : Func} {p : Tmp} {ty : TypeId} (h : fn.results = #[.cell p ty]) (tmps : Array Value) (P : Program) (w : World) :
    (results fn tmps).run P w = ((asAddr (tmps.getD p undef)).run P w).andThen fun a w₁ => (loadVar ty a).run P w₁ := by
  simp only [results, h]
  simp [Sem.run_bind, Result.andThen]
/-! ### the words -/
/-- Inside Choose: bR the result's block, bR + 1 the split's. -/
structure CS (w : World) (lo hi bR : Nat) (cs : List Value) (W : World) : Prop where
  own : W.heap[bR + 1]? = some (.cells cs.toArray 42 (0, 0))
  res : W.heap[bR]? = some (.cells #[.slice none 0 0, .int .i64 0, .slice none 0 0, .slice none 0 0, .int .i64 0] 42 (0, 0))
  only : Only (Within lo hi) w W
theorem CS.below {w W W' : World} {lo hi bR : Nat} {cs : List Value} (h : CS w lo hi bR cs W) (hb : Below W.heap.size W W') : CS w lo hi bR cs W' :=
  ⟨obj_below hb h.own (obj_lt h.own), obj_below hb h.res (obj_lt h.res), h.only.trans (Only.of_below hb)⟩
theorem CS.draw {w W W' : World} {lo hi bR : Nat} {cs : List Value} (h : CS w lo hi bR cs W) (ho : Only (Within lo hi) W W') (hh : hi ≤ bR) : CS w lo hi bR cs W' :=
  ⟨ho.obj h.own fun h => by have := h.2; omega, ho.obj h.res fun h => by have := h.2; omega, h.only.trans ho⟩
theorem CS.set {w W : World} {lo hi bR : Nat} {cs : List Value} (h : CS w lo hi bR cs W) (hw : w.heap.size ≤ bR) (j : Nat) (u : Value) : CS w lo hi bR (cs.set j u) (W.setCell ⟨bR + 1, j, none⟩ u) :=
  ⟨set_blk h.own j u, set_other h.res j u (by omega), h.only.trans2 (only_set W (bR + 1) j u) fun k hk e => by omega⟩
theorem At.setCell {w : World} {lo hi b j : Nat} {v u : Value} {s : Nat → Int} {k : Nat} (h : At w lo hi v s k) (hb : hi ≤ b) : At (w.setCell ⟨b, j, none⟩ u) lo hi v s k := h.only (only_set w b j u) fun q _ hq e => by omega
def ChPost (w : World) (lo hi : Nat) (v : Value) (s : Nat → Int) (k : Nat) (R : SplitV) (e : Ending) (w' : World) : Prop :=
  ∃ vn vl vr, e = .returned (.agg #[vn, .int .i64 R.off, vl, vr, .int .i64 R.tries]) ∧ Own w' w.heap.size 21 .i32 vn R.ns ∧ Own w' w.heap.size 3 .i64 vl R.left ∧ Own w' w.heap.size 3 .i64 vr R.right ∧ At w' lo hi v s (k + 2 * R.tries) ∧ Only (Within lo hi) w w'
set_option maxHeartbeats 6400000 in
theorem Choose_calls (b dim : Nat) (rows : List (List Int)) (AI : Option Addr) (cI : Nat) (A : Option Addr) (c : Nat) (ids : List Int) (lo hi : Nat) (v : Value) (s : Nat → Int) (k : Nat) (w : World)
    (hit : ItV w b dim rows AI cI) (hr : ∀ r ∈ rows, R32 r) (ha : Rd w .i64 A ids) (hc : ids.length ≤ c) (hl : ids.length ≤ 1000000) (hat : At w lo hi v s k) (hk : k ≤ 900000) (hs1 : ∀ q, ItB b AI rows.flatten.length cI q → ¬ Within lo hi q) (hs2 : ∀ ad, 0 < ids.length → A = some ad → ¬ Within lo hi ad.block) (hhi : hi ≤ w.heap.size) :
    Calls Try.prog 22 #[.pointer (some ⟨b, 0, none⟩), .slice A ids.length c, v] w (ChPost w lo hi v s k (choose rows dim ids s k)) := by
  have KA := Lib.hid ha
  have HIT := Lib.hid hit
  have HR := Lib.hid hr
  have HS1 := Lib.hid hs1
  have HS2 := Lib.hid hs2
  have hd1 := hit.1
  have hd2 := hit.2.1
  have hrl := hit.2.2.1
  have HRL := Lib.hid hrl
  obtain ⟨R, hR⟩ : ∃ R, choose rows dim ids s k = R := ⟨_, rfl⟩
  rw [hR]
  have HRR := Lib.hid hR
  obtain ⟨T, a, rfl, hT⟩ := hat.shape
  have HAT := Lib.hid hat
  obtain ⟨n, hn⟩ : ∃ n, ids.length = n := ⟨_, rfl⟩
  have HN := Lib.hid hn
  rw [hn] at hc hl ⊢
  clear ha hit hr hs1 hs2 hrl hR hat hn
  obtain ⟨bR, hbR⟩ : ∃ bR, w.heap.size = bR := ⟨_, rfl⟩
  go_enter Try.func22, Try.ntmps22
  go_wp2_with fail
  obtain ⟨w2, hw2⟩ : ∃ W, (w.alloc (.cells #[.slice none 0 0, .int .i64 0, .slice none 0 0, .slice none 0 0, .int .i64 0] 42)).alloc (.cells #[.slice none 0 0, .int .i64 0, .slice none 0 0, .slice none 0 0, .int .i64 0] 42) = W := ⟨_, rfl⟩
  rw [hw2]
  have hb2 : Below w.heap.size w w2 := by rw [← hw2]; exact below_alloc1 (below_alloc1 (Below.refl _ _) _) _
  have br2 : w2.heap[bR]? = some (.cells #[.slice none 0 0, .int .i64 0, .slice none 0 0, .slice none 0 0, .int .i64 0] 42 (0, 0)) := by
    rw [← hw2, ← hbR]; exact obj_below ((Below.refl _ _).alloc (Nat.le_refl _) _) (heap_alloc_new w _) (obj_lt (heap_alloc_new w _))
  have bo2 : w2.heap[bR + 1]? = some (.cells #[.slice none 0 0, .int .i64 0, .slice none 0 0, .slice none 0 0, .int .i64 0] 42 (0, 0)) := by
    rw [← hw2, ← hbR]; have h := heap_alloc_new (w.alloc (.cells #[.slice none 0 0, .int .i64 0, .slice none 0 0, .slice none 0 0, .int .i64 0] 42)) (.cells #[.slice none 0 0, .int .i64 0, .slice none 0 0, .slice none 0 0, .int .i64 0] 42); rwa [World.size_alloc] at h
  have HC2 := Lib.hid (show CS w lo hi bR [.slice none 0 0, .int .i64 0, .slice none 0 0, .slice none 0 0, .int .i64 ((0 : Nat) : Int)] w2 from ⟨bo2, br2, Only.of_below hb2⟩)
  have HAT2 := Lib.hid (show At w2 lo hi (.iface T (.pointer (some a))) s (k + 2 * 0) from HAT.out.below hb2 hhi)
  have hwb : w.heap.size ≤ bR := Nat.le_of_eq hbR
  have hhb : hi ≤ bR := by omega
  clear hw2 hb2 br2 bo2 HAT hbR
  go_loopg [] 4 (fun kq w' => ∃ (t : Nat) (x0 x1 x2 x3 : Value), kq + t = 4 ∧ CS w lo hi bR [x0, x1, x2, x3, .int .i64 (t : Nat)] w' ∧ At w' lo hi (.iface T (.pointer (some a))) s (k + 2 * t) ∧ chooseF rows dim ids s k kq t = R)
  case atStart => exact ⟨0, _, _, _, _, rfl, HC2.out, HAT2.out, HRR.out⟩
  case round =>
    clear HC2 HAT2 HRR
    obtain ⟨t, x0, x1, x2, x3, hkt, hC, hat, hR⟩ := hrel
    have HC := Lib.hid hC
    have HAT := Lib.hid hat
    have hc4 : wr.cell? ⟨bR + 1, 4, none⟩ = some (.int .i64 (t : Nat)) := by have h := hC.own; simp [World.cell?, h]
    have hf4 : wr.frozen? ⟨bR + 1, 4, none⟩ = false := free_blk hC.own 4
    clear hC hat
    have hgo : (∃ g, gk = g + 1 ∧ 1 < n) ∨ ((gk = 0 ∨ ¬ 1 < n) ∧ flatV dim ids t = R) := by
      cases gk with
      | zero => exact .inr ⟨.inl rfl, hR⟩
      | succ g =>
        by_cases h1 : 1 < n
        · exact .inl ⟨g, rfl, h1⟩
        · refine .inr ⟨.inr h1, ?_⟩
          rw [← hR]
          unfold chooseF
          rw [if_neg (by rw [HN.out]; exact h1)]
    rcases hgo with ⟨g, rfl, h1⟩ | ⟨hex, hRf⟩
    · have ht3 : t ≤ 3 := by omega
      have HRE := Lib.hid hR
      have g1 : decide (t < 4) = true := decide_eq_true (by omega)
      have g2 : decide (1 < n) = true := decide_eq_true h1
      have hwt : IntKind.i64.wrap ((t : Int) + 1) = (t : Int) + 1 := by rw [i64_w]; exact wrap64_id _ (by omega)
      obtain ⟨i, hpx, hi1⟩ := pX_bd s (k + 2 * t) n h1
      obtain ⟨j, hpy, hj1⟩ := pY_bd s (k + 2 * t) n h1
      have HPX := Lib.hid hpx
      have HPY := Lib.hid hpy
      have hkt2 : g + t ≤ 3 ∧ 3 ≤ g + t := by omega
      clear hR hkt hpx hpy
      go_wp2_with fail
      obtain ⟨W1, hW1⟩ : ∃ W, wr.setCell ⟨bR + 1, 4, none⟩ (.int .i64 ((t : Int) + 1)) = W := ⟨_, rfl⟩
      rw [hW1]
      have HC1 := Lib.hid (show CS w lo hi bR [x0, x1, x2, x3, .int .i64 ((t : Int) + 1)] W1 by rw [← hW1]; exact HC.out.set hwb 4 _)
      have HAT1 := Lib.hid (show At W1 lo hi (.iface T (.pointer (some a))) s (k + 2 * t) by rw [← hW1]; exact HAT.out.setCell (by omega))
      clear hW1 hc4 hf4 HC HAT
      refine (At.pair_calls lo hi _ s (k + 2 * t) (n : Int) W1 HAT1.out (by omega) (by omega)).mono ?_
      rintro e W2 ⟨he, hat2, ho2⟩
      rw [HPX.out, HPY.out] at he
      subst he
      rw [show pK (n : Int) = 2 by unfold pK; rw [if_neg (by omega)]] at hat2
      have HC2 := Lib.hid (HC1.out.draw ho2 hhb)
      have HAT2 := Lib.hid (show At W2 lo hi (.iface T (.pointer (some a))) s (k + 2 * (t + 1)) by rw [show k + 2 * (t + 1) = k + 2 * t + 2 by omega]; exact hat2)
      have hka := KA.out.onlyB HC2.out.only HS2.out
      obtain ⟨ad, rfl, hci⟩ := hka.2 i (by rw [HN.out]; exact hi1)
      obtain ⟨ad', had, hcj⟩ := hka.2 j (by rw [HN.out]; exact hj1)
      injection had with had
      subst had
      obtain ⟨id1, hid1⟩ : ∃ x, ids.getD i 0 = x := ⟨_, rfl⟩
      obtain ⟨id2, hid2⟩ : ∃ x, ids.getD j 0 = x := ⟨_, rfl⟩
      rw [hid1] at hci
      rw [hid2] at hcj
      obtain ⟨ya, hya⟩ : ∃ x, itemZ rows id1 = x := ⟨_, rfl⟩
      obtain ⟨yb, hyb⟩ : ∃ x, itemZ rows id2 = x := ⟨_, rfl⟩
      have HIA := Lib.hid (show itemA rows ids s (k + 2 * t) = ya by unfold itemA; rw [HN.out, HPX.out, Int.toNat_natCast, hid1, hya])
      have HIB := Lib.hid (show itemB rows ids s (k + 2 * t) = yb by unfold itemB; rw [HN.out, HPY.out, Int.toNat_natCast, hid2, hyb])
      have ra : R32 ya := by rw [← hya]; exact itemZ_r32 HR.out _
      have rb : R32 yb := by rw [← hyb]; exact itemZ_r32 HR.out _
      have la : ya.length ≤ 1024 := by rw [← hya]; exact itemZ_len HRL.out hd2 _
      have lb : yb.length ≤ 1024 := by rw [← hyb]; exact itemZ_len HRL.out hd2 _
      have RA := Lib.hid ra
      have RB := Lib.hid rb
      have HYA := Lib.hid hya
      have HYB := Lib.hid hyb
      have bi : (i : Int) < (n : Int) := by omega
      have bj : (j : Int) < (n : Int) := by omega
      have hbk := World.block_lt_of_cell? _ _ hcj
      clear hat2 ho2 hka hid1 hid2 hya hyb ra rb
      go_wp2_with fail
      refine (At_any b dim rows id1 W2 (HIT.out.only HC2.out.only HS1.out).it).mono ?_
      rintro e W3 ⟨va, ok1, he, hoa, hb3⟩
      subst he
      rw [HYA.out] at hoa
      obtain ⟨Aa, ca, rfl, hca, _⟩ := hoa.shape
      have HOA := Lib.hid hoa
      have HB3 := Lib.hid hb3
      have HC3 := Lib.hid (HC2.out.below hb3)
      have hcj3 := cell_below hb3 hcj hbk
      clear hoa hb3 hci hcj
      go_wp2_with fail
      refine (At_any b dim rows id2 W3 (HIT.out.only HC3.out.only HS1.out).it).mono ?_
      rintro e W4 ⟨vb, ok2, he, hob, hb4⟩
      subst he
      rw [HYB.out] at hob
      obtain ⟨Ab, cb, rfl, hcb, hrb⟩ := hob.shape
      have HRB := Lib.hid hrb
      have HRA := Lib.hid ((HOA.out.keep hb4).rd.2)
      have HB4 := Lib.hid (HB3.out.trans (hb4.mono HB3.out.size))
      have HC4 := Lib.hid (HC3.out.below hb4)
      clear hob hb4 hrb hcj3
      go_wp2_with fail
      refine (Between_calls Aa Ab ca cb ya yb W4 HRA.out HRB.out RA.out RB.out (by omega)).mono ?_
      rintro e W5 ⟨vn, he, hon, hb5⟩
      subst he
      obtain ⟨An, cn, rfl, hcn, _⟩ := hon.shape
      obtain ⟨ns, hns⟩ : ∃ ns, less ya yb = ns := ⟨_, rfl⟩
      obtain ⟨off, hoff⟩ : ∃ off, betweenOff ya yb = off := ⟨_, rfl⟩
      have rn : R32 ns := by rw [← hns]; exact less_r32 _ _
      rw [hns] at hon hcn ⊢
      rw [hoff]
      have hC5 := HC4.out.below hb5
      have hz5 : w.heap.size ≤ W5.heap.size := hC5.only.size
      have HON := Lib.hid (show Own W5 (bR + 2) 21 .i32 (.slice An ns.length cn) ns from hon.low (by have := obj_lt HC4.out.own; omega))
      have HNS := Lib.hid hns
      have HO22 := Lib.hid hoff
      have RN := Lib.hid rn
      have HC5 := Lib.hid hC5
      have HAT5 := Lib.hid ((HAT2.out.below HB4.out (by have := HC2.out.only.size; omega)).below hb5 (by have := HC4.out.only.size; omega))
      have f0 : W5.frozen? ⟨bR + 1, 0, none⟩ = false := free_blk hC5.own 0
      have f1 : W5.frozen? ⟨bR + 1, 1, none⟩ = false := free_blk hC5.own 1
      have c0 : W5.cell? ⟨bR + 1, 0, none⟩ = some x0 := by have h := cell_blk hC5.own 0; exact h
      have c1 : W5.cell? ⟨bR + 1, 1, none⟩ = some x1 := by have h := cell_blk hC5.own 1; exact h
      clear hon hb5 hC5 hns hoff rn
      go_wp2_with fail
      obtain ⟨W6, hW6⟩ : ∃ W, (W5.setCell ⟨bR + 1, 0, none⟩ (.slice An ns.length cn)).setCell ⟨bR + 1, 1, none⟩ (.int .i64 off) = W := ⟨_, rfl⟩
      rw [hW6]
      have HC6 := Lib.hid (show CS w lo hi bR [.slice An ns.length cn, .int .i64 off, x2, x3, .int .i64 ((t : Int) + 1)] W6 by rw [← hW6]; exact (HC5.out.set hwb 0 _).set hwb 1 _)
      have HAT6 := Lib.hid (show At W6 lo hi (.iface T (.pointer (some a))) s (k + 2 * (t + 1)) by rw [← hW6]; exact (HAT5.out.setCell (by omega)).setCell (by omega))
      have HON6 := Lib.hid (show Own W6 (bR + 2) 21 .i32 (.slice An ns.length cn) ns by
        have hne : ∀ q, (Value.slice An ns.length cn).ownBlock = some q → ¬ q = bR + 1 := fun q hq => by have := (HON.out.lt q hq).1; omega
        rw [← hW6]; exact (HON.out.only (only_set _ _ _ _) hne).only (only_set _ _ _ _) hne)
      clear hW6 f0 f1 c0 c1 HC5 HAT5 HON
      refine (HN.out ▸ (Part_calls b dim rows (some ad) c ids An cn ns off W6 (HIT.out.only HC6.out.only HS1.out).it HR.out (KA.out.onlyB HC6.out.only HS2.out) (by rw [HN.out]; exact hl) HON6.out.rd.2 RN.out)).mono ?_
      rintro e W7 ⟨vl, vr, he, hol, hor, hb7⟩
      subst he
      have hlt6 := obj_lt HC6.out.own
      obtain ⟨Al, cl, rfl, hcl, _⟩ := hol.shape
      obtain ⟨Ar, cr, rfl, hcr, _⟩ := hor.shape
      obtain ⟨L, hL⟩ : ∃ L, sideL rows ns off ids false = L := ⟨_, rfl⟩
      obtain ⟨Q, hQ⟩ : ∃ Q, sideL rows ns off ids true = Q := ⟨_, rfl⟩
      have hLl : L.length ≤ 1000000 := by rw [← hL]; exact Nat.le_trans (sideL_len _ _ _ _ _) (by rw [HN.out]; exact hl)
      have hQl : Q.length ≤ 1000000 := by rw [← hQ]; exact Nat.le_trans (sideL_len _ _ _ _ _) (by rw [HN.out]; exact hl)
      rw [hL] at hol hcl ⊢
      rw [hQ] at hor hcr ⊢
      have HTV := Lib.hid (show tryV rows ids s (k + 2 * t) (t + 1) = ⟨ns, off, L, Q, t + 1⟩ by unfold tryV; rw [HIA.out, HIB.out, HNS.out, HO22.out, hL, hQ])
      have HOL := Lib.hid (hol.low (show bR + 2 ≤ W6.heap.size by omega))
      have HOR := Lib.hid (hor.low (show bR + 2 ≤ W6.heap.size by omega))
      have HON7 := Lib.hid (HON6.out.keep hb7)
      have hC7 := HC6.out.below hb7
      have HC7 := Lib.hid hC7
      have HAT7 := Lib.hid (HAT6.out.below hb7 (by have := HC6.out.only.size; omega))
      have f2 : W7.frozen? ⟨bR + 1, 2, none⟩ = false := free_blk hC7.own 2
      have f3 : W7.frozen? ⟨bR + 1, 3, none⟩ = false := free_blk hC7.own 3
      have c2 : W7.cell? ⟨bR + 1, 2, none⟩ = some x2 := by have h := cell_blk hC7.own 2; exact h
      have c3 : W7.cell? ⟨bR + 1, 3, none⟩ = some x3 := by have h := cell_blk hC7.own 3; exact h
      clear hol hor hb7 hC7 hL hQ
      go_wp2_with fail
      obtain ⟨W8, hW8⟩ : ∃ W, (W7.setCell ⟨bR + 1, 2, none⟩ (.slice Al L.length cl)).setCell ⟨bR + 1, 3, none⟩ (.slice Ar Q.length cr) = W := ⟨_, rfl⟩
      rw [hW8]
      have neB : ∀ {e : TypeId} {kk : IntKind} {u : Value} {xs : List Int}, Own W7 (bR + 2) e kk u xs → Own W8 (bR + 2) e kk u xs := fun {e kk u xs} h => by
        have hne : ∀ q, u.ownBlock = some q → ¬ q = bR + 1 := fun q hq => by have := (h.lt q hq).1; omega
        rw [← hW8]; exact (h.only (only_set _ _ _ _) hne).only (only_set _ _ _ _) hne
      have hC8 : CS w lo hi bR [.slice An ns.length cn, .int .i64 off, .slice Al L.length cl, .slice Ar Q.length cr, .int .i64 ((t : Int) + 1)] W8 := by rw [← hW8]; exact (HC7.out.set hwb 2 _).set hwb 3 _
      have HC8 := Lib.hid hC8
      have HAT8 := Lib.hid (show At W8 lo hi (.iface T (.pointer (some a))) s (k + 2 * (t + 1)) by rw [← hW8]; exact (HAT7.out.setCell (by omega)).setCell (by omega))
      have HO8 := Lib.hid (And.intro (neB HON7.out) (And.intro (neB HOL.out) (neB HOR.out)))
      have d0 : W8.cell? ⟨bR + 1, 0, none⟩ = some (.slice An ns.length cn) := by have h := cell_blk hC8.own 0; exact h
      have d1 : W8.cell? ⟨bR + 1, 1, none⟩ = some (.int .i64 off) := by have h := cell_blk hC8.own 1; exact h
      have d2 : W8.cell? ⟨bR + 1, 2, none⟩ = some (.slice Al L.length cl) := by have h := cell_blk hC8.own 2; exact h
      have d3 : W8.cell? ⟨bR + 1, 3, none⟩ = some (.slice Ar Q.length cr) := by have h := cell_blk hC8.own 3; exact h
      have d4 : W8.cell? ⟨bR + 1, 4, none⟩ = some (.int .i64 ((t : Int) + 1)) := by have h := cell_blk hC8.own 4; exact h
      have r0 : W8.cell? ⟨bR, 0, none⟩ = some (.slice none 0 0) := by have h := hC8.res; simp [World.cell?, h]
      have r1 : W8.cell? ⟨bR, 1, none⟩ = some (.int .i64 0) := by have h := hC8.res; simp [World.cell?, h]
      have r2 : W8.cell? ⟨bR, 2, none⟩ = some (.slice none 0 0) := by have h := hC8.res; simp [World.cell?, h]
      have r3 : W8.cell? ⟨bR, 3, none⟩ = some (.slice none 0 0) := by have h := hC8.res; simp [World.cell?, h]
      have r4 : W8.cell? ⟨bR, 4, none⟩ = some (.int .i64 0) := by have h := hC8.res; simp [World.cell?, h]
      have q0 : W8.frozen? ⟨bR, 0, none⟩ = false := free_blk hC8.res 0
      have q1 : W8.frozen? ⟨bR, 1, none⟩ = false := free_blk hC8.res 1
      have q2 : W8.frozen? ⟨bR, 2, none⟩ = false := free_blk hC8.res 2
      have q3 : W8.frozen? ⟨bR, 3, none⟩ = false := free_blk hC8.res 3
      have q4 : W8.frozen? ⟨bR, 4, none⟩ = false := free_blk hC8.res 4
      obtain ⟨gd, hgd⟩ : ∃ gd, goodB L.length Q.length = gd := ⟨_, rfl⟩
      have HGD := Lib.hid hgd
      clear hW8 f2 f3 c2 c3 neB hC8 hgd
      refine (Good_calls Al Ar L.length Q.length cl cr W8 hLl hQl).mono ?_
      rintro e _ ⟨he, rfl⟩
      rw [HGD.out] at he
      subst he
      have HRF := Lib.hid (show (if gd = true then (⟨ns, off, L, Q, t + 1⟩ : SplitV) else chooseF rows dim ids s k g (t + 1)) = R by
        have h := HRE.out
        unfold chooseF at h
        rw [if_pos (by rw [HN.out]; exact h1), HTV.out] at h
        rw [HGD.out] at h
        exact h)
      cases gd with
      | true =>
        have hRR : (⟨ns, off, L, Q, t + 1⟩ : SplitV) = R := by have h := HRF.out; rwa [if_pos rfl] at h
        have HRR := Lib.hid hRR
        clear hRR
        go_wp2_with fail
        -- RET BEGIN
        obtain ⟨W9, hW9⟩ : ∃ W9, (((((W8.setCell ⟨bR, 0, none⟩ (.slice An ns.length cn)).setCell ⟨bR, 1, none⟩ (.int .i64 off)).setCell ⟨bR, 2, none⟩ (.slice Al L.length cl)).setCell ⟨bR, 3, none⟩ (.slice Ar Q.length cr)).setCell ⟨bR, 4, none⟩ (.int .i64 ((t : Int) + 1))) = W9 := ⟨_, rfl⟩
        have neC : ∀ {e : TypeId} {kk : IntKind} {u : Value} {xs : List Int}, Own W8 (bR + 2) e kk u xs → Own W9 w.heap.size e kk u xs := fun {e kk u xs} h => by
          have hne : ∀ q, u.ownBlock = some q → ¬ q = bR := fun q hq => by have := (h.lt q hq).1; omega
          rw [← hW9]; exact ((((((h.only (only_set _ _ _ _) hne).only (only_set _ _ _ _) hne).only (only_set _ _ _ _) hne).only (only_set _ _ _ _) hne).only (only_set _ _ _ _) hne)).low (by omega)
        have hres : W9.heap[bR]? = some (.cells #[.slice An ns.length cn, .int .i64 off, .slice Al L.length cl, .slice Ar Q.length cr, .int .i64 ((t : Int) + 1)] 42 (0, 0)) := by
          rw [← hW9]; exact set_blk (cs := [_, _, _, _, _]) (set_blk (cs := [_, _, _, _, _]) (set_blk (cs := [_, _, _, _, _]) (set_blk (cs := [_, _, _, _, _]) (set_blk (cs := [_, _, _, _, _]) HC8.out.res 0 _) 1 _) 2 _) 3 _) 4 _
        have e0 : W9.cell? ⟨bR, 0, none⟩ = some (.slice An ns.length cn) := by simp [World.cell?, hres]
        have e1 : W9.cell? ⟨bR, 1, none⟩ = some (.int .i64 off) := by simp [World.cell?, hres]
        have e2 : W9.cell? ⟨bR, 2, none⟩ = some (.slice Al L.length cl) := by simp [World.cell?, hres]
        have e3 : W9.cell? ⟨bR, 3, none⟩ = some (.slice Ar Q.length cr) := by simp [World.cell?, hres]
        have e4 : W9.cell? ⟨bR, 4, none⟩ = some (.int .i64 ((t : Int) + 1)) := by simp [World.cell?, hres]
        rw [hW9]
        have hat9 : At W9 lo hi (.iface T (.pointer (some a))) s (k + 2 * (t + 1)) := by
          rw [← hW9]; exact ((((HAT8.out.setCell hhb).setCell hhb).setCell hhb).setCell hhb).setCell hhb
        have hon9 : Only (Within lo hi) w W9 := by
          rw [← hW9]
          exact ((((HC8.out.only.trans2 (only_set _ bR 0 _) fun q hq e => by omega).trans2 (only_set _ bR 1 _) fun q hq e => by omega).trans2 (only_set _ bR 2 _) fun q hq e => by omega).trans2 (only_set _ bR 3 _) fun q hq e => by omega).trans2 (only_set _ bR 4 _) fun q hq e => by omega
        refine bodyPost_ret (v := .agg #[.slice An ns.length cn, .int .i64 off, .slice Al L.length cl, .slice Ar Q.length cr, .int .i64 ((t : Int) + 1)]) ?_ rfl ?_
        · rw [results_cell1 rfl]
          go_simp
        · rw [← HRR.out]
          exact ⟨_, _, _, by simp, neC HO8.out.1, neC HO8.out.2.1, neC HO8.out.2.2, hat9, hon9⟩
      | false =>
        go_wp2_with fail
        go_roundg g
        case measure => omega
        case rel =>
          exact ⟨t + 1, _, _, _, _, by omega, HC8.out, HAT8.out, by have h := HRF.out; rwa [if_neg (by simp)] at h⟩
    · skip
      obtain ⟨tl, htl⟩ : ∃ tl, decide ((t : Int) < 4) = tl := ⟨_, rfl⟩
      obtain ⟨nl, hnl⟩ : ∃ nl, decide ((1 : Int) < (n : Int)) = nl := ⟨_, rfl⟩
      have htn : tl = false ∨ nl = false := by
        rcases hex with h | h
        · exact .inl (by rw [← htl]; exact decide_eq_false (by omega))
        · exact .inr (by rw [← hnl]; exact decide_eq_false (by omega))
      have HRR := Lib.hid hRf
      have ht4 : t ≤ 4 := by omega
      have hTN : (tl = false) ∨ (tl = true ∧ nl = false) := by
        cases tl
        · exact .inl rfl
        · exact .inr ⟨rfl, htn.resolve_left (by simp)⟩
      clear hR hRf hex hkt htn
      have HD := Lib.hid (show ∀ W, Only (Within lo hi) w W → It W b dim rows from fun W hW => (HIT.out.only hW HS1.out).it)
      have HW := HC.out.only
      have hw4 := HAT.out
      have HONW := Lib.hid HW
      clear HW hw4
      rcases hTN with rfl | ⟨rfl, rfl⟩
      · skip
        go_wp2_with fail
        refine (Dim_calls b dim rows wr (HD.out _ HONW.out)).mono ?_
        rintro e _ ⟨he, rfl⟩
        subst he
        go_wp2_with fail
        refine (Flat_calls (dim : Int) wr (by omega)).mono ?_
        rintro e W5 ⟨vn, he, hon, hb5⟩
        subst he
        rw [if_neg (by omega), Int.toNat_natCast] at hon
        obtain ⟨An, cn, rfl, hcn, _⟩ := hon.shape
        rw [List.length_replicate] at hon hcn ⊢
        have hC5 := HC.out.below hb5
        have HC5 := Lib.hid hC5
        have HON := Lib.hid (show Own W5 (bR + 2) 21 .i32 (.slice An dim cn) (List.replicate dim 0) from hon.low (by have := obj_lt HC.out.own; omega))
        have HAT5 := Lib.hid (HAT.out.below hb5 (by have := HC.out.only.size; omega))
        have f0 : W5.frozen? ⟨bR + 1, 0, none⟩ = false := free_blk hC5.own 0
        have f1 : W5.frozen? ⟨bR + 1, 1, none⟩ = false := free_blk hC5.own 1
        have c0 : W5.cell? ⟨bR + 1, 0, none⟩ = some x0 := by have h := cell_blk hC5.own 0; exact h
        have c1 : W5.cell? ⟨bR + 1, 1, none⟩ = some x1 := by have h := cell_blk hC5.own 1; exact h
        clear hon hb5 hC5 hc4 hf4
        go_wp2_with fail
        obtain ⟨W6, hW6⟩ : ∃ W, (W5.setCell ⟨bR + 1, 0, none⟩ (.slice An dim cn)).setCell ⟨bR + 1, 1, none⟩ (.int .i64 0) = W := ⟨_, rfl⟩
        rw [hW6]
        have HC6 := Lib.hid (show CS w lo hi bR [.slice An dim cn, .int .i64 0, x2, x3, .int .i64 (t : Nat)] W6 by rw [← hW6]; exact (HC5.out.set hwb 0 _).set hwb 1 _)
        have HAT6 := Lib.hid (show At W6 lo hi (.iface T (.pointer (some a))) s (k + 2 * t) by rw [← hW6]; exact (HAT5.out.setCell (by omega)).setCell (by omega))
        have HON6 := Lib.hid (show Own W6 (bR + 2) 21 .i32 (.slice An dim cn) (List.replicate dim 0) by
          have hne : ∀ q, (Value.slice An dim cn).ownBlock = some q → ¬ q = bR + 1 := fun q hq => by have := (HON.out.lt q hq).1; omega
          rw [← hW6]; exact (HON.out.only (only_set _ _ _ _) hne).only (only_set _ _ _ _) hne)
        clear hW6 f0 f1 c0 c1 HC5 HAT5 HON
        refine (HN.out ▸ (Halves_calls A c ids W6 (KA.out.onlyB HC6.out.only HS2.out) (by rw [HN.out]; exact hc) (by rw [HN.out]; exact hl))).mono ?_
        rintro e W7 ⟨vl, vr, he, hol, hor, hb7⟩
        subst he
        have hlt6 := obj_lt HC6.out.own
        obtain ⟨Al, cl, rfl, hcl, _⟩ := hol.shape
        obtain ⟨Ar, cr, rfl, hcr, _⟩ := hor.shape
        obtain ⟨L, hL⟩ : ∃ L, ids.take (halfN n) = L := ⟨_, rfl⟩
        obtain ⟨Q, hQ⟩ : ∃ Q, ids.drop (halfN n) = Q := ⟨_, rfl⟩
        rw [hL] at hol hcl ⊢
        rw [hQ] at hor hcr ⊢
        have HRR2 := Lib.hid (show (⟨List.replicate dim 0, 0, L, Q, t⟩ : SplitV) = R by rw [← HRR.out]; unfold flatV; rw [HN.out, hL, hQ])
        have HOL := Lib.hid (hol.low (show bR + 2 ≤ W6.heap.size by omega))
        have HOR := Lib.hid (hor.low (show bR + 2 ≤ W6.heap.size by omega))
        have HON7 := Lib.hid (HON6.out.keep hb7)
        have hC7 := HC6.out.below hb7
        have HC7 := Lib.hid hC7
        have HAT7 := Lib.hid (HAT6.out.below hb7 (by have := HC6.out.only.size; omega))
        have f2 : W7.frozen? ⟨bR + 1, 2, none⟩ = false := free_blk hC7.own 2
        have f3 : W7.frozen? ⟨bR + 1, 3, none⟩ = false := free_blk hC7.own 3
        have c2 : W7.cell? ⟨bR + 1, 2, none⟩ = some x2 := by have h := cell_blk hC7.own 2; exact h
        have c3 : W7.cell? ⟨bR + 1, 3, none⟩ = some x3 := by have h := cell_blk hC7.own 3; exact h
        have c0 : W7.cell? ⟨bR + 1, 0, none⟩ = some (.slice An dim cn) := by have h := cell_blk hC7.own 0; exact h
        have c1 : W7.cell? ⟨bR + 1, 1, none⟩ = some (.int .i64 0) := by have h := cell_blk hC7.own 1; exact h
        have c4 : W7.cell? ⟨bR + 1, 4, none⟩ = some (.int .i64 (t : Nat)) := by have h := cell_blk hC7.own 4; exact h
        have r0 : W7.cell? ⟨bR, 0, none⟩ = some (.slice none 0 0) := by have h := hC7.res; simp [World.cell?, h]
        have r1 : W7.cell? ⟨bR, 1, none⟩ = some (.int .i64 0) := by have h := hC7.res; simp [World.cell?, h]
        have r2 : W7.cell? ⟨bR, 2, none⟩ = some (.slice none 0 0) := by have h := hC7.res; simp [World.cell?, h]
        have r3 : W7.cell? ⟨bR, 3, none⟩ = some (.slice none 0 0) := by have h := hC7.res; simp [World.cell?, h]
        have r4 : W7.cell? ⟨bR, 4, none⟩ = some (.int .i64 0) := by have h := hC7.res; simp [World.cell?, h]
        have q0 : W7.frozen? ⟨bR, 0, none⟩ = false := free_blk hC7.res 0
        have q1 : W7.frozen? ⟨bR, 1, none⟩ = false := free_blk hC7.res 1
        have q2 : W7.frozen? ⟨bR, 2, none⟩ = false := free_blk hC7.res 2
        have q3 : W7.frozen? ⟨bR, 3, none⟩ = false := free_blk hC7.res 3
        have q4 : W7.frozen? ⟨bR, 4, none⟩ = false := free_blk hC7.res 4
        clear hol hor hb7 hC7 hL hQ
        go_wp2_with fail
        obtain ⟨W8, hW8⟩ : ∃ W, (W7.setCell ⟨bR + 1, 2, none⟩ (.slice Al L.length cl)).setCell ⟨bR + 1, 3, none⟩ (.slice Ar Q.length cr) = W := ⟨_, rfl⟩
        try rw [hW8]
        have neB : ∀ {e : TypeId} {kk : IntKind} {u : Value} {xs : List Int}, Own W7 (bR + 2) e kk u xs → Own W8 (bR + 2) e kk u xs := fun {e kk u xs} h => by
          have hne : ∀ q, u.ownBlock = some q → ¬ q = bR + 1 := fun q hq => by have := (h.lt q hq).1; omega
          rw [← hW8]; exact (h.only (only_set _ _ _ _) hne).only (only_set _ _ _ _) hne
        have HC8 := Lib.hid (show CS w lo hi bR [.slice An dim cn, .int .i64 0, .slice Al L.length cl, .slice Ar Q.length cr, .int .i64 (t : Nat)] W8 by rw [← hW8]; exact (HC7.out.set hwb 2 _).set hwb 3 _)
        have HAT8 := Lib.hid (show At W8 lo hi (.iface T (.pointer (some a))) s (k + 2 * t) by rw [← hW8]; exact (HAT7.out.setCell (by omega)).setCell (by omega))
        have HO8 := Lib.hid (And.intro (neB HON7.out) (And.intro (neB HOL.out) (neB HOR.out)))
        clear neB HRR
        have HRR := HRR2
        obtain ⟨W9, hW9⟩ : ∃ W9, (((((W8.setCell ⟨bR, 0, none⟩ (.slice An dim cn)).setCell ⟨bR, 1, none⟩ (.int .i64 0)).setCell ⟨bR, 2, none⟩ (.slice Al L.length cl)).setCell ⟨bR, 3, none⟩ (.slice Ar Q.length cr)).setCell ⟨bR, 4, none⟩ (.int .i64 (t : Nat))) = W9 := ⟨_, rfl⟩
        have neC : ∀ {e : TypeId} {kk : IntKind} {u : Value} {xs : List Int}, Own W8 (bR + 2) e kk u xs → Own W9 w.heap.size e kk u xs := fun {e kk u xs} h => by
          have hne : ∀ q, u.ownBlock = some q → ¬ q = bR := fun q hq => by have := (h.lt q hq).1; omega
          rw [← hW9]; exact ((((((h.only (only_set _ _ _ _) hne).only (only_set _ _ _ _) hne).only (only_set _ _ _ _) hne).only (only_set _ _ _ _) hne).only (only_set _ _ _ _) hne)).low (by omega)
        have hres : W9.heap[bR]? = some (.cells #[.slice An dim cn, .int .i64 0, .slice Al L.length cl, .slice Ar Q.length cr, .int .i64 (t : Nat)] 42 (0, 0)) := by
          rw [← hW9]; exact set_blk (cs := [_, _, _, _, _]) (set_blk (cs := [_, _, _, _, _]) (set_blk (cs := [_, _, _, _, _]) (set_blk (cs := [_, _, _, _, _]) (set_blk (cs := [_, _, _, _, _]) HC8.out.res 0 _) 1 _) 2 _) 3 _) 4 _
        have e0 : W9.cell? ⟨bR, 0, none⟩ = some (.slice An dim cn) := by simp [World.cell?, hres]
        have e1 : W9.cell? ⟨bR, 1, none⟩ = some (.int .i64 0) := by simp [World.cell?, hres]
        have e2 : W9.cell? ⟨bR, 2, none⟩ = some (.slice Al L.length cl) := by simp [World.cell?, hres]
        have e3 : W9.cell? ⟨bR, 3, none⟩ = some (.slice Ar Q.length cr) := by simp [World.cell?, hres]
        have e4 : W9.cell? ⟨bR, 4, none⟩ = some (.int .i64 (t : Nat)) := by simp [World.cell?, hres]
        rw [hW9]
        have hat9 : At W9 lo hi (.iface T (.pointer (some a))) s (k + 2 * t) := by
          rw [← hW9]; exact ((((HAT8.out.setCell hhb).setCell hhb).setCell hhb).setCell hhb).setCell hhb
        have hon9 : Only (Within lo hi) w W9 := by
          rw [← hW9]
          exact ((((HC8.out.only.trans2 (only_set _ bR 0 _) fun q hq e => by omega).trans2 (only_set _ bR 1 _) fun q hq e => by omega).trans2 (only_set _ bR 2 _) fun q hq e => by omega).trans2 (only_set _ bR 3 _) fun q hq e => by omega).trans2 (only_set _ bR 4 _) fun q hq e => by omega
        refine bodyPost_ret (v := .agg #[.slice An dim cn, .int .i64 0, .slice Al L.length cl, .slice Ar Q.length cr, .int .i64 (t : Nat)]) ?_ rfl ?_
        · rw [results_cell1 rfl]
          go_simp
        · rw [← HRR.out]
          exact ⟨_, _, _, by simp, neC HO8.out.1, neC HO8.out.2.1, neC HO8.out.2.2, hat9, hon9⟩
      · skip
        go_wp2_with fail
        refine (Dim_calls b dim rows wr (HD.out _ HONW.out)).mono ?_
        rintro e _ ⟨he, rfl⟩
        subst he
        go_wp2_with fail
        refine (Flat_calls (dim : Int) wr (by omega)).mono ?_
        rintro e W5 ⟨vn, he, hon, hb5⟩
        subst he
        rw [if_neg (by omega), Int.toNat_natCast] at hon
        obtain ⟨An, cn, rfl, hcn, _⟩ := hon.shape
        rw [List.length_replicate] at hon hcn ⊢
        have hC5 := HC.out.below hb5
        have HC5 := Lib.hid hC5
        have HON := Lib.hid (show Own W5 (bR + 2) 21 .i32 (.slice An dim cn) (List.replicate dim 0) from hon.low (by have := obj_lt HC.out.own; omega))
        have HAT5 := Lib.hid (HAT.out.below hb5 (by have := HC.out.only.size; omega))
        have f0 : W5.frozen? ⟨bR + 1, 0, none⟩ = false := free_blk hC5.own 0
        have f1 : W5.frozen? ⟨bR + 1, 1, none⟩ = false := free_blk hC5.own 1
        have c0 : W5.cell? ⟨bR + 1, 0, none⟩ = some x0 := by have h := cell_blk hC5.own 0; exact h
        have c1 : W5.cell? ⟨bR + 1, 1, none⟩ = some x1 := by have h := cell_blk hC5.own 1; exact h
        clear hon hb5 hC5 hc4 hf4
        go_wp2_with fail
        obtain ⟨W6, hW6⟩ : ∃ W, (W5.setCell ⟨bR + 1, 0, none⟩ (.slice An dim cn)).setCell ⟨bR + 1, 1, none⟩ (.int .i64 0) = W := ⟨_, rfl⟩
        rw [hW6]
        have HC6 := Lib.hid (show CS w lo hi bR [.slice An dim cn, .int .i64 0, x2, x3, .int .i64 (t : Nat)] W6 by rw [← hW6]; exact (HC5.out.set hwb 0 _).set hwb 1 _)
        have HAT6 := Lib.hid (show At W6 lo hi (.iface T (.pointer (some a))) s (k + 2 * t) by rw [← hW6]; exact (HAT5.out.setCell (by omega)).setCell (by omega))
        have HON6 := Lib.hid (show Own W6 (bR + 2) 21 .i32 (.slice An dim cn) (List.replicate dim 0) by
          have hne : ∀ q, (Value.slice An dim cn).ownBlock = some q → ¬ q = bR + 1 := fun q hq => by have := (HON.out.lt q hq).1; omega
          rw [← hW6]; exact (HON.out.only (only_set _ _ _ _) hne).only (only_set _ _ _ _) hne)
        clear hW6 f0 f1 c0 c1 HC5 HAT5 HON
        refine (HN.out ▸ (Halves_calls A c ids W6 (KA.out.onlyB HC6.out.only HS2.out) (by rw [HN.out]; exact hc) (by rw [HN.out]; exact hl))).mono ?_
        rintro e W7 ⟨vl, vr, he, hol, hor, hb7⟩
        subst he
        have hlt6 := obj_lt HC6.out.own
        obtain ⟨Al, cl, rfl, hcl, _⟩ := hol.shape
        obtain ⟨Ar, cr, rfl, hcr, _⟩ := hor.shape
        obtain ⟨L, hL⟩ : ∃ L, ids.take (halfN n) = L := ⟨_, rfl⟩
        obtain ⟨Q, hQ⟩ : ∃ Q, ids.drop (halfN n) = Q := ⟨_, rfl⟩
        rw [hL] at hol hcl ⊢
        rw [hQ] at hor hcr ⊢
        have HRR2 := Lib.hid (show (⟨List.replicate dim 0, 0, L, Q, t⟩ : SplitV) = R by rw [← HRR.out]; unfold flatV; rw [HN.out, hL, hQ])
        have HOL := Lib.hid (hol.low (show bR + 2 ≤ W6.heap.size by omega))
        have HOR := Lib.hid (hor.low (show bR + 2 ≤ W6.heap.size by omega))
        have HON7 := Lib.hid (HON6.out.keep hb7)
        have hC7 := HC6.out.below hb7
        have HC7 := Lib.hid hC7
        have HAT7 := Lib.hid (HAT6.out.below hb7 (by have := HC6.out.only.size; omega))
        have f2 : W7.frozen? ⟨bR + 1, 2, none⟩ = false := free_blk hC7.own 2
        have f3 : W7.frozen? ⟨bR + 1, 3, none⟩ = false := free_blk hC7.own 3
        have c2 : W7.cell? ⟨bR + 1, 2, none⟩ = some x2 := by have h := cell_blk hC7.own 2; exact h
        have c3 : W7.cell? ⟨bR + 1, 3, none⟩ = some x3 := by have h := cell_blk hC7.own 3; exact h
        have c0 : W7.cell? ⟨bR + 1, 0, none⟩ = some (.slice An dim cn) := by have h := cell_blk hC7.own 0; exact h
        have c1 : W7.cell? ⟨bR + 1, 1, none⟩ = some (.int .i64 0) := by have h := cell_blk hC7.own 1; exact h
        have c4 : W7.cell? ⟨bR + 1, 4, none⟩ = some (.int .i64 (t : Nat)) := by have h := cell_blk hC7.own 4; exact h
        have r0 : W7.cell? ⟨bR, 0, none⟩ = some (.slice none 0 0) := by have h := hC7.res; simp [World.cell?, h]
        have r1 : W7.cell? ⟨bR, 1, none⟩ = some (.int .i64 0) := by have h := hC7.res; simp [World.cell?, h]
        have r2 : W7.cell? ⟨bR, 2, none⟩ = some (.slice none 0 0) := by have h := hC7.res; simp [World.cell?, h]
        have r3 : W7.cell? ⟨bR, 3, none⟩ = some (.slice none 0 0) := by have h := hC7.res; simp [World.cell?, h]
        have r4 : W7.cell? ⟨bR, 4, none⟩ = some (.int .i64 0) := by have h := hC7.res; simp [World.cell?, h]
        have q0 : W7.frozen? ⟨bR, 0, none⟩ = false := free_blk hC7.res 0
        have q1 : W7.frozen? ⟨bR, 1, none⟩ = false := free_blk hC7.res 1
        have q2 : W7.frozen? ⟨bR, 2, none⟩ = false := free_blk hC7.res 2
        have q3 : W7.frozen? ⟨bR, 3, none⟩ = false := free_blk hC7.res 3
        have q4 : W7.frozen? ⟨bR, 4, none⟩ = false := free_blk hC7.res 4
        clear hol hor hb7 hC7 hL hQ
        go_wp2_with fail
        obtain ⟨W8, hW8⟩ : ∃ W, (W7.setCell ⟨bR + 1, 2, none⟩ (.slice Al L.length cl)).setCell ⟨bR + 1, 3, none⟩ (.slice Ar Q.length cr) = W := ⟨_, rfl⟩
        try rw [hW8]
        have neB : ∀ {e : TypeId} {kk : IntKind} {u : Value} {xs : List Int}, Own W7 (bR + 2) e kk u xs → Own W8 (bR + 2) e kk u xs := fun {e kk u xs} h => by
          have hne : ∀ q, u.ownBlock = some q → ¬ q = bR + 1 := fun q hq => by have := (h.lt q hq).1; omega
          rw [← hW8]; exact (h.only (only_set _ _ _ _) hne).only (only_set _ _ _ _) hne
        have HC8 := Lib.hid (show CS w lo hi bR [.slice An dim cn, .int .i64 0, .slice Al L.length cl, .slice Ar Q.length cr, .int .i64 (t : Nat)] W8 by rw [← hW8]; exact (HC7.out.set hwb 2 _).set hwb 3 _)
        have HAT8 := Lib.hid (show At W8 lo hi (.iface T (.pointer (some a))) s (k + 2 * t) by rw [← hW8]; exact (HAT7.out.setCell (by omega)).setCell (by omega))
        have HO8 := Lib.hid (And.intro (neB HON7.out) (And.intro (neB HOL.out) (neB HOR.out)))
        clear neB HRR
        have HRR := HRR2
        obtain ⟨W9, hW9⟩ : ∃ W9, (((((W8.setCell ⟨bR, 0, none⟩ (.slice An dim cn)).setCell ⟨bR, 1, none⟩ (.int .i64 0)).setCell ⟨bR, 2, none⟩ (.slice Al L.length cl)).setCell ⟨bR, 3, none⟩ (.slice Ar Q.length cr)).setCell ⟨bR, 4, none⟩ (.int .i64 (t : Nat))) = W9 := ⟨_, rfl⟩
        have neC : ∀ {e : TypeId} {kk : IntKind} {u : Value} {xs : List Int}, Own W8 (bR + 2) e kk u xs → Own W9 w.heap.size e kk u xs := fun {e kk u xs} h => by
          have hne : ∀ q, u.ownBlock = some q → ¬ q = bR := fun q hq => by have := (h.lt q hq).1; omega
          rw [← hW9]; exact ((((((h.only (only_set _ _ _ _) hne).only (only_set _ _ _ _) hne).only (only_set _ _ _ _) hne).only (only_set _ _ _ _) hne).only (only_set _ _ _ _) hne)).low (by omega)
        have hres : W9.heap[bR]? = some (.cells #[.slice An dim cn, .int .i64 0, .slice Al L.length cl, .slice Ar Q.length cr, .int .i64 (t : Nat)] 42 (0, 0)) := by
          rw [← hW9]; exact set_blk (cs := [_, _, _, _, _]) (set_blk (cs := [_, _, _, _, _]) (set_blk (cs := [_, _, _, _, _]) (set_blk (cs := [_, _, _, _, _]) (set_blk (cs := [_, _, _, _, _]) HC8.out.res 0 _) 1 _) 2 _) 3 _) 4 _
        have e0 : W9.cell? ⟨bR, 0, none⟩ = some (.slice An dim cn) := by simp [World.cell?, hres]
        have e1 : W9.cell? ⟨bR, 1, none⟩ = some (.int .i64 0) := by simp [World.cell?, hres]
        have e2 : W9.cell? ⟨bR, 2, none⟩ = some (.slice Al L.length cl) := by simp [World.cell?, hres]
        have e3 : W9.cell? ⟨bR, 3, none⟩ = some (.slice Ar Q.length cr) := by simp [World.cell?, hres]
        have e4 : W9.cell? ⟨bR, 4, none⟩ = some (.int .i64 (t : Nat)) := by simp [World.cell?, hres]
        rw [hW9]
        have hat9 : At W9 lo hi (.iface T (.pointer (some a))) s (k + 2 * t) := by
          rw [← hW9]; exact ((((HAT8.out.setCell hhb).setCell hhb).setCell hhb).setCell hhb).setCell hhb
        have hon9 : Only (Within lo hi) w W9 := by
          rw [← hW9]
          exact ((((HC8.out.only.trans2 (only_set _ bR 0 _) fun q hq e => by omega).trans2 (only_set _ bR 1 _) fun q hq e => by omega).trans2 (only_set _ bR 2 _) fun q hq e => by omega).trans2 (only_set _ bR 3 _) fun q hq e => by omega).trans2 (only_set _ bR 4 _) fun q hq e => by omega
        refine bodyPost_ret (v := .agg #[.slice An dim cn, .int .i64 0, .slice Al L.length cl, .slice Ar Q.length cr, .int .i64 (t : Nat)]) ?_ rfl ?_
        · rw [results_cell1 rfl]
          go_simp
        · rw [← HRR.out]
          exact ⟨_, _, _, by simp, neC HO8.out.1, neC HO8.out.2.1, neC HO8.out.2.2, hat9, hon9⟩
end Go.Proofs.Ytohmcpblagcfeaa
