
/-
  The document's split (layer 12, Choose). Condition: the items, the ids and the source lie as the words say, apart from one another; no more than a million ids.
-/
import Derived.Test.YtohmcpblagcfeaaLaw12
import Derived.Deep.RegionHeld3
import Derived.Deep.RegionWith
namespace Go.Proofs.Ytohmcpblagcfeaa
open Go.RowKit
set_option linter.unusedVariables false
set_option maxRecDepth 100000
set_option linter.unusedSimpArgs false

theorem Rd.of_c {w : World} {k : IntKind} {A : Option Addr} {xs : List Int} (h : RdC w A (nums k xs)) (hl : xs.length ≤ 9223372036854775807) : Rd w k A xs :=
  ⟨hl, fun j hj => h j _ (nums_get k xs j hj)⟩
theorem Rd.cutR {w : World} {k : IntKind} {A : Option Addr} {c m : Nat} {xs : List Int} (h : Rd w k A xs) (hm : m ≤ xs.length) (hc : xs.length ≤ c) : Rd w k A (xs.take m) ∧ Rd w k (if c = m then A else Option.map (fun x => x.add m) A) (xs.drop m) := by
  obtain ⟨h1, h2⟩ := h.cutA hm hc
  have := h.1
  exact ⟨Rd.of_c h1 (by simp; omega), Rd.of_c h2 (by simp; omega)⟩
theorem below_of_drew {w W : World} (h : Below w.heap.size w W) : Below w.drew.heap.size w.drew W := ⟨h.os, h.tape, h.output, h.size, h.block⟩
theorem frz_below {B : Nat} {w w1 : World} (h : Below B w w1) {a : Addr} (hc : w.frozen? a = false) (hB : a.block < B) : w1.frozen? a = false := (h.frozen hB).trans hc
theorem heap_alloc_drew (W : World) (o : Obj) : (W.alloc o).drew.heap[W.heap.size]? = some o := heap_alloc_new W o
theorem side_sum (rows : List (List Int)) (ns : List Int) (off : Int) (ids : List Int) : (sideL rows ns off ids false).length + (sideL rows ns off ids true).length = ids.length := by
  induction ids with
  | nil => rfl
  | cons x xs ih =>
    have e : ∀ b, (sideL rows ns off (x :: xs) b).length = (if onB rows ns off x == b then 1 else 0) + (sideL rows ns off xs b).length := fun b => by
      unfold sideL
      rw [List.filter_cons]
      split <;> simp_all <;> omega
    rw [e, e, List.length_cons]
    cases onB rows ns off x <;> simp <;> omega
/-- A slice that lies apart from block b. -/
def Off (b : Nat) (A : Option Addr) (n : Nat) : Prop := ∀ ad, 0 < n → A = some ad → ad.block ≠ b
def RChPost (w0 w : World) (bS : Nat) (mixed : Bool) (st : Int) (A' : Option Addr) (c' : Nat) (l : List Int) (k : Nat) (R : SplitV) (e : Ending) (w' : World) : Prop :=
  ∃ An cn Al cl Ar cr, e = .returned (.agg #[.slice An R.ns.length cn, .int .i64 R.off, .slice Al R.left.length cl, .slice Ar R.right.length cr, .int .i64 R.tries]) ∧
    Rd w' .i32 An R.ns ∧ (Rd w' .i64 Al R.left ∧ Off bS Al R.left.length ∧ R.left.length ≤ cl) ∧ (Rd w' .i64 Ar R.right ∧ Off bS Ar R.right.length ∧ R.right.length ≤ cr) ∧ RefS w' bS mixed st A' c' l (k + 2 * R.tries) ∧ Only (· = bS) w w'
theorem Off.own {w : World} {base b : Nat} {e : TypeId} {kk : IntKind} {A : Option Addr} {n c : Nat} {xs : List Int} (h : Own w base e kk (.slice A n c) xs) (hb : b < base) : Off b A n := fun ad hn e => by
  obtain rfl := h.rd.1
  obtain ⟨g, hg, hbg, _⟩ := own_cell (show w.ownsRow base _ 1 (.slice A xs.length c) xs.length (nums kk xs) from h) 0 hn
  rw [hg] at e
  injection e with e
  subst e
  show g ≠ b
  omega
theorem Off.add {b : Nat} {A : Option Addr} {n m : Nat} (h : Off b A n) (k : Nat) (hm : m ≤ n) : Off b (Option.map (fun x => x.add k) A) m := fun ad hn e => by
  obtain ⟨a0, h0, rfl⟩ := Option.map_eq_some_iff.1 e
  have := h a0 (by omega) h0
  have hb : (a0.add k).block = a0.block := by unfold Addr.add; split <;> rfl
  rw [hb]; exact this
theorem Off.le {b : Nat} {A : Option Addr} {n m : Nat} (h : Off b A n) (hm : m ≤ n) : Off b A m := fun ad hn e => h ad (by omega) e
set_option maxHeartbeats 6400000 in
theorem rChoose_calls (bS dim : Nat) (mixed : Bool) (st : Int) (A' : Option Addr) (c' : Nat) (l : List Int) (LA : Option Addr) (lc : Nat) (ls : List (List Int)) (A : Option Addr) (c : Nat) (ids : List Int) (k : Nat) (w0 w : World)
    (hB0 : Below w0.heap.size w0 w) (hb0 : w0.heap.size ≤ bS) (hls : Rows w0 .i32 LA ls) (hr : ∀ r ∈ ls, R32 r) (hrl : ∀ r ∈ ls, r.length = dim) (hd2 : dim ≤ 1024) (ha : Rd w .i64 A ids) (hoff : Off bS A ids.length) (hc : ids.length ≤ c) (hl : ids.length ≤ 1000000) (hu : U64 l) (hs : RefS w bS mixed st A' c' l k) (hk : k ≤ 900000) :
    Calls Try.prog 28 #[.slice LA ls.length lc, .int .i64 dim, .slice A ids.length c, .pointer (some ⟨bS, 0, none⟩)] w (RChPost w0 w bS mixed st A' c' l k (choose ls dim ids (refS mixed st l) k)) := by
  have KA := Lib.hid ha
  have KL := Lib.hid hls
  have HR := Lib.hid hr
  have HRL := Lib.hid hrl
  have HO28 := Lib.hid hoff
  have HU := Lib.hid hu
  have HSR := Lib.hid hs
  obtain ⟨R, hR⟩ : ∃ R, choose ls dim ids (refS mixed st l) k = R := ⟨_, rfl⟩
  rw [hR]
  have HRR := Lib.hid hR
  obtain ⟨s, hsq⟩ : ∃ s, refS mixed st l = s := ⟨_, rfl⟩
  have HSQ := Lib.hid hsq
  rw [hsq] at HRR
  have hbs := obj_lt hs.1
  have HA2 := Lib.hid hs.2.2
  obtain ⟨n, hn⟩ : ∃ n, ids.length = n := ⟨_, rfl⟩
  have HN := Lib.hid hn
  have hw0 := hB0.size
  rw [hn] at hc hl ⊢
  clear ha hls hr hrl hoff hu hs hR hn hsq
  obtain ⟨bR, hbR⟩ : ∃ bR, w.heap.size = bR := ⟨_, rfl⟩
  go_enter Try.func28, Try.ntmps28
  go_wp2_with fail
  obtain ⟨w2, hw2⟩ : ∃ W, w.alloc (.cells #[.slice none 0 0, .int .i64 0, .slice none 0 0, .slice none 0 0, .int .i64 0] 60) = W := ⟨_, rfl⟩
  rw [hw2]
  have hb2 : Below w.heap.size w w2 := by rw [← hw2]; exact below_alloc1 (Below.refl _ _) _
  have br2 : w2.heap[bR]? = some (.cells #[.slice none 0 0, .int .i64 0, .slice none 0 0, .slice none 0 0, .int .i64 0] 60 (0, 0)) := by rw [← hw2, ← hbR]; exact heap_alloc_new w _
  have HO2 := Lib.hid (Only.of_below (S := fun q => q = bS) hb2)
  have HS2 := Lib.hid (show RefS w2 bS mixed st A' c' l (k + 2 * 0) from HSR.out.only (Only.of_below (S := fun _ => False) hb2) (fun h => h) fun _ _ _ h => h)
  have HBR2 := Lib.hid br2
  have hwb : w.heap.size ≤ bR := Nat.le_of_eq hbR
  have hbsR : bS < bR := by omega
  have HAF := Lib.hid (show ∀ ad, 0 < l.length → A' = some ad → ad.block ≠ bR from fun ad h1 h2 => by have h := Rd.blk_lt HSR.out.2.1 ad h1 h2; omega)
  clear hw2 hb2 br2 HSR hbR
  go_loopg [9] 4 (fun kq v9 w' => ∃ t : Nat, kq + t = 4 ∧ v9 = .int .i64 (t : Nat) ∧ w'.heap[bR]? = some (.cells #[.slice none 0 0, .int .i64 0, .slice none 0 0, .slice none 0 0, .int .i64 0] 60 (0, 0)) ∧ RefS w' bS mixed st A' c' l (k + 2 * t) ∧ Only (· = bS) w w' ∧ chooseF ls dim ids s k kq t = R)
  case atStart => exact ⟨0, rfl, rfl, HBR2.out, HS2.out, HO2.out, HRR.out⟩
  case round =>
    clear HBR2 HS2 HO2 HRR
    obtain ⟨t, hkt, rfl, hbr, hsr, hon, hR⟩ := hrel
    have HBR := Lib.hid hbr
    have HSR := Lib.hid hsr
    have HON := Lib.hid hon
    have hbw := Lib.hid (show Below w0.heap.size w0 wr from hB0.trans (hon.below hw0 fun q hq e => by omega))
    clear hbr hsr hon
    have hgo : (∃ g, gk = g + 1 ∧ 1 < n) ∨ ((gk = 0 ∨ ¬ 1 < n) ∧ flatV dim ids t = R) := by
      cases gk with
      | zero => exact .inr ⟨.inl rfl, hR⟩
      | succ g =>
        by_cases h1 : 1 < n
        · exact .inl ⟨g, rfl, h1⟩
        · refine .inr ⟨.inr h1, ?_⟩
          rw [← hR]
          unfold chooseF
          rw [if_neg (by rw [HN.out]; exact h1)]
    rcases hgo with ⟨g, rfl, h1⟩ | ⟨hex, hRf⟩
    · have ht3 : t ≤ 3 := by omega
      have HRE := Lib.hid hR
      have g1 : decide ((t : Int) < 4) = true := decide_eq_true (by omega)
      have g2 : decide ((2 : Int) ≤ (n : Int)) = true := decide_eq_true (by omega)
      have hwt : IntKind.i64.wrap ((t : Int) + 1) = (t : Int) + 1 := by rw [i64_w]; exact wrap64_id _ (by omega)
      obtain ⟨i, hpx, hi1⟩ := pX_bd s (k + 2 * t) n h1
      obtain ⟨j, hpy, hj1⟩ := pY_bd s (k + 2 * t) n h1
      have HPX := Lib.hid hpx
      have HPY := Lib.hid hpy
      have hkt2 : g + t ≤ 3 ∧ 3 ≤ g + t := by omega
      clear hR hkt hpx hpy
      go_wp2_with fail
      refine (refPair_calls bS mixed st A' c' l (k + 2 * t) (n : Int) wr HSR.out HU.out (by omega) (by omega)).mono ?_
      rintro e W2 ⟨he, hs2, ho2⟩
      rw [HSQ.out, HPX.out, HPY.out] at he
      subst he
      rw [show pK (n : Int) = 2 by unfold pK; rw [if_neg (by omega)]] at hs2
      have HON2 := Lib.hid (HON.out.trans ho2)
      have HS2 := Lib.hid (show RefS W2 bS mixed st A' c' l (k + 2 * (t + 1)) by rw [show k + 2 * (t + 1) = k + 2 * t + 2 by omega]; exact hs2)
      have HBR2 := Lib.hid (ho2.obj HBR.out (by omega))
      have hka := KA.out.onlyB HON2.out HO28.out
      have HBW2 := Lib.hid (show Below w0.heap.size w0 W2 from hB0.trans (HON2.out.below hw0 fun q hq e => by omega))
      obtain ⟨ad, rfl, hci⟩ := hka.2 i (by rw [HN.out]; exact hi1)
      obtain ⟨ad', had, hcj⟩ := hka.2 j (by rw [HN.out]; exact hj1)
      injection had with had
      subst had
      obtain ⟨id1, hid1⟩ : ∃ x, ids.getD i 0 = x := ⟨_, rfl⟩
      obtain ⟨id2, hid2⟩ : ∃ x, ids.getD j 0 = x := ⟨_, rfl⟩
      rw [hid1] at hci
      rw [hid2] at hcj
      obtain ⟨ya, hya⟩ : ∃ x, itemZ ls id1 = x := ⟨_, rfl⟩
      obtain ⟨yb, hyb⟩ : ∃ x, itemZ ls id2 = x := ⟨_, rfl⟩
      have HIA := Lib.hid (show itemA ls ids s (k + 2 * t) = ya by unfold itemA; rw [HN.out, HPX.out, Int.toNat_natCast, hid1, hya])
      have HIB := Lib.hid (show itemB ls ids s (k + 2 * t) = yb by unfold itemB; rw [HN.out, HPY.out, Int.toNat_natCast, hid2, hyb])
      have ra : R32 ya := by rw [← hya]; exact itemZ_r32 HR.out _
      have rb : R32 yb := by rw [← hyb]; exact itemZ_r32 HR.out _
      have la : ya.length ≤ 1024 := by rw [← hya]; exact itemZ_len HRL.out hd2 _
      have lb : yb.length ≤ 1024 := by rw [← hyb]; exact itemZ_len HRL.out hd2 _
      have RA := Lib.hid ra
      have RB := Lib.hid rb
      have itA := Lib.hid (hya ▸ Item_calls LA lc ls id1 : ∀ W, Rows W .i32 LA ls → Calls Try.prog 47 #[.slice LA ls.length lc, .int .i64 id1] W (ItemPost W ya))
      have itB := Lib.hid (hyb ▸ Item_calls LA lc ls id2 : ∀ W, Rows W .i32 LA ls → Calls Try.prog 47 #[.slice LA ls.length lc, .int .i64 id2] W (ItemPost W yb))
      have bi : (i : Int) < (n : Int) := by omega
      have bj : (j : Int) < (n : Int) := by omega
      have hbi := World.block_lt_of_cell? _ _ hci
      have hbj := World.block_lt_of_cell? _ _ hcj
      have hbz : Below W2.heap.size W2 W2 := Below.refl _ _
      have hz0 := HBW2.out.size
      have hz2 := HON2.out.size
      obtain ⟨ns, hns⟩ : ∃ ns, less ya yb = ns := ⟨_, rfl⟩
      obtain ⟨off, hoff⟩ : ∃ off, betweenOff ya yb = off := ⟨_, rfl⟩
      have HNS := Lib.hid hns
      have HOF := Lib.hid hoff
      have rn : R32 ns := by rw [← hns]; exact less_r32 _ _
      have RN := Lib.hid rn
      clear hs2 ho2 hka hid1 hid2 hya hyb ra rb hns hoff rn
      go_wp2_with fail
      go_cut [12] (fun s12 wx => ∃ q An cn, s12 = .pointer (some ⟨q, 0, none⟩) ∧ wx.heap[q]? = some (.cells #[.slice An ns.length cn, .int .i64 off] 26 (0, 0)) ∧ Rd wx .i32 An ns ∧ Below W2.heap.size W2 wx ∧ Off bR An ns.length)
      case first =>
        have hbRl2 := obj_lt HBR2.out
        have gci := fun o => (World.cell?_alloc_lt (o := o) W2 _ hbi).trans hci
        have gcj := fun o => (World.cell?_alloc_lt (o := o) W2 _ hbj).trans hcj
        go_region_held3 (fun w' => w'.cell? (ad.add i) = some (.int .i64 id1) ∧ w'.cell? (ad.add j) = some (.int .i64 id2) ∧ Below W2.heap.size W2 w')
          (first | exact ⟨cell_below (B := W2.heap.size) (w := W2) (by first | ((repeat (first | assumption | exact Below.refl _ _ | apply below_drew1 | apply below_alloc1 | refine below_set ?_ (Nat.le_refl _) _ _)); done)) hci hbi, cell_below (B := W2.heap.size) (w := W2) (by first | ((repeat (first | assumption | exact Below.refl _ _ | apply below_drew1 | apply below_alloc1 | refine below_set ?_ (Nat.le_refl _) _ _)); done)) hcj hbj, (by first | ((repeat (first | assumption | exact Below.refl _ _ | apply below_drew1 | apply below_alloc1 | refine below_set ?_ (Nat.le_refl _) _ _)); done))⟩ | go_keep)
          (first
            | (go_at_call 47; go_split_ands; (with_reducible refine Calls.mono (itA.out _ ?_) ?_); (exact KL.out.below (HBW2.out.trans (Below.mono (B := W2.heap.size) (by first | ((repeat (first | assumption | exact Below.refl _ _ | apply below_drew1 | apply below_alloc1)); done)) hz0))); rintro e wq ⟨⟨BA, da, he, hda, hrd⟩, hwq⟩; subst hwq; subst he; have HRA := Lib.hid hrd; clear hrd)
            | (go_at_call 47; go_split_ands; (with_reducible refine Calls.mono (itB.out _ ?_) ?_); (exact KL.out.below (HBW2.out.trans (Below.mono (B := W2.heap.size) (by first | ((repeat (first | assumption | exact Below.refl _ _ | apply below_drew1 | apply below_alloc1)); done)) hz0))); rintro e wq ⟨⟨BB, db, he, hdb, hrd⟩, hwq⟩; subst hwq; subst he; have HRB := Lib.hid hrd; clear hrd)
            | (go_at_call 56; go_split_ands; (with_reducible refine Calls.mono (refBetween_calls BA BB da db ya yb _ ?_ ?_ RA.out RB.out (by omega)) ?_); (exact HRA.out.below (below_of_drew (by first | ((repeat (first | assumption | exact Below.refl _ _ | apply below_drew1 | apply below_alloc1)); done)))); (exact HRB.out.below (below_of_drew (by first | ((repeat (first | assumption | exact Below.refl _ _ | apply below_drew1 | apply below_alloc1)); done)))); rintro e W4 ⟨vn, he, hon4, hbq⟩; rw [HNS.out] at hon4; rw [HOF.out] at he; subst he; obtain ⟨An, cn, rfl, hcn, _⟩ := hon4.shape; have hb24 : Below W2.heap.size W2 W4 := Below.after (by first | ((repeat (first | assumption | exact Below.refl _ _ | apply below_drew1 | apply below_alloc1)); done)) hbq; (try (have hpb : W4.heap[W2.heap.size]? = some (.cells #[.slice none 0 0, .int .i64 0] 26 (0, 0)) := (by with_reducible exact obj_below hbq (heap_alloc_drew W2 _) (by simp)); have hp0 : W4.cell? ⟨W2.heap.size, 0, none⟩ = some (.slice none 0 0) := (by simp [World.cell?, hpb]); have hp1 : W4.cell? ⟨W2.heap.size, 1, none⟩ = some (.int .i64 0) := (by simp [World.cell?, hpb]); have hf0 : W4.frozen? ⟨W2.heap.size, 0, none⟩ = false := (by simp [World.frozen?, hpb]); have hf1 : W4.frozen? ⟨W2.heap.size, 1, none⟩ = false := (by simp [World.frozen?, hpb]); have HPB := Lib.hid hpb; clear hpb))))
        -- MEET
        all_goals
          go_wp2_with fail
          go_meet
          first
            | exact ⟨_, An, cn, rfl, set_blk (cs := [_, _]) (set_blk (cs := [_, _]) HPB.out 0 _) 1 _, ((hon4.only (only_set _ _ _ _) (fun b hb e => by have := (hon4.lt b hb).1; simp at this; omega)).only (only_set _ _ _ _) (fun b hb e => by have := (hon4.lt b hb).1; simp at this; omega)).rd.2, below_set (below_set hb24 (Nat.le_refl _) _ _) (Nat.le_refl _) _ _, Off.own hon4 (by simp; omega)⟩
            | exact ⟨_, An, cn, rfl, heap_alloc_new W4 _, hon4.rd.2.alloc _, below_alloc1 hb24 _, Off.own hon4 (by simp; omega)⟩
      case rest =>
        obtain ⟨q, An, cn, rfl, hpq, hrn, hb5, hofn⟩ := hcut
        have HOFN := Lib.hid hofn
        have HB5 := Lib.hid hb5
        have HP5 := Lib.hid hpq
        have HRN := Lib.hid hrn
        have hbRl := obj_lt HBR2.out
        have HBR5 := Lib.hid (obj_below hb5 HBR2.out hbRl)
        have HS5 := Lib.hid (HS2.out.only (S := fun _ => False) (Only.of_below hb5) (fun h => h) fun _ _ _ h => h)
        have HON5 := Lib.hid (HON2.out.trans (Only.of_below hb5))
        have HBW5 := Lib.hid (HBW2.out.trans (hb5.mono hz0))
        have d0 : wc.cell? ⟨q, 0, none⟩ = some (.slice An ns.length cn) := by simp [World.cell?, hpq]
        have d1 : wc.cell? ⟨q, 1, none⟩ = some (.int .i64 off) := by simp [World.cell?, hpq]
        have hz5 := hb5.size
        clear hb5 hpq hrn hci hcj hbz hofn
        go_wp2_with fail
        refine (HN.out ▸ (rSide_calls LA lc ls (some ad) c ids An cn ns off false wc (KL.out.below HBW5.out) HR.out (KA.out.onlyB HON5.out HO28.out) (by rw [HN.out]; exact hl) HRN.out RN.out)).mono ?_
        rintro e W6 ⟨vl, he, hol, hb6⟩
        subst he
        obtain ⟨L, hL⟩ : ∃ L, sideL ls ns off ids false = L := ⟨_, rfl⟩
        obtain ⟨Q, hQ⟩ : ∃ Q, sideL ls ns off ids true = Q := ⟨_, rfl⟩
        have hLQ : L.length + Q.length = n := by rw [← hL, ← hQ, side_sum, HN.out]
        rw [hL] at hol
        obtain ⟨Al, cl, rfl, hcl, _⟩ := hol.shape
        have HLL := Lib.hid hL
        have HQQ := Lib.hid hQ
        have HTV := Lib.hid (show tryV ls ids s (k + 2 * t) (t + 1) = ⟨ns, off, L, Q, t + 1⟩ by unfold tryV; rw [HIA.out, HIB.out, HNS.out, HOF.out, hL, hQ])
        have HOL := Lib.hid hol
        have HB6 := Lib.hid hb6
        have hP6 := obj_below hb6 HP5.out (obj_lt HP5.out)
        have HP6 := Lib.hid hP6
        have HBR6 := Lib.hid (obj_below hb6 HBR5.out (obj_lt HBR5.out))
        have HS6 := Lib.hid (HS5.out.only (S := fun _ => False) (Only.of_below hb6) (fun h => h) fun _ _ _ h => h)
        have HON6 := Lib.hid (HON5.out.trans (Only.of_below hb6))
        have HBW6 := Lib.hid (HBW5.out.trans (hb6.mono (by omega)))
        have hz6 := hb6.size
        have hL6 : L.length ≤ 1000000 := by omega
        have hQ6 : Q.length ≤ 1000000 := by omega
        have hwq : IntKind.i64.wrap ((n : Int) - (L.length : Int)) = (Q.length : Int) := by rw [i64_w, show (n : Int) - (L.length : Int) = (Q.length : Int) by omega]; exact wrap64_id _ (by omega)
        obtain ⟨gd, hgd⟩ : ∃ gd, goodB L.length Q.length = gd := ⟨_, rfl⟩
        have HGD := Lib.hid hgd
        have HRF := Lib.hid (show (if gd = true then (⟨ns, off, L, Q, t + 1⟩ : SplitV) else chooseF ls dim ids s k g (t + 1)) = R by
          have h := HRE.out
          unfold chooseF at h
          rw [if_pos (by rw [HN.out]; exact h1), HTV.out] at h
          simp only at h
          rw [hgd] at h
          exact h)
        have hqlt := obj_lt hP6
        clear hol hb6 hL hQ hgd hP6 d0 d1 hLQ
        go_wp2_with fail
        refine (rGood_calls L.length Q.length W6 hL6 hQ6).mono ?_
        rintro e _ ⟨he, rfl⟩
        rw [HGD.out] at he
        subst he
        cases gd with
        | false =>
          go_wp2_with fail
          go_roundg g
          case measure => omega
          case rel =>
            exact ⟨t + 1, by omega, by simp, HBR6.out, HS6.out, HON6.out, by have h := HRF.out; rwa [if_neg (by simp)] at h⟩
        | true =>
          have hRR : (⟨ns, off, L, Q, t + 1⟩ : SplitV) = R := by have h := HRF.out; rwa [if_pos rfl] at h
          have HRR := Lib.hid hRR
          have d0 : W6.cell? ⟨q, 0, none⟩ = some (.slice An ns.length cn) := by have h := HP6.out; simp [World.cell?, h]
          have d1 : W6.cell? ⟨q, 1, none⟩ = some (.int .i64 off) := by have h := HP6.out; simp [World.cell?, h]
          have hbRl := obj_lt HBR6.out
          have r0 : W6.cell? ⟨bR, 0, none⟩ = some (.slice none 0 0) := by have h := HBR6.out; simp [World.cell?, h]
          have r1 : W6.cell? ⟨bR, 1, none⟩ = some (.int .i64 0) := by have h := HBR6.out; simp [World.cell?, h]
          have r2 : W6.cell? ⟨bR, 2, none⟩ = some (.slice none 0 0) := by have h := HBR6.out; simp [World.cell?, h]
          have r3 : W6.cell? ⟨bR, 3, none⟩ = some (.slice none 0 0) := by have h := HBR6.out; simp [World.cell?, h]
          have r4 : W6.cell? ⟨bR, 4, none⟩ = some (.int .i64 0) := by have h := HBR6.out; simp [World.cell?, h]
          have q0 : W6.frozen? ⟨bR, 0, none⟩ = false := free_blk HBR6.out 0
          have q1 : W6.frozen? ⟨bR, 1, none⟩ = false := free_blk HBR6.out 1
          have q2 : W6.frozen? ⟨bR, 2, none⟩ = false := free_blk HBR6.out 2
          have q3 : W6.frozen? ⟨bR, 3, none⟩ = false := free_blk HBR6.out 3
          have q4 : W6.frozen? ⟨bR, 4, none⟩ = false := free_blk HBR6.out 4
          have sdR := Lib.hid (HN.out ▸ HQQ.out ▸ (fun W h1 h2 h3 => rSide_calls LA lc ls (some ad) c ids An cn ns off true W h1 HR.out h2 (by rw [HN.out]; exact hl) h3 RN.out) : ∀ W, Rows W .i32 LA ls → Rd W .i64 (some ad) ids → Rd W .i32 An ns → Calls Try.prog 18 #[.slice LA ls.length lc, .slice (some ad) n c, .agg #[.slice An ns.length cn, .int .i64 off], .bool true] W fun e w' => ∃ v, e = .returned v ∧ Own w' W.heap.size 3 .i64 v Q ∧ Below W.heap.size W w')
          have KA6 := Lib.hid (KA.out.onlyB HON6.out HO28.out)
          have hbz : Below W6.heap.size W6 W6 := Below.refl _ _
          have hz06 := HBW6.out.size
          clear hRR
          go_wp2_with fail
          go_region_with (first
            | (go_at_call 18; (with_reducible refine Calls.mono (sdR.out _ ?_ ?_ ?_) ?_); (exact KL.out.below (HBW6.out.trans (Below.mono (B := W6.heap.size) (by first | ((repeat (first | assumption | exact Below.refl _ _ | apply below_drew1 | apply below_alloc1)); done)) hz06))); (exact KA6.out.below (by first | ((repeat (first | assumption | exact Below.refl _ _ | apply below_drew1 | apply below_alloc1)); done))); (exact HRN.out.below (HB6.out.trans (Below.mono (B := W6.heap.size) (by first | ((repeat (first | assumption | exact Below.refl _ _ | apply below_drew1 | apply below_alloc1)); done)) hz6))); rintro e W7 ⟨vr, he, hor, hbq⟩; subst he; obtain ⟨Ar, cr, rfl, hcr, _⟩ := hor.shape; have hb67 : Below W6.heap.size W6 W7 := Below.after (by first | ((repeat (first | assumption | exact Below.refl _ _ | apply below_drew1 | apply below_alloc1)); done)) hbq; have d07 := cell_below hb67 d0 hqlt; have d17 := cell_below hb67 d1 hqlt; have s0 := cell_below hb67 r0 hbRl; have s1 := cell_below hb67 r1 hbRl; have s2 := cell_below hb67 r2 hbRl; have s3 := cell_below hb67 r3 hbRl; have s4 := cell_below hb67 r4 hbRl; have u0 := frz_below hb67 q0 hbRl; have u1 := frz_below hb67 q1 hbRl; have u2 := frz_below hb67 q2 hbRl; have u3 := frz_below hb67 q3 hbRl; have u4 := frz_below hb67 q4 hbRl))
          all_goals
            have HBRF := Lib.hid (obj_below hb67 HBR6.out hbRl)
            have HSF := Lib.hid (HS6.out.only (S := fun _ => False) (Only.of_below hb67) (fun h => h) fun _ _ _ h => h)
            have HONF := Lib.hid (HON6.out.trans (Only.of_below hb67))
            have HOLF := Lib.hid (HOL.out.keep hb67)
            have HORF := Lib.hid hor
            have HRNF := Lib.hid (HRN.out.below (HB6.out.trans (hb67.mono hz6)))
            have HZ67 := Lib.hid hb67
            clear hor hbq hb67 hbz
            go_wp2_with fail
            obtain ⟨W9, hW9⟩ : ∃ W9, (((((W7.setCell ⟨bR, 0, none⟩ (.slice An ns.length cn)).setCell ⟨bR, 1, none⟩ (.int .i64 off)).setCell ⟨bR, 2, none⟩ (.slice Al L.length cl)).setCell ⟨bR, 3, none⟩ (.slice Ar Q.length cr)).setCell ⟨bR, 4, none⟩ (.int .i64 ((t : Int) + 1))) = W9 := ⟨_, rfl⟩
            have hres : W9.heap[bR]? = some (.cells #[.slice An ns.length cn, .int .i64 off, .slice Al L.length cl, .slice Ar Q.length cr, .int .i64 ((t : Int) + 1)] 60 (0, 0)) := by
              rw [← hW9]; exact set_blk (cs := [_, _, _, _, _]) (set_blk (cs := [_, _, _, _, _]) (set_blk (cs := [_, _, _, _, _]) (set_blk (cs := [_, _, _, _, _]) (set_blk (cs := [_, _, _, _, _]) HBRF.out 0 _) 1 _) 2 _) 3 _) 4 _
            have e0 : W9.cell? ⟨bR, 0, none⟩ = some (.slice An ns.length cn) := by simp [World.cell?, hres]
            have e1 : W9.cell? ⟨bR, 1, none⟩ = some (.int .i64 off) := by simp [World.cell?, hres]
            have e2 : W9.cell? ⟨bR, 2, none⟩ = some (.slice Al L.length cl) := by simp [World.cell?, hres]
            have e3 : W9.cell? ⟨bR, 3, none⟩ = some (.slice Ar Q.length cr) := by simp [World.cell?, hres]
            have e4 : W9.cell? ⟨bR, 4, none⟩ = some (.int .i64 ((t : Int) + 1)) := by simp [World.cell?, hres]
            have ho9 : Only (· = bR) W7 W9 := by
              rw [← hW9]; exact ((((only_set _ bR 0 _).trans (only_set _ bR 1 _)).trans (only_set _ bR 2 _)).trans (only_set _ bR 3 _)).trans (only_set _ bR 4 _)
            have HO9 := Lib.hid ho9
            try rw [hW9]
            clear hW9 ho9
            refine bodyPost_ret (v := .agg #[.slice An ns.length cn, .int .i64 off, .slice Al L.length cl, .slice Ar Q.length cr, .int .i64 ((t : Int) + 1)]) ?_ rfl ?_
            · rw [results_cell1 rfl]
              go_simp
            · rw [← HRR.out]
              exact ⟨An, cn, Al, cl, Ar, cr, by simp, HRNF.out.onlyB HO9.out (fun ad h1 h2 e => HOFN.out ad h1 h2 e), ⟨(HOLF.out.only HO9.out (fun b hb e => by have h1 := (HOLF.out.lt b hb).1; have h2 := obj_lt HBR5.out; omega)).rd.2, Off.own HOLF.out (by have h2 := obj_lt HBR5.out; omega), hcl⟩, ⟨(HORF.out.only HO9.out (fun b hb e => by have h1 : W6.heap.size ≤ b := (HORF.out.lt b hb).1; have h2 := obj_lt HBR6.out; omega)).rd.2, Off.own (base := W6.heap.size) HORF.out (by have h2 := obj_lt HBR6.out; omega), hcr⟩, HSF.out.only HO9.out (by omega) (fun ad h1 h2 e => HAF.out ad h1 h2 e), HONF.out.trans2 HO9.out fun q hq e => by omega⟩
    · skip
      obtain ⟨tl, htl⟩ : ∃ tl, decide ((t : Int) < 4) = tl := ⟨_, rfl⟩
      obtain ⟨nl, hnl⟩ : ∃ nl, decide ((2 : Int) ≤ (n : Int)) = nl := ⟨_, rfl⟩
      have htn : nl = false ∨ (nl = true ∧ tl = false) := by
        rcases hex with h | h
        · cases nl
          · exact .inl rfl
          · exact .inr ⟨rfl, by rw [← htl]; exact decide_eq_false (by omega)⟩
        · exact .inl (by rw [← hnl]; exact decide_eq_false (by omega))
      have ht4 : t ≤ 4 := by omega
      obtain ⟨m, hm⟩ : ∃ m, halfN n = m := ⟨_, rfl⟩
      have hmn : m ≤ n := by rw [← hm]; unfold halfN; omega
      have hdv : ((n : Int)).tdiv 2 = ((n / 2 : Nat) : Int) := by rw [Int.tdiv_eq_ediv_of_nonneg (by omega)]; omega
      have hwm : IntKind.i64.wrap ((n : Int) - ((n / 2 : Nat) : Int)) = (m : Int) := by rw [i64_w, show (n : Int) - ((n / 2 : Nat) : Int) = (m : Int) by rw [← hm]; unfold halfN; omega]; exact wrap64_id _ (by omega)
      have hwm0 : IntKind.i64.wrap ((n / 2 : Nat) : Int) = ((n / 2 : Nat) : Int) := by rw [i64_w]; exact wrap64_id _ (by omega)
      have hwm2 : IntKind.i64.wrap ((n : Int) - (n : Int) / 2) = (m : Int) := by rw [i64_w, show (n : Int) - (n : Int) / 2 = (m : Int) by rw [← hm]; unfold halfN; omega]; exact wrap64_id _ (by omega)
      have hwm3 : IntKind.i64.wrap ((n : Int) / 2) = (n : Int) / 2 := by rw [i64_w]; exact wrap64_id _ (by omega)
      have b0 : (0 : Int) ≤ (m : Int) := by omega
      have b1 : (m : Int) ≤ (n : Int) := by omega
      have b2 : (m : Int) ≤ (c : Int) := by omega
      have hlt1 : (ids.take m).length = m := by rw [List.length_take, HN.out]; omega
      have hlt2 : (ids.drop m).length = n - m := by rw [List.length_drop, HN.out]
      have HRR := Lib.hid (show (⟨List.replicate dim 0, 0, ids.take m, ids.drop m, t⟩ : SplitV) = R by rw [← hRf]; unfold flatV; rw [HN.out, hm])
      have HT := Lib.hid hlt1
      have HD := Lib.hid hlt2
      have hbRl := obj_lt HBR.out
      have r0 : wr.cell? ⟨bR, 0, none⟩ = some (.slice none 0 0) := by have h := HBR.out; simp [World.cell?, h]
      have r1 : wr.cell? ⟨bR, 1, none⟩ = some (.int .i64 0) := by have h := HBR.out; simp [World.cell?, h]
      have r2 : wr.cell? ⟨bR, 2, none⟩ = some (.slice none 0 0) := by have h := HBR.out; simp [World.cell?, h]
      have r3 : wr.cell? ⟨bR, 3, none⟩ = some (.slice none 0 0) := by have h := HBR.out; simp [World.cell?, h]
      have r4 : wr.cell? ⟨bR, 4, none⟩ = some (.int .i64 0) := by have h := HBR.out; simp [World.cell?, h]
      have q0 : wr.frozen? ⟨bR, 0, none⟩ = false := free_blk HBR.out 0
      have q1 : wr.frozen? ⟨bR, 1, none⟩ = false := free_blk HBR.out 1
      have q2 : wr.frozen? ⟨bR, 2, none⟩ = false := free_blk HBR.out 2
      have q3 : wr.frozen? ⟨bR, 3, none⟩ = false := free_blk HBR.out 3
      have q4 : wr.frozen? ⟨bR, 4, none⟩ = false := free_blk HBR.out 4
      have hcut := Rd.cutR (m := m) (c := c) (KA.out.onlyB HON.out HO28.out) (by rw [HN.out]; exact hmn) (by rw [HN.out]; exact hc)
      have CT := Lib.hid hcut.1
      have CD := Lib.hid hcut.2
      have hbz : Below wr.heap.size wr wr := Below.refl _ _
      have hoT : Off bS A m := fun ad h1 e => HO28.out ad (by rw [HN.out]; omega) e
      have hoR : ∀ ad, 0 < n → A = some ad → ad.block ≠ bR := fun ad h1 e => by
        have h := (Rd.blk_lt KA.out ad (by rw [HN.out]; exact h1) e)
        omega
      have HOT := Lib.hid hoT
      have HORA := Lib.hid hoR
      clear hR hRf hex hkt hm hlt1 hlt2 hcut hoT hoR
      by_cases hcm : m = c
      · subst hcm
        have CD2 := Lib.hid (show Rd wr .i64 A (ids.drop m) from by have h := CD.out; rwa [if_pos rfl] at h)
        have HD0 := Lib.hid (show (ids.drop m).length = 0 by rw [HD.out]; omega)
        rcases htn with rfl | ⟨rfl, rfl⟩
        · skip
          go_wp2_with fail
          go_region_with (first
            | (go_at_call 25; (with_reducible refine Calls.mono (refFlat_calls dim _ hd2) ?_); rintro e W7 ⟨vn, he, hor, hbq⟩; subst he; have hsh := hor.shape; rw [List.length_replicate] at hsh; obtain ⟨An, cn, rfl, hcn, _⟩ := hsh; have hb67 : Below wr.heap.size wr W7 := Below.after (by first | ((repeat (first | assumption | exact Below.refl _ _ | apply below_drew1 | apply below_alloc1)); done)) hbq; have s0 := cell_below hb67 r0 hbRl; have s1 := cell_below hb67 r1 hbRl; have s2 := cell_below hb67 r2 hbRl; have s3 := cell_below hb67 r3 hbRl; have s4 := cell_below hb67 r4 hbRl; have u0 := frz_below hb67 q0 hbRl; have u1 := frz_below hb67 q1 hbRl; have u2 := frz_below hb67 q2 hbRl; have u3 := frz_below hb67 q3 hbRl; have u4 := frz_below hb67 q4 hbRl))
          all_goals
            have HBRF := Lib.hid (obj_below hb67 HBR.out hbRl)
            have HSF := Lib.hid (HSR.out.only (S := fun _ => False) (Only.of_below hb67) (fun h => h) fun _ _ _ h => h)
            have HONF := Lib.hid (HON.out.trans (Only.of_below hb67))
            have HORF := Lib.hid hor
            have HZ67 := Lib.hid hb67
            have hwrz : bR < wr.heap.size := hbRl
            clear hor hbq hb67 hbz
            go_wp2_with fail
            obtain ⟨W9, hW9⟩ : ∃ W9, (((((W7.setCell ⟨bR, 0, none⟩ (.slice An dim cn)).setCell ⟨bR, 1, none⟩ (.int .i64 0)).setCell ⟨bR, 2, none⟩ (.slice A m m)).setCell ⟨bR, 3, none⟩ (.slice (A) (0) (0))).setCell ⟨bR, 4, none⟩ (.int .i64 (t : Nat))) = W9 := ⟨_, rfl⟩
            have hres : W9.heap[bR]? = some (.cells #[.slice An dim cn, .int .i64 0, .slice A m m, .slice (A) (0) (0), .int .i64 (t : Nat)] 60 (0, 0)) := by
              rw [← hW9]; exact set_blk (cs := [_, _, _, _, _]) (set_blk (cs := [_, _, _, _, _]) (set_blk (cs := [_, _, _, _, _]) (set_blk (cs := [_, _, _, _, _]) (set_blk (cs := [_, _, _, _, _]) HBRF.out 0 _) 1 _) 2 _) 3 _) 4 _
            have e0 : W9.cell? ⟨bR, 0, none⟩ = some (.slice An dim cn) := by simp [World.cell?, hres]
            have e1 : W9.cell? ⟨bR, 1, none⟩ = some (.int .i64 0) := by simp [World.cell?, hres]
            have e2 : W9.cell? ⟨bR, 2, none⟩ = some (.slice A m m) := by simp [World.cell?, hres]
            have e3 : W9.cell? ⟨bR, 3, none⟩ = some (.slice (A) (0) (0)) := by simp [World.cell?, hres]
            have e4 : W9.cell? ⟨bR, 4, none⟩ = some (.int .i64 (t : Nat)) := by simp [World.cell?, hres]
            have ho9 : Only (· = bR) W7 W9 := by
              rw [← hW9]; exact ((((only_set _ bR 0 _).trans (only_set _ bR 1 _)).trans (only_set _ bR 2 _)).trans (only_set _ bR 3 _)).trans (only_set _ bR 4 _)
            have HO9 := Lib.hid ho9
            try rw [hW9]
            clear hW9 ho9
            refine bodyPost_ret (v := .agg #[.slice An dim cn, .int .i64 0, .slice A m m, .slice (A) (0) (0), .int .i64 (t : Nat)]) ?_ rfl ?_
            · rw [results_cell1 rfl]
              go_simp
            · rw [← HRR.out]
              exact ⟨An, cn, A, m, A, 0, by rw [HT.out, HD0.out, List.length_replicate], (HORF.out.only HO9.out (fun b hb e => by have := (HORF.out.lt b hb).1; simp at this; omega)).rd.2, ⟨(CT.out.below HZ67.out).onlyB HO9.out (fun ad h1 h2 e => HORA.out ad (by rw [HT.out] at h1; omega) h2 e), (by rw [HT.out]; exact HOT.out), (by rw [HT.out]; omega)⟩, ⟨(CD2.out.below HZ67.out).onlyB HO9.out (fun ad h1 h2 e => by rw [HD0.out] at h1; omega), (fun ad h1 e => by rw [HD0.out] at h1; omega), (by rw [HD0.out]; omega)⟩, HSF.out.only HO9.out (by omega) (fun ad h1 h2 e => HAF.out ad h1 h2 e), HONF.out.trans2 HO9.out fun q hq e => by omega⟩
        · skip
          go_wp2_with fail
          go_region_with (first
            | (go_at_call 25; (with_reducible refine Calls.mono (refFlat_calls dim _ hd2) ?_); rintro e W7 ⟨vn, he, hor, hbq⟩; subst he; have hsh := hor.shape; rw [List.length_replicate] at hsh; obtain ⟨An, cn, rfl, hcn, _⟩ := hsh; have hb67 : Below wr.heap.size wr W7 := Below.after (by first | ((repeat (first | assumption | exact Below.refl _ _ | apply below_drew1 | apply below_alloc1)); done)) hbq; have s0 := cell_below hb67 r0 hbRl; have s1 := cell_below hb67 r1 hbRl; have s2 := cell_below hb67 r2 hbRl; have s3 := cell_below hb67 r3 hbRl; have s4 := cell_below hb67 r4 hbRl; have u0 := frz_below hb67 q0 hbRl; have u1 := frz_below hb67 q1 hbRl; have u2 := frz_below hb67 q2 hbRl; have u3 := frz_below hb67 q3 hbRl; have u4 := frz_below hb67 q4 hbRl))
          all_goals
            have HBRF := Lib.hid (obj_below hb67 HBR.out hbRl)
            have HSF := Lib.hid (HSR.out.only (S := fun _ => False) (Only.of_below hb67) (fun h => h) fun _ _ _ h => h)
            have HONF := Lib.hid (HON.out.trans (Only.of_below hb67))
            have HORF := Lib.hid hor
            have HZ67 := Lib.hid hb67
            have hwrz : bR < wr.heap.size := hbRl
            clear hor hbq hb67 hbz
            go_wp2_with fail
            obtain ⟨W9, hW9⟩ : ∃ W9, (((((W7.setCell ⟨bR, 0, none⟩ (.slice An dim cn)).setCell ⟨bR, 1, none⟩ (.int .i64 0)).setCell ⟨bR, 2, none⟩ (.slice A m m)).setCell ⟨bR, 3, none⟩ (.slice (A) (0) (0))).setCell ⟨bR, 4, none⟩ (.int .i64 (t : Nat))) = W9 := ⟨_, rfl⟩
            have hres : W9.heap[bR]? = some (.cells #[.slice An dim cn, .int .i64 0, .slice A m m, .slice (A) (0) (0), .int .i64 (t : Nat)] 60 (0, 0)) := by
              rw [← hW9]; exact set_blk (cs := [_, _, _, _, _]) (set_blk (cs := [_, _, _, _, _]) (set_blk (cs := [_, _, _, _, _]) (set_blk (cs := [_, _, _, _, _]) (set_blk (cs := [_, _, _, _, _]) HBRF.out 0 _) 1 _) 2 _) 3 _) 4 _
            have e0 : W9.cell? ⟨bR, 0, none⟩ = some (.slice An dim cn) := by simp [World.cell?, hres]
            have e1 : W9.cell? ⟨bR, 1, none⟩ = some (.int .i64 0) := by simp [World.cell?, hres]
            have e2 : W9.cell? ⟨bR, 2, none⟩ = some (.slice A m m) := by simp [World.cell?, hres]
            have e3 : W9.cell? ⟨bR, 3, none⟩ = some (.slice (A) (0) (0)) := by simp [World.cell?, hres]
            have e4 : W9.cell? ⟨bR, 4, none⟩ = some (.int .i64 (t : Nat)) := by simp [World.cell?, hres]
            have ho9 : Only (· = bR) W7 W9 := by
              rw [← hW9]; exact ((((only_set _ bR 0 _).trans (only_set _ bR 1 _)).trans (only_set _ bR 2 _)).trans (only_set _ bR 3 _)).trans (only_set _ bR 4 _)
            have HO9 := Lib.hid ho9
            try rw [hW9]
            clear hW9 ho9
            refine bodyPost_ret (v := .agg #[.slice An dim cn, .int .i64 0, .slice A m m, .slice (A) (0) (0), .int .i64 (t : Nat)]) ?_ rfl ?_
            · rw [results_cell1 rfl]
              go_simp
            · rw [← HRR.out]
              exact ⟨An, cn, A, m, A, 0, by rw [HT.out, HD0.out, List.length_replicate], (HORF.out.only HO9.out (fun b hb e => by have := (HORF.out.lt b hb).1; simp at this; omega)).rd.2, ⟨(CT.out.below HZ67.out).onlyB HO9.out (fun ad h1 h2 e => HORA.out ad (by rw [HT.out] at h1; omega) h2 e), (by rw [HT.out]; exact HOT.out), (by rw [HT.out]; omega)⟩, ⟨(CD2.out.below HZ67.out).onlyB HO9.out (fun ad h1 h2 e => by rw [HD0.out] at h1; omega), (fun ad h1 e => by rw [HD0.out] at h1; omega), (by rw [HD0.out]; omega)⟩, HSF.out.only HO9.out (by omega) (fun ad h1 h2 e => HAF.out ad h1 h2 e), HONF.out.trans2 HO9.out fun q hq e => by omega⟩
      · have hcm2 : ¬ c = m := fun h => hcm h.symm
        have CD2 := Lib.hid (show Rd wr .i64 (Option.map (fun x => x.add m) A) (ids.drop m) from by have h := CD.out; rwa [if_neg hcm2] at h)
        rcases htn with rfl | ⟨rfl, rfl⟩
        · skip
          go_wp2_with fail
          go_region_with (first
            | (go_at_call 25; (with_reducible refine Calls.mono (refFlat_calls dim _ hd2) ?_); rintro e W7 ⟨vn, he, hor, hbq⟩; subst he; have hsh := hor.shape; rw [List.length_replicate] at hsh; obtain ⟨An, cn, rfl, hcn, _⟩ := hsh; have hb67 : Below wr.heap.size wr W7 := Below.after (by first | ((repeat (first | assumption | exact Below.refl _ _ | apply below_drew1 | apply below_alloc1)); done)) hbq; have s0 := cell_below hb67 r0 hbRl; have s1 := cell_below hb67 r1 hbRl; have s2 := cell_below hb67 r2 hbRl; have s3 := cell_below hb67 r3 hbRl; have s4 := cell_below hb67 r4 hbRl; have u0 := frz_below hb67 q0 hbRl; have u1 := frz_below hb67 q1 hbRl; have u2 := frz_below hb67 q2 hbRl; have u3 := frz_below hb67 q3 hbRl; have u4 := frz_below hb67 q4 hbRl))
          all_goals
            have HBRF := Lib.hid (obj_below hb67 HBR.out hbRl)
            have HSF := Lib.hid (HSR.out.only (S := fun _ => False) (Only.of_below hb67) (fun h => h) fun _ _ _ h => h)
            have HONF := Lib.hid (HON.out.trans (Only.of_below hb67))
            have HORF := Lib.hid hor
            have HZ67 := Lib.hid hb67
            have hwrz : bR < wr.heap.size := hbRl
            clear hor hbq hb67 hbz
            go_wp2_with fail
            obtain ⟨W9, hW9⟩ : ∃ W9, (((((W7.setCell ⟨bR, 0, none⟩ (.slice An dim cn)).setCell ⟨bR, 1, none⟩ (.int .i64 0)).setCell ⟨bR, 2, none⟩ (.slice A m c)).setCell ⟨bR, 3, none⟩ (.slice (Option.map (fun x => x.add m) A) (n - m) (c - m))).setCell ⟨bR, 4, none⟩ (.int .i64 (t : Nat))) = W9 := ⟨_, rfl⟩
            have hres : W9.heap[bR]? = some (.cells #[.slice An dim cn, .int .i64 0, .slice A m c, .slice (Option.map (fun x => x.add m) A) (n - m) (c - m), .int .i64 (t : Nat)] 60 (0, 0)) := by
              rw [← hW9]; exact set_blk (cs := [_, _, _, _, _]) (set_blk (cs := [_, _, _, _, _]) (set_blk (cs := [_, _, _, _, _]) (set_blk (cs := [_, _, _, _, _]) (set_blk (cs := [_, _, _, _, _]) HBRF.out 0 _) 1 _) 2 _) 3 _) 4 _
            have e0 : W9.cell? ⟨bR, 0, none⟩ = some (.slice An dim cn) := by simp [World.cell?, hres]
            have e1 : W9.cell? ⟨bR, 1, none⟩ = some (.int .i64 0) := by simp [World.cell?, hres]
            have e2 : W9.cell? ⟨bR, 2, none⟩ = some (.slice A m c) := by simp [World.cell?, hres]
            have e3 : W9.cell? ⟨bR, 3, none⟩ = some (.slice (Option.map (fun x => x.add m) A) (n - m) (c - m)) := by simp [World.cell?, hres]
            have e4 : W9.cell? ⟨bR, 4, none⟩ = some (.int .i64 (t : Nat)) := by simp [World.cell?, hres]
            have ho9 : Only (· = bR) W7 W9 := by
              rw [← hW9]; exact ((((only_set _ bR 0 _).trans (only_set _ bR 1 _)).trans (only_set _ bR 2 _)).trans (only_set _ bR 3 _)).trans (only_set _ bR 4 _)
            have HO9 := Lib.hid ho9
            try rw [hW9]
            clear hW9 ho9
            refine bodyPost_ret (v := .agg #[.slice An dim cn, .int .i64 0, .slice A m c, .slice (Option.map (fun x => x.add m) A) (n - m) (c - m), .int .i64 (t : Nat)]) ?_ rfl ?_
            · rw [results_cell1 rfl]
              go_simp
            · rw [← HRR.out]
              exact ⟨An, cn, A, c, Option.map (fun x => x.add m) A, c - m, by rw [HT.out, HD.out, List.length_replicate], (HORF.out.only HO9.out (fun b hb e => by have := (HORF.out.lt b hb).1; simp at this; omega)).rd.2, ⟨(CT.out.below HZ67.out).onlyB HO9.out (fun ad h1 h2 e => HORA.out ad (by rw [HT.out] at h1; omega) h2 e), (by rw [HT.out]; exact HOT.out), (by rw [HT.out]; omega)⟩, ⟨(CD2.out.below HZ67.out).onlyB HO9.out (fun ad h1 h2 e => Off.add (b := bR) (n := n) (fun ad h1 h2 => HORA.out ad h1 h2) m (show (ids.drop m).length ≤ n by rw [HD.out]; omega) ad h1 h2 e), (Off.add (n := ids.length) HO28.out m (by rw [HD.out, HN.out]; omega)), (by rw [HD.out]; omega)⟩, HSF.out.only HO9.out (by omega) (fun ad h1 h2 e => HAF.out ad h1 h2 e), HONF.out.trans2 HO9.out fun q hq e => by omega⟩
        · skip
          go_wp2_with fail
          go_region_with (first
            | (go_at_call 25; (with_reducible refine Calls.mono (refFlat_calls dim _ hd2) ?_); rintro e W7 ⟨vn, he, hor, hbq⟩; subst he; have hsh := hor.shape; rw [List.length_replicate] at hsh; obtain ⟨An, cn, rfl, hcn, _⟩ := hsh; have hb67 : Below wr.heap.size wr W7 := Below.after (by first | ((repeat (first | assumption | exact Below.refl _ _ | apply below_drew1 | apply below_alloc1)); done)) hbq; have s0 := cell_below hb67 r0 hbRl; have s1 := cell_below hb67 r1 hbRl; have s2 := cell_below hb67 r2 hbRl; have s3 := cell_below hb67 r3 hbRl; have s4 := cell_below hb67 r4 hbRl; have u0 := frz_below hb67 q0 hbRl; have u1 := frz_below hb67 q1 hbRl; have u2 := frz_below hb67 q2 hbRl; have u3 := frz_below hb67 q3 hbRl; have u4 := frz_below hb67 q4 hbRl))
          all_goals
            have HBRF := Lib.hid (obj_below hb67 HBR.out hbRl)
            have HSF := Lib.hid (HSR.out.only (S := fun _ => False) (Only.of_below hb67) (fun h => h) fun _ _ _ h => h)
            have HONF := Lib.hid (HON.out.trans (Only.of_below hb67))
            have HORF := Lib.hid hor
            have HZ67 := Lib.hid hb67
            have hwrz : bR < wr.heap.size := hbRl
            clear hor hbq hb67 hbz
            go_wp2_with fail
            obtain ⟨W9, hW9⟩ : ∃ W9, (((((W7.setCell ⟨bR, 0, none⟩ (.slice An dim cn)).setCell ⟨bR, 1, none⟩ (.int .i64 0)).setCell ⟨bR, 2, none⟩ (.slice A m c)).setCell ⟨bR, 3, none⟩ (.slice (Option.map (fun x => x.add m) A) (n - m) (c - m))).setCell ⟨bR, 4, none⟩ (.int .i64 (t : Nat))) = W9 := ⟨_, rfl⟩
            have hres : W9.heap[bR]? = some (.cells #[.slice An dim cn, .int .i64 0, .slice A m c, .slice (Option.map (fun x => x.add m) A) (n - m) (c - m), .int .i64 (t : Nat)] 60 (0, 0)) := by
              rw [← hW9]; exact set_blk (cs := [_, _, _, _, _]) (set_blk (cs := [_, _, _, _, _]) (set_blk (cs := [_, _, _, _, _]) (set_blk (cs := [_, _, _, _, _]) (set_blk (cs := [_, _, _, _, _]) HBRF.out 0 _) 1 _) 2 _) 3 _) 4 _
            have e0 : W9.cell? ⟨bR, 0, none⟩ = some (.slice An dim cn) := by simp [World.cell?, hres]
            have e1 : W9.cell? ⟨bR, 1, none⟩ = some (.int .i64 0) := by simp [World.cell?, hres]
            have e2 : W9.cell? ⟨bR, 2, none⟩ = some (.slice A m c) := by simp [World.cell?, hres]
            have e3 : W9.cell? ⟨bR, 3, none⟩ = some (.slice (Option.map (fun x => x.add m) A) (n - m) (c - m)) := by simp [World.cell?, hres]
            have e4 : W9.cell? ⟨bR, 4, none⟩ = some (.int .i64 (t : Nat)) := by simp [World.cell?, hres]
            have ho9 : Only (· = bR) W7 W9 := by
              rw [← hW9]; exact ((((only_set _ bR 0 _).trans (only_set _ bR 1 _)).trans (only_set _ bR 2 _)).trans (only_set _ bR 3 _)).trans (only_set _ bR 4 _)
            have HO9 := Lib.hid ho9
            try rw [hW9]
            clear hW9 ho9
            refine bodyPost_ret (v := .agg #[.slice An dim cn, .int .i64 0, .slice A m c, .slice (Option.map (fun x => x.add m) A) (n - m) (c - m), .int .i64 (t : Nat)]) ?_ rfl ?_
            · rw [results_cell1 rfl]
              go_simp
            · rw [← HRR.out]
              exact ⟨An, cn, A, c, Option.map (fun x => x.add m) A, c - m, by rw [HT.out, HD.out, List.length_replicate], (HORF.out.only HO9.out (fun b hb e => by have := (HORF.out.lt b hb).1; simp at this; omega)).rd.2, ⟨(CT.out.below HZ67.out).onlyB HO9.out (fun ad h1 h2 e => HORA.out ad (by rw [HT.out] at h1; omega) h2 e), (by rw [HT.out]; exact HOT.out), (by rw [HT.out]; omega)⟩, ⟨(CD2.out.below HZ67.out).onlyB HO9.out (fun ad h1 h2 e => Off.add (b := bR) (n := n) (fun ad h1 h2 => HORA.out ad h1 h2) m (show (ids.drop m).length ≤ n by rw [HD.out]; omega) ad h1 h2 e), (Off.add (n := ids.length) HO28.out m (by rw [HD.out, HN.out]; omega)), (by rw [HD.out]; omega)⟩, HSF.out.only HO9.out (by omega) (fun ad h1 h2 e => HAF.out ad h1 h2 e), HONF.out.trans2 HO9.out fun q hq e => by omega⟩
end Go.Proofs.Ytohmcpblagcfeaa
