
/-
  The document's Grow and Tree, walked. Conditions: those of the theorems' heads.
-/
import Derived.Test.YtohmcpblagcfeaaGrowR
namespace Go.Proofs.Ytohmcpblagcfeaa
open Go.RowKit
set_option linter.unusedVariables false
set_option maxRecDepth 100000
set_option linter.unusedSimpArgs false

theorem OwnF.one {α : Type} {f : α → List Value} {q : Nat} {w : World} {base g : Nat} {t : TypeId} {x : α} (h : w.heap[g]? = some (.cells (f x).toArray t (0, 0))) (hb : base ≤ g) (hq : ∀ x, (f x).length = q) : OwnF w base t q f (.slice (some ⟨g, 0, none⟩) 1 1) [x] := by
  refine ⟨by simp [hq], .inr ⟨g, 1, _, rfl, hb, h, Nat.le_refl _, by unfold maxLen; omega, by simp [hq], ?_⟩⟩
  have := hq x
  simp only [List.length_singleton, Nat.one_mul, List.flatMap_cons, List.flatMap_nil, List.append_nil]
  exact List.take_of_length_le (by simp [hq])
theorem rd32_off {w : World} {b : Nat} {mixed : Bool} {st : Int} {A' : Option Addr} {c' : Nat} {l : List Int} {n : Nat} (h : RefS w b mixed st A' c' l n) {A : Option Addr} {xs : List Int} (hr : Rd w .i32 A xs) : Off b A xs.length := fun ad hn e he => by
  obtain ⟨ad', e', hc⟩ := hr.2 0 hn
  rw [e] at e'
  injection e' with e'
  subst e'
  have hbl : (ad.add 0).block = ad.block := by unfold Addr.add; split <;> rfl
  have hb := h.1
  rw [← he, ← hbl] at hb
  unfold World.cell? at hc
  rw [hb] at hc
  (try simp only at hc)
  split at hc
  · cases hc
  · generalize (ad.add 0).off = o at hc
    match o with
    | 0 => simp at hc
    | 1 => simp at hc
    | 2 => simp at hc
    | 3 => simp at hc
    | o + 4 => simp at hc
def RGPost (w : World) (bS : Nat) (mixed : Bool) (st : Int) (A' : Option Addr) (c' : Nat) (l : List Int) (T : List NodeV × Nat) (e : Ending) (w' : World) : Prop :=
  ∃ v, e = .returned v ∧ RdN w' (· = bS) v T.1 ∧ RefS w' bS mixed st A' c' l T.2 ∧ Only (· = bS) w w'
set_option maxHeartbeats 6400000 in
set_option maxRecDepth 100000 in
theorem RGrow_calls (bS dim leaf dm : Nat) (t : Int) (sc : Bool) (sd : Int) (DA : Option Addr) (dn dc : Nat) (mixed : Bool) (st : Int) (A' : Option Addr) (c' : Nat) (l : List Int) (LA : Option Addr) (lc : Nat) (ls : List (List Int)) (w0 : World)
    (hb0 : w0.heap.size ≤ bS) (hls : Rows w0 .i32 LA ls) (hr : ∀ r ∈ ls, R32 r) (hrl : ∀ r ∈ ls, r.length = dim) (hd2 : dim ≤ 1024) (hlf : 1 ≤ leaf) (hu : U64 l) (hdm : dm ≤ 64) :
    ∀ (f : Nat) (ids : List Int) (A : Option Addr) (c at_ k : Nat) (w : World), f ≤ dm → Below w0.heap.size w0 w → Lies w 0 .i64 A c ids (· = bS) → 1 ≤ ids.length → ids.length ≤ 1000 → k + 8 * ids.length ≤ 900000 → at_ + 2 * ids.length ≤ 1000000 → RefS w bS mixed st A' c' l k →
    Calls Try.prog 59 #[.slice LA ls.length lc, .int .i64 (dim : Int), .agg #[.int .i64 t, .int .i64 (leaf : Int), .int .i64 (dm : Int), .bool sc, .int .u64 sd, .slice DA dn dc], .slice A ids.length c, .int .i64 ((dm - f : Nat) : Int), .int .i64 (at_ : Int), .pointer (some ⟨bS, 0, none⟩)] w (RGPost w bS mixed st A' c' l (growF ls dim leaf (refS mixed st l) f ids at_ k)) := by
  have KL := Lib.hid hls
  have HR := Lib.hid hr
  have HRL := Lib.hid hrl
  have HU := Lib.hid hu
  clear hls hr hrl hu
  intro f
  induction f with
  | zero =>
    intro ids A c at_ k w hf hB0 hli h1 h2 hk hat hrs
    have HLI := Lib.hid hli
    have HRS := Lib.hid hrs
    have HBS := Lib.hid (obj_lt hrs.1)
    obtain ⟨nj, hnj⟩ : ∃ x, ids.length = x := ⟨_, rfl⟩
    have HNJ := Lib.hid hnj
    rw [hnj] at h1 h2 hk hat ⊢
    clear hli hrs hnj
    rw [show dm - 0 = dm from rfl]
    by_cases hle : nj ≤ leaf
    · have hle' : decide (nj ≤ leaf) = true := decide_eq_true hle
      go_enter Try.func59, Try.ntmps59
      go_wp2_with fail
      go_ret
      have hnf : nodeF ⟨leafN ids, A, c, none, 0⟩ = [.bool true, .slice A nj c, .slice none 0 0, .int .i64 0, .int .i64 0, .int .i64 0] := by simp only [nodeF, leafN, HNJ.out]; rfl
      have hb3 : Below w.heap.size w ((w.alloc (.cells #[.int .i64 t, .int .i64 (leaf : Int), .int .i64 (dm : Int), .bool sc, .int .u64 sd, .slice DA dn dc] 67)).alloc (.cells #[.bool true, .slice A nj c, .slice none 0 0, .int .i64 0, .int .i64 0, .int .i64 0] 73)) := below_alloc1 (below_alloc1 (Below.refl _ _) _) _
      have e3 := heap_alloc_new (w.alloc (.cells #[.int .i64 t, .int .i64 (leaf : Int), .int .i64 (dm : Int), .bool sc, .int .u64 sd, .slice DA dn dc] 67)) (.cells #[.bool true, .slice A nj c, .slice none 0 0, .int .i64 0, .int .i64 0, .int .i64 0] 73)
      rw [World.size_alloc] at e3
      have hO := OwnF.one (f := nodeF) (q := 6) (x := ⟨leafN ids, A, c, none, 0⟩) (base := 0) (by rw [hnf]; exact e3) (Nat.zero_le _) nodeF_q
      have hg := growF_leaf (f := 0) (ids := ids) (leaf := leaf) (rows := ls) (dim := dim) (s := refS mixed st l) at_ k (.inl (by rw [HNJ.out]; exact hle))
      refine ⟨_, rfl, ?_, ?_, Only.of_below hb3⟩
      · rw [hg]
        exact ⟨_, 1, [⟨leafN ids, A, c, none, 0⟩], rfl, Nat.le_refl _, rfl, hO.rdC, fun _ => ⟨_, rfl, fun h => by have := HBS.out; simp at h; omega, obj_lt e3⟩, fun a ha => by
          rw [List.mem_singleton] at ha
          subst ha
          exact ⟨HLI.out.step (Only.of_below (S := fun _ => False) hb3) (fun _ _ _ h => h.elim) (fun b hb => .inl hb), Lies.nil _ _ _ _⟩⟩
      · rw [hg]
        exact HRS.out.only (S := fun _ => False) (Only.of_below hb3) (fun h => h) fun _ _ _ h => h
    · have hle' : decide (nj ≤ leaf) = false := decide_eq_false hle
      go_enter Try.func59, Try.ntmps59
      go_wp2_with fail
      go_ret
      have hnf : nodeF ⟨leafN ids, A, c, none, 0⟩ = [.bool true, .slice A nj c, .slice none 0 0, .int .i64 0, .int .i64 0, .int .i64 0] := by simp only [nodeF, leafN, HNJ.out]; rfl
      have hb3 : Below w.heap.size w ((w.alloc (.cells #[.int .i64 t, .int .i64 (leaf : Int), .int .i64 (dm : Int), .bool sc, .int .u64 sd, .slice DA dn dc] 67)).alloc (.cells #[.bool true, .slice A nj c, .slice none 0 0, .int .i64 0, .int .i64 0, .int .i64 0] 73)) := below_alloc1 (below_alloc1 (Below.refl _ _) _) _
      have e3 := heap_alloc_new (w.alloc (.cells #[.int .i64 t, .int .i64 (leaf : Int), .int .i64 (dm : Int), .bool sc, .int .u64 sd, .slice DA dn dc] 67)) (.cells #[.bool true, .slice A nj c, .slice none 0 0, .int .i64 0, .int .i64 0, .int .i64 0] 73)
      rw [World.size_alloc] at e3
      have hO := OwnF.one (f := nodeF) (q := 6) (x := ⟨leafN ids, A, c, none, 0⟩) (base := 0) (by rw [hnf]; exact e3) (Nat.zero_le _) nodeF_q
      have hg := growF_leaf (f := 0) (ids := ids) (leaf := leaf) (rows := ls) (dim := dim) (s := refS mixed st l) at_ k (.inr rfl)
      refine ⟨_, rfl, ?_, ?_, Only.of_below hb3⟩
      · rw [hg]
        exact ⟨_, 1, [⟨leafN ids, A, c, none, 0⟩], rfl, Nat.le_refl _, rfl, hO.rdC, fun _ => ⟨_, rfl, fun h => by have := HBS.out; simp at h; omega, obj_lt e3⟩, fun a ha => by
          rw [List.mem_singleton] at ha
          subst ha
          exact ⟨HLI.out.step (Only.of_below (S := fun _ => False) hb3) (fun _ _ _ h => h.elim) (fun b hb => .inl hb), Lies.nil _ _ _ _⟩⟩
      · rw [hg]
        exact HRS.out.only (S := fun _ => False) (Only.of_below hb3) (fun h => h) fun _ _ _ h => h
  | succ f ih =>
    intro ids A c at_ k w hf hB0 hli h1 h2 hk hat hrs
    have IH := Lib.hid ih
    have HLI := Lib.hid hli
    have HRS := Lib.hid hrs
    have HBS := Lib.hid (obj_lt hrs.1)
    have HB0 := Lib.hid hB0
    obtain ⟨nj, hnj⟩ : ∃ x, ids.length = x := ⟨_, rfl⟩
    have HNJ := Lib.hid hnj
    rw [hnj] at h1 h2 hk hat ⊢
    obtain ⟨dj, hdj⟩ : ∃ x, dm - (f + 1) = x := ⟨_, rfl⟩
    have hdj2 : dj + 1 = dm - f := by omega
    have hdj3 : dj < dm := by omega
    rw [hdj]
    have HD := Lib.hid hdj2
    clear hli hrs hnj ih hdj hdj2 hB0
    by_cases hle : nj ≤ leaf
    · have hle' : decide (nj ≤ leaf) = true := decide_eq_true hle
      go_enter Try.func59, Try.ntmps59
      go_wp2_with fail
      go_ret
      have hnf : nodeF ⟨leafN ids, A, c, none, 0⟩ = [.bool true, .slice A nj c, .slice none 0 0, .int .i64 0, .int .i64 0, .int .i64 0] := by simp only [nodeF, leafN, HNJ.out]; rfl
      have hb3 : Below w.heap.size w ((w.alloc (.cells #[.int .i64 t, .int .i64 (leaf : Int), .int .i64 (dm : Int), .bool sc, .int .u64 sd, .slice DA dn dc] 67)).alloc (.cells #[.bool true, .slice A nj c, .slice none 0 0, .int .i64 0, .int .i64 0, .int .i64 0] 73)) := below_alloc1 (below_alloc1 (Below.refl _ _) _) _
      have e3 := heap_alloc_new (w.alloc (.cells #[.int .i64 t, .int .i64 (leaf : Int), .int .i64 (dm : Int), .bool sc, .int .u64 sd, .slice DA dn dc] 67)) (.cells #[.bool true, .slice A nj c, .slice none 0 0, .int .i64 0, .int .i64 0, .int .i64 0] 73)
      rw [World.size_alloc] at e3
      have hO := OwnF.one (f := nodeF) (q := 6) (x := ⟨leafN ids, A, c, none, 0⟩) (base := 0) (by rw [hnf]; exact e3) (Nat.zero_le _) nodeF_q
      have hg := growF_leaf (f := (f + 1)) (ids := ids) (leaf := leaf) (rows := ls) (dim := dim) (s := refS mixed st l) at_ k (.inl (by rw [HNJ.out]; exact hle))
      refine ⟨_, rfl, ?_, ?_, Only.of_below hb3⟩
      · rw [hg]
        exact ⟨_, 1, [⟨leafN ids, A, c, none, 0⟩], rfl, Nat.le_refl _, rfl, hO.rdC, fun _ => ⟨_, rfl, fun h => by have := HBS.out; simp at h; omega, obj_lt e3⟩, fun a ha => by
          rw [List.mem_singleton] at ha
          subst ha
          exact ⟨HLI.out.step (Only.of_below (S := fun _ => False) hb3) (fun _ _ _ h => h.elim) (fun b hb => .inl hb), Lies.nil _ _ _ _⟩⟩
      · rw [hg]
        exact HRS.out.only (S := fun _ => False) (Only.of_below hb3) (fun h => h) fun _ _ _ h => h
    have hle' : decide (nj ≤ leaf) = false := decide_eq_false hle
    have hd' : decide (dm ≤ dj) = false := decide_eq_false (by omega)
    go_enter Try.func59, Try.ntmps59
    go_wp2_with fail
    obtain ⟨w1, hw1⟩ : ∃ W, w.alloc (.cells #[.int .i64 t, .int .i64 (leaf : Int), .int .i64 (dm : Int), .bool sc, .int .u64 sd, .slice DA dn dc] 67) = W := ⟨_, rfl⟩
    rw [hw1]
    have hb1 : Below w.heap.size w w1 := by rw [← hw1]; exact below_alloc1 (Below.refl _ _) _
    have bp1 : w1.heap[w.heap.size]? = some (.cells #[.int .i64 t, .int .i64 (leaf : Int), .int .i64 (dm : Int), .bool sc, .int .u64 sd, .slice DA dn dc] 67 (0, 0)) := by rw [← hw1]; exact heap_alloc_new _ _
    have hz1 := obj_lt bp1
    have hbs := HBS.out
    have hB01 := HB0.out.trans (hb1.mono HB0.out.size)
    have hrs1 := HRS.out.only (S := fun _ => False) (Only.of_below hb1) (fun h => h) fun _ _ _ h => h
    have hli1 := HLI.out.step (Only.of_below (S := fun _ => False) hb1) (fun _ _ _ h => h.elim) (X1 := (· = bS)) (fun b hb => .inl hb)
    have HB1 := Lib.hid hb1
    clear hw1 hb1
    refine (HNJ.out ▸ rChoose_calls bS dim mixed st A' c' l LA lc ls A c ids k w0 w1 hB01 hb0 KL.out HR.out HRL.out hd2 hli1.2.1 (fun ad h e => (hli1.2.2 ad h e).2) hli1.1 (by rw [HNJ.out]; omega) HU.out hrs1 (by omega)).mono ?_
    rintro e w2 ⟨An, cn, Al, cl, Ar, cr, he, hn2, ⟨hl2, ol2, kl2⟩, ⟨hr2, or2, kr2⟩, hs2, ho2⟩
    have hC1 := choose_len ls dim ids (refS mixed st l) k
    have hC2 := choose_parts ls dim ids (refS mixed st l) k (by rw [HNJ.out]; omega)
    have hC3 := choose_tr ls dim ids (refS mixed st l) k
    obtain ⟨C, hC⟩ : ∃ C, choose ls dim ids (refS mixed st l) k = C := ⟨_, rfl⟩
    rw [hC] at he hn2 hl2 ol2 kl2 hr2 or2 kr2 hs2 hC1 hC2 hC3
    subst he
    have HC := Lib.hid hC
    have HO2 := Lib.hid ho2
    have hz2 := ho2.size
    have BP2 := Lib.hid (ho2.obj bp1 (fun h => by omega))
    have HS2 := Lib.hid hs2
    have HLL2 := Lib.hid (show Lies w2 0 .i64 Al cl C.left (· = bS) from ⟨kl2, hl2, fun ad h e => ⟨Nat.zero_le _, ol2 ad h e⟩⟩)
    have HLR2 := Lib.hid (show Lies w2 0 .i64 Ar cr C.right (· = bS) from ⟨kr2, hr2, fun ad h e => ⟨Nat.zero_le _, or2 ad h e⟩⟩)
    have HLN2 := Lib.hid (show Lies w2 0 .i32 An C.ns.length C.ns (· = bS) from ⟨Nat.le_refl _, hn2, fun ad h e => ⟨Nat.zero_le _, rd32_off hs2 hn2 ad h e⟩⟩)
    have HB02 := Lib.hid (show Below w0.heap.size w0 w2 from hB01.trans (ho2.below hB01.size fun q hq h => by omega))
    obtain ⟨nn, hnn⟩ : ∃ x, C.ns.length = x := ⟨_, rfl⟩
    obtain ⟨oo, hoo⟩ : ∃ x, C.off = x := ⟨_, rfl⟩
    obtain ⟨nl, hnl⟩ : ∃ x, C.left.length = x := ⟨_, rfl⟩
    obtain ⟨nr, hnr⟩ : ∃ x, C.right.length = x := ⟨_, rfl⟩
    obtain ⟨tt, htt⟩ : ∃ x, C.tries = x := ⟨_, rfl⟩
    rw [hnl, hnr] at hC1 hC2
    rw [HNJ.out] at hC1
    rw [htt] at hC3
    rw [hnn, hoo, hnl, hnr, htt]
    have ENN := Lib.hid hnn
    have EOO := Lib.hid hoo
    have ENL := Lib.hid hnl
    have ENR := Lib.hid hnr
    have ETT := Lib.hid htt
    clear hn2 hl2 ol2 kl2 hr2 or2 kr2 hs2 ho2 hC hnn hoo hnl hnr htt bp1 hB01 hrs1 hli1
    have hw2 : IntKind.i64.wrap ((dj : Int) + 1) = (dj : Int) + 1 := by rw [i64_w]; exact wrap64_id _ (by omega)
    have hw3 : IntKind.i64.wrap ((at_ : Int) + 1) = (at_ : Int) + 1 := by rw [i64_w]; exact wrap64_id _ (by omega)
    have p0 : w2.cell? ⟨w.heap.size, 0, none⟩ = some (.int .i64 t) := by have h := BP2.out; simp [World.cell?, h]
    have p1 : w2.cell? ⟨w.heap.size, 1, none⟩ = some (.int .i64 (leaf : Int)) := by have h := BP2.out; simp [World.cell?, h]
    have p2 : w2.cell? ⟨w.heap.size, 2, none⟩ = some (.int .i64 (dm : Int)) := by have h := BP2.out; simp [World.cell?, h]
    have p3 : w2.cell? ⟨w.heap.size, 3, none⟩ = some (.bool sc) := by have h := BP2.out; simp [World.cell?, h]
    have p4 : w2.cell? ⟨w.heap.size, 4, none⟩ = some (.int .u64 sd) := by have h := BP2.out; simp [World.cell?, h]
    have p5 : w2.cell? ⟨w.heap.size, 5, none⟩ = some (.slice DA dn dc) := by have h := BP2.out; simp [World.cell?, h]
    have g0 := fun o => (World.cell?_alloc_lt (o := o) w2 _ (World.block_lt_of_cell? _ _ p0)).trans p0
    have g1 := fun o => (World.cell?_alloc_lt (o := o) w2 _ (World.block_lt_of_cell? _ _ p1)).trans p1
    have g2 := fun o => (World.cell?_alloc_lt (o := o) w2 _ (World.block_lt_of_cell? _ _ p2)).trans p2
    have g3 := fun o => (World.cell?_alloc_lt (o := o) w2 _ (World.block_lt_of_cell? _ _ p3)).trans p3
    have g4 := fun o => (World.cell?_alloc_lt (o := o) w2 _ (World.block_lt_of_cell? _ _ p4)).trans p4
    have g5 := fun o => (World.cell?_alloc_lt (o := o) w2 _ (World.block_lt_of_cell? _ _ p5)).trans p5
    go_wp2_with fail
    obtain ⟨w3, hw33⟩ : ∃ W, w2.alloc (.cells #[.slice An nn cn, .int .i64 oo, .slice Al nl cl, .slice Ar nr cr, .int .i64 tt] 60) = W := ⟨_, rfl⟩
    rw [hw33]
    have hb3 : Below w2.heap.size w2 w3 := by rw [← hw33]; exact below_alloc1 (Below.refl _ _) _
    have bc3 : w3.heap[w2.heap.size]? = some (.cells #[.slice An nn cn, .int .i64 oo, .slice Al nl cl, .slice Ar nr cr, .int .i64 tt] 60 (0, 0)) := by rw [← hw33]; exact heap_alloc_new _ _
    clear hw33 g0 g1 g2 g3 g4 g5 p0 p1 p2 p3 p4 p5
    have hz3 := obj_lt bc3
    have st3 : ∀ {k : IntKind} {A : Option Addr} {c : Nat} {xs : List Int}, Lies w2 0 k A c xs (· = bS) → Lies w3 0 k A c xs (· = bS) := fun h => h.step (Only.of_below (S := fun _ => False) hb3) (fun _ _ _ h => h.elim) (fun b hb => .inl hb)
    have BP3 := Lib.hid (obj_below hb3 BP2.out (obj_lt BP2.out))
    have BC3 := Lib.hid bc3
    have HLL3 := Lib.hid (st3 HLL2.out)
    have HLR3 := Lib.hid (st3 HLR2.out)
    have HLN3 := Lib.hid (st3 HLN2.out)
    have HS3 := Lib.hid (HS2.out.only (S := fun _ => False) (Only.of_below hb3) (fun h => h) fun _ _ _ h => h)
    have HO3 := Lib.hid (HO2.out.trans (Only.of_below (S := (· = bS)) hb3))
    have HB03 := Lib.hid (HB02.out.trans (hb3.mono HB02.out.size))
    clear hb3 bc3 st3 HLL2 HLR2 HLN2 HS2 HO2 HB02 BP2
    have ih1 := IH.out C.left Al cl (at_ + 1) (k + 2 * C.tries) w3 (by omega) HB03.out HLL3.out (by rw [ENL.out]; omega) (by rw [ENL.out]; omega) (by rw [ENL.out, ETT.out]; omega) (by rw [ENL.out]; omega) HS3.out
    have hgl := growF_size ls dim (refS mixed st l) hlf f C.left (at_ + 1) (k + 2 * C.tries) (by rw [ENL.out]; omega)
    obtain ⟨L, hL⟩ : ∃ L, growF ls dim leaf (refS mixed st l) f C.left (at_ + 1) (k + 2 * C.tries) = L := ⟨_, rfl⟩
    rw [hL] at ih1 hgl
    rw [ENL.out, ETT.out] at hgl
    simp only [ENL.out, ← HD.out, Int.natCast_succ] at ih1
    have HL := Lib.hid hL
    clear hL
    refine ih1.mono ?_
    rintro e w4 ⟨vL, he, ⟨LA4, lc4, alL, rfl, hLc, hLm, hLrd, hLg, hLies⟩, hsL, hoL⟩
    subst he
    obtain ⟨gL, rfl, hgL, hgLt⟩ := hLg (by omega)
    have hLl : L.1.length = alL.length := by rw [← hLm, List.length_map]
    rw [hLl] at hgl hLc ⊢
    have HLM := Lib.hid hLm
    have HLRD := Lib.hid hLrd
    have HLIES := Lib.hid hLies
    have HSL := Lib.hid hsL
    have HO4 := Lib.hid (HO3.out.trans hoL)
    have hz4 := hoL.size
    have BP4 := Lib.hid (hoL.obj BP3.out (fun h => by omega))
    have BC4 := Lib.hid (hoL.obj BC3.out (fun h => by omega))
    have HLR4 := Lib.hid (HLR3.out.step hoL (fun b _ _ h => h) (X1 := (· = bS)) (fun b hb => .inl hb))
    have HLN4 := Lib.hid (HLN3.out.step hoL (fun b _ _ h => h) (X1 := (· = bS)) (fun b hb => .inl hb))
    have HB04 := Lib.hid (show Below w0.heap.size w0 w4 from HB03.out.trans (hoL.below HB03.out.size fun q hq h => by omega))
    clear ih1 hLm hLrd hLg hLies hsL hoL hLl HLR3 HLN3 HB03 HO3
    obtain ⟨nL, hnL⟩ : ∃ x, alL.length = x := ⟨_, rfl⟩
    have EL := Lib.hid hnL
    rw [hnL] at hgl hLc ⊢
    clear hnL
    have hw4 : IntKind.i64.wrap ((at_ : Int) + 1 + (nL : Int)) = (at_ : Int) + 1 + (nL : Int) := by rw [i64_w]; exact wrap64_id _ (by omega)
    have p0 : w4.cell? ⟨w.heap.size, 0, none⟩ = some (.int .i64 t) := by have h := BP4.out; simp [World.cell?, h]
    have p1 : w4.cell? ⟨w.heap.size, 1, none⟩ = some (.int .i64 (leaf : Int)) := by have h := BP4.out; simp [World.cell?, h]
    have p2 : w4.cell? ⟨w.heap.size, 2, none⟩ = some (.int .i64 (dm : Int)) := by have h := BP4.out; simp [World.cell?, h]
    have p3 : w4.cell? ⟨w.heap.size, 3, none⟩ = some (.bool sc) := by have h := BP4.out; simp [World.cell?, h]
    have p4 : w4.cell? ⟨w.heap.size, 4, none⟩ = some (.int .u64 sd) := by have h := BP4.out; simp [World.cell?, h]
    have p5 : w4.cell? ⟨w.heap.size, 5, none⟩ = some (.slice DA dn dc) := by have h := BP4.out; simp [World.cell?, h]
    have c3 : w4.cell? ⟨w2.heap.size, 3, none⟩ = some (.slice Ar nr cr) := by have h := BC4.out; simp [World.cell?, h]
    go_wp2_with fail
    clear p0 p1 p2 p3 p4 p5 c3
    have ih2 := IH.out C.right Ar cr (at_ + 1 + nL) L.2 w4 (by omega) HB04.out HLR4.out (by rw [ENR.out]; omega) (by rw [ENR.out]; omega) (by rw [ENR.out]; omega) (by rw [ENR.out]; omega) HSL.out
    have hgr := growF_size ls dim (refS mixed st l) hlf f C.right (at_ + 1 + nL) L.2 (by rw [ENR.out]; omega)
    obtain ⟨R, hR⟩ : ∃ R, growF ls dim leaf (refS mixed st l) f C.right (at_ + 1 + nL) L.2 = R := ⟨_, rfl⟩
    rw [hR] at ih2 hgr
    rw [ENR.out] at hgr
    simp only [ENR.out, ← HD.out, Int.natCast_add, Int.natCast_succ, Int.natCast_one] at ih2
    have HRr := Lib.hid hR
    clear hR
    refine ih2.mono ?_
    rintro e w5 ⟨vR, he, ⟨RA5, rc5, alR, rfl, hRc, hRm, hRrd, hRg, hRies⟩, hsR, hoR⟩
    subst he
    obtain ⟨gR, rfl, hgR, hgRt⟩ := hRg (by omega)
    have hRl : R.1.length = alR.length := by rw [← hRm, List.length_map]
    rw [hRl] at hgr hRc ⊢
    have HRM := Lib.hid hRm
    have HRRD := Lib.hid hRrd
    have HRIES := Lib.hid hRies
    have HSR := Lib.hid hsR
    have HO5 := Lib.hid (HO4.out.trans hoR)
    have hz5 := hoR.size
    have BC5 := Lib.hid (hoR.obj BC4.out (fun h => by omega))
    have HLRD5 := Lib.hid (HLRD.out.only hoR hgL)
    have HLIES5 := Lib.hid (fun a (ha : a ∈ alL) => And.intro ((HLIES.out a ha).1.step hoR (fun b _ _ h => h) (X1 := (· = bS)) (fun b hb => .inl hb)) ((HLIES.out a ha).2.step hoR (fun b _ _ h => h) (X1 := (· = bS)) (fun b hb => .inl hb)))
    have HLN5 := Lib.hid (HLN4.out.step hoR (fun b _ _ h => h) (X1 := (· = bS)) (fun b hb => .inl hb))
    clear ih2 hRm hRrd hRg hRies hsR hoR hRl HLRD HLIES HLN4 HB04 HO4 BC4 BP4 HLR4 HSL
    have c0 : w5.cell? ⟨w2.heap.size, 0, none⟩ = some (.slice An nn cn) := by have h := BC5.out; simp [World.cell?, h]
    have c1 : w5.cell? ⟨w2.heap.size, 1, none⟩ = some (.int .i64 oo) := by have h := BC5.out; simp [World.cell?, h]
    obtain ⟨W7, hW7⟩ : ∃ W, (w5.alloc (.cells #[.bool false, .slice none 0 0, .slice An nn cn, .int .i64 oo, .int .i64 ((at_ : Int) + 1), .int .i64 ((at_ : Int) + 1 + (nL : Int))] 73)).alloc (.cells #[.bool false, .slice none 0 0, .slice An nn cn, .int .i64 oo, .int .i64 ((at_ : Int) + 1), .int .i64 ((at_ : Int) + 1 + (nL : Int))] 73) = W := ⟨_, rfl⟩
    have HB57 := Lib.hid (show Below w5.heap.size w5 W7 by rw [← hW7]; exact below_alloc1 (below_alloc1 (Below.refl _ _) _) _)
    have e7 : W7.heap[w5.heap.size + 1]? = some (.cells #[.bool false, .slice none 0 0, .slice An nn cn, .int .i64 oo, .int .i64 ((at_ : Int) + 1), .int .i64 ((at_ : Int) + 1 + (nL : Int))] 73 (0, 0)) := by
      rw [← hW7]
      have h := heap_alloc_new (w5.alloc (.cells #[.bool false, .slice none 0 0, .slice An nn cn, .int .i64 oo, .int .i64 ((at_ : Int) + 1), .int .i64 ((at_ : Int) + 1 + (nL : Int))] 73)) (.cells #[.bool false, .slice none 0 0, .slice An nn cn, .int .i64 oo, .int .i64 ((at_ : Int) + 1), .int .i64 ((at_ : Int) + 1 + (nL : Int))] 73)
      rwa [World.size_alloc] at h
    obtain ⟨nd, hnd⟩ : ∃ nd : NodeA, (⟨⟨false, [], C.ns, C.off, ((at_ + 1 : Nat) : Int), ((at_ + 1 + nL : Nat) : Int)⟩, none, 0, An, cn⟩ : NodeA) = nd := ⟨_, rfl⟩
    have hnf : nodeF nd = [.bool false, .slice none 0 0, .slice An nn cn, .int .i64 oo, .int .i64 ((at_ : Int) + 1), .int .i64 ((at_ : Int) + 1 + (nL : Int))] := by
      rw [← hnd]
      simp only [nodeF, ENN.out, EOO.out, List.length_nil, Int.natCast_add, Int.natCast_succ, Int.natCast_one]
    have H7 := Lib.hid (OwnF.one (f := nodeF) (q := 6) (x := nd) (base := w5.heap.size) (by rw [hnf]; exact e7) (by omega) nodeF_q)
    have HSZ := Lib.hid (show W7.heap.size = w5.heap.size + 2 by rw [← hW7, World.size_alloc, World.size_alloc])
    have HND := Lib.hid hnd
    have HW7 := Lib.hid hW7
    obtain ⟨nR, hnR⟩ : ∃ x, alR.length = x := ⟨_, rfl⟩
    have ER := Lib.hid hnR
    rw [hnR] at hgr hRc ⊢
    clear hnf hnd hW7 e7 hnR
    go_wp2_with (first
      | (at_builtin; rw [HW7.out]; refine wpList_appF (q := 6) (f := nodeF) _ rfl (.tmp 74) (.tmp 75) 68 73 rfl (.agg #[.bool false, .slice none 0 0, .slice none 0 0, .int .i64 0, .int .i64 0, .int .i64 0]) 80 Try.underlying68 infoN rfl (by omega) (by omega) nodeF_q nodeF_one w5.heap.size (.slice (some ⟨w5.heap.size + 1, 0, none⟩) 1 1) [nd] rfl (some ⟨gL, 0, none⟩) lc4 alL (by rw [EL.out]; rfl) H7.out w5 HB57.out (by rw [HSZ.out]; omega) (HLRD5.out.below HB57.out) (by rw [EL.out]; simp; omega) ?_; intro v8 w8 hown8 hgrow8 hbel8 hat8 hnil8; have HOW8 := Lib.hid hown8; have HBE8 := Lib.hid hbel8; have hz8 := hbel8.size; obtain ⟨A8, c8, hv8, _⟩ := hown8.shape; rw [List.length_append, List.length_singleton, EL.out] at hv8; subst hv8; clear hown8 hgrow8 hbel8 hat8 hnil8)
      | (at_builtin; refine wpList_appF (q := 6) (f := nodeF) _ rfl (.tmp 76) (.tmp 77) 68 73 rfl (.agg #[.bool false, .slice none 0 0, .slice none 0 0, .int .i64 0, .int .i64 0, .int .i64 0]) 80 Try.underlying68 infoN rfl (by omega) (by omega) nodeF_q nodeF_one w5.heap.size (.slice A8 (1 + nL) c8) ([nd] ++ alL) rfl (some ⟨gR, 0, none⟩) rc5 alR (by rw [ER.out]; rfl) HOW8.out w5 HBE8.out (by omega) (HRRD.out.below HBE8.out) (by rw [ER.out, List.length_append, EL.out]; simp; omega) ?_; intro v9 w9 hown9 hgrow9 hbel9 hat9 hnil9; have HOW9 := Lib.hid hown9; have HBE9 := Lib.hid hbel9; obtain ⟨A9, c9, hv9, hc9⟩ := hown9.shape; rw [List.length_append, List.length_append, List.length_singleton, EL.out, ER.out] at hv9 hc9; subst hv9; clear hown9 hgrow9 hbel9 hat9 hnil9))
    go_wp2_with fail
    go_ret
    have hL1 : L.1.length = nL := by rw [← HLM.out, List.length_map, EL.out]
    have hT := growF_split (L := L) (R := R) (rows := ls) (dim := dim) (s := refS mixed st l) at_ k (by rw [HNJ.out]; omega) HC.out HL.out (by rw [hL1]; exact HRr.out)
    have hmap : ([nd] ++ alL ++ alR).map NodeA.x = (growF ls dim leaf (refS mixed st l) (f + 1) ids at_ k).1 := by
      have h1 : L.1.length = nL := by rw [← HLM.out, List.length_map, EL.out]
      rw [hT, List.map_append, List.map_append, HLM.out, HRM.out, h1, ← HND.out]
      rfl
    have hlen9 : 1 + nL + nR = (growF ls dim leaf (refS mixed st l) (f + 1) ids at_ k).1.length := by rw [← hmap, List.length_map, List.length_append, List.length_append, List.length_singleton, EL.out, ER.out]
    have hb9 := HBE9.out
    have st9 : ∀ {k : IntKind} {A : Option Addr} {c : Nat} {xs : List Int}, Lies w5 0 k A c xs (· = bS) → Lies w9 0 k A c xs (· = bS) := fun h => h.step (Only.of_below (S := fun _ => False) hb9) (fun _ _ _ h => h.elim) (fun b hb => .inl hb)
    refine ⟨.slice A9 (1 + nL + nR) c9, rfl, ⟨A9, c9, [nd] ++ alL ++ alR, by rw [hlen9], by rw [← hlen9]; exact hc9, hmap, HOW9.out.rdC, fun _ => ?_, fun a ha => ?_⟩, ?_, ?_⟩
    · obtain ⟨g, x, eg, hbg, hlt, _⟩ := OwnF.at_ nodeF_q HOW9.out 0 (by omega) (by omega)
      exact ⟨g, eg, fun h => by have h' : g = bS := h; omega, hlt⟩
    · rcases List.mem_append.1 ha with ha | ha
      · rcases List.mem_append.1 ha with ha | ha
        · rw [List.mem_singleton] at ha
          subst ha
          rw [← HND.out]
          exact ⟨Lies.nil _ _ _ _, st9 HLN5.out⟩
        · exact ⟨st9 (HLIES5.out a ha).1, st9 (HLIES5.out a ha).2⟩
      · exact ⟨st9 (HRIES.out a ha).1, st9 (HRIES.out a ha).2⟩
    · rw [hT]
      exact HSR.out.only (S := fun _ => False) (Only.of_below hb9) (fun h => h) fun _ _ _ h => h
    · exact ((Only.of_below HB1.out).trans HO5.out).trans (Only.of_below hb9)
set_option maxHeartbeats 3200000 in
set_option maxRecDepth 100000 in
theorem RTree_calls (bS dim leaf dm : Nat) (t : Int) (sc : Bool) (sd : Int) (DA : Option Addr) (dn dc : Nat) (mixed : Bool) (st : Int) (A' : Option Addr) (c' : Nat) (l : List Int) (LA : Option Addr) (lc : Nat) (ls : List (List Int)) (w0 w : World)
    (hb0 : w0.heap.size ≤ bS) (hB0 : Below w0.heap.size w0 w) (hls : Rows w0 .i32 LA ls) (hr : ∀ r ∈ ls, R32 r) (hrl : ∀ r ∈ ls, r.length = dim) (hd2 : dim ≤ 1024) (hlf : 1 ≤ leaf) (hu : U64 l) (hdm : dm ≤ 64) (hl1 : 1 ≤ ls.length) (hl2 : ls.length ≤ 1000) (hs : RefS w bS mixed st A' c' l 0) :
    Calls Try.prog 36 #[.slice LA ls.length lc, .int .i64 (dim : Int), .agg #[.int .i64 t, .int .i64 (leaf : Int), .int .i64 (dm : Int), .bool sc, .int .u64 sd, .slice DA dn dc], .pointer (some ⟨bS, 0, none⟩)] w (RGPost w bS mixed st A' c' l (growF ls dim leaf (refS mixed st l) dm (upTo ls.length) 0 0)) := by
  have hG := Lib.hid (fun A c w => RGrow_calls bS dim leaf dm t sc sd DA dn dc mixed st A' c' l LA lc ls w0 hb0 hls hr hrl hd2 hlf hu hdm dm (upTo ls.length) A c 0 0 w (Nat.le_refl _))
  have HS := Lib.hid hs
  have HB0 := Lib.hid hB0
  have hbs := obj_lt hs.1
  obtain ⟨n, hn⟩ : ∃ n, ls.length = n := ⟨_, rfl⟩
  rw [hn] at hl1 hl2 hG ⊢
  clear hls hr hrl hu hs hB0 hn
  go_enter Try.func36, Try.ntmps36
  go_wp2_with fail
  obtain ⟨w1, hw1⟩ : ∃ W, w.alloc (.cells #[.int .i64 t, .int .i64 (leaf : Int), .int .i64 (dm : Int), .bool sc, .int .u64 sd, .slice DA dn dc] 67) = W := ⟨_, rfl⟩
  rw [hw1]
  have hb1 : Below w.heap.size w w1 := by rw [← hw1]; exact below_alloc1 (Below.refl _ _) _
  have bp1 : w1.heap[w.heap.size]? = some (.cells #[.int .i64 t, .int .i64 (leaf : Int), .int .i64 (dm : Int), .bool sc, .int .u64 sd, .slice DA dn dc] 67 (0, 0)) := by rw [← hw1]; exact heap_alloc_new _ _
  have hz1 := obj_lt bp1
  have HB1 := Lib.hid hb1
  have BP1 := Lib.hid bp1
  clear hw1 hb1 bp1
  go_loopg [9, 10] n (fun kq v9 v10 w' => kq ≤ n ∧ v10 = .int .i64 ((n - kq : Nat)) ∧ Own w' w1.heap.size 3 .i64 v9 (upTo (n - kq)) ∧ Below w1.heap.size w1 w')
  case atStart => exact ⟨Nat.le_refl _, by simp, by rw [Nat.sub_self]; exact World.ownsRow_nil _ _ _ _, Below.refl _ _⟩
  case round =>
    obtain ⟨hk, rfl, HO0, HB0'⟩ := hrel
    rename World => wr
    have HO := Lib.hid HO0
    have HB := Lib.hid HB0'
    have hz := HB0'.size
    clear HO0 HB0'
    cases gk with
    | zero =>
      simp only [Nat.sub_zero] at HO ⊢
      obtain ⟨A, c, rfl, hc, hr⟩ := HO.out.shape
      rw [upTo_length] at hc ⊢
      have HBW := Lib.hid (HB1.out.trans (HB.out.mono (by omega)))
      have hli := Lies.own (w := wr) (base := 0) (X := (· = bS)) (xs := upTo n) (A := A) (c := c) HO.out (Nat.zero_le _) (fun b hb => by have h' : b = bS := hb; omega)
      have bpr := obj_below HB.out BP1.out (obj_lt BP1.out)
      have p0 : wr.cell? ⟨w.heap.size, 0, none⟩ = some (.int .i64 t) := by simp [World.cell?, bpr]
      have p1 : wr.cell? ⟨w.heap.size, 1, none⟩ = some (.int .i64 (leaf : Int)) := by simp [World.cell?, bpr]
      have p2 : wr.cell? ⟨w.heap.size, 2, none⟩ = some (.int .i64 (dm : Int)) := by simp [World.cell?, bpr]
      have p3 : wr.cell? ⟨w.heap.size, 3, none⟩ = some (.bool sc) := by simp [World.cell?, bpr]
      have p4 : wr.cell? ⟨w.heap.size, 4, none⟩ = some (.int .u64 sd) := by simp [World.cell?, bpr]
      have p5 : wr.cell? ⟨w.heap.size, 5, none⟩ = some (.slice DA dn dc) := by simp [World.cell?, bpr]
      have hg := hG.out A c wr (HB0.out.trans (HBW.out.mono HB0.out.size)) hli (by rw [upTo_length]; exact hl1) (by rw [upTo_length]; exact hl2) (by rw [upTo_length]; omega) (by rw [upTo_length]; omega) (HS.out.only (S := fun _ => False) (Only.of_below HBW.out) (fun h => h) fun _ _ _ h => h)
      rw [upTo_length, Nat.sub_self] at hg
      clear bpr hli hr
      go_wp2_with fail
      refine hg.mono ?_
      rintro e w5 ⟨v, he, hrd, hrs, ho⟩
      subst he
      obtain ⟨A5, c5, rfl, _⟩ := hrd.shape
      have HP := Lib.hid hrd
      have HQ := Lib.hid hrs
      have HOO := Lib.hid ho
      clear hg hrd hrs ho
      go_wp2_with fail
      go_ret
      exact ⟨_, rfl, HP.out, HQ.out, (Only.of_below HBW.out).trans HOO.out⟩
    | succ k1 =>
      obtain ⟨i, hi⟩ : ∃ i, n - (k1 + 1) = i := ⟨_, rfl⟩
      have hi2 : n - k1 = i + 1 := by omega
      have HI := Lib.hid hi2
      have hlt : i < n := by omega
      rw [hi] at HO ⊢
      clear hi hi2
      go_wp2_with (first
        | (at_builtin; refine wpList_appI _ rfl (.tmp 17) (.tmp 19) 23 3 rfl .i64 8 Try.underlying23 info_int (by omega) w1.heap.size u9 (upTo i) rfl (some ⟨wr.heap.size, 0, none⟩) 1 [(i : Int)] rfl (HO.out.alloc1 _) w1 (HB.out.alloc hz _) (by rw [World.size_alloc]; omega) (Rd.new wr .i64 [(i : Int)] 3 (by simp)) (by rw [upTo_length]; simp; omega) ?_; intro v1 w5 hown1 hgrow1 hbel1 hat1 hnil1; have HO1 := Lib.hid hown1; have HBN := Lib.hid hbel1; clear hown1 hgrow1 hbel1 hat1 hnil1))
      go_wp2
      go_roundg k1
      case measure => omega
      case rel =>
        rw [HI.out, upTo_succ]
        exact ⟨by omega, rfl, HO1.out, HBN.out⟩
end Go.Proofs.Ytohmcpblagcfeaa
