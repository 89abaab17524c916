
/-
  The selector (topk, over shelterbelt/api.Result): List; the library's Reverse of entries. Condition: the selector's blocks are as the word SelE says; no more than a million are kept.
-/
import Derived.Test.YtacgkoclammggaaSelE
import Derived.Test.YtacgkoclammggaaHeapR
import Derived.Test.YtacgkoclammggaaRangeA
import Derived.Test.YtacgkoclammggaaRevL
import Derived.Test.YtacgkoclammggaaSortI
namespace Go.Proofs.Ytacgkoclammggaa
open Go.RowKit
set_option linter.unusedVariables false
set_option maxRecDepth 100000
set_option linter.unusedSimpArgs false
attribute [local go_sem] Oper.semAt_some

set_option maxHeartbeats 3200000 in
set_option maxRecDepth 1000000 in
theorem RevE_calls (lo : Nat) (A : Option Addr) (n c : Nat) (l : List (Int × Int × Int)) (w : World) (h : OwnF w lo 124 3 tri (.slice A n c) l) (hln : l.length = n) (hl : n ≤ 1000000) :
    Calls Try.prog 89 #[.slice A n c] w fun e w' => e = .returned (.tuple #[]) ∧ OwnF w' lo 124 3 tri (.slice A n c) l.reverse ∧ Only (OwnB (.slice A n c)) w w' := by
  have HH := Lib.hid h
  have HL := Lib.hid hln
  clear h hln
  obtain ⟨e0, he0⟩ : ∃ e, (n : Int) - 1 = e := ⟨_, rfl⟩
  have hw0 : IntKind.i64.wrap ((n : Int) - 1) = e0 := by rw [i64_w, ← he0]; exact wrap64_id _ (by omega)
  have HE0 := Lib.hid he0
  clear he0
  go_enter Try.func89, Try.ntmps89
  go_wp2_with fail
  go_loopg [2, 3] n (fun kq v2 v3 w' => ∃ (k : Nat) (e : Int) (L : List (Int × Int × Int)), n ≤ 2 * k + kq ∧ 2 * k ≤ n ∧ v2 = .int .i64 ((k : Nat) : Int) ∧ v3 = .int .i64 e ∧ e = (n : Int) - 1 - k ∧ OwnF w' lo 124 3 tri (.slice A n c) L ∧ RevAt n k l L ∧ Only (OwnB (.slice A n c)) w w')
  case atStart => exact ⟨0, e0, l, by omega, by omega, rfl, rfl, by rw [← HE0.out]; omega, HH.out, RevAt.start l HL.out, Only.refl _ _⟩
  case round =>
    clear HH
    obtain ⟨k, e, L, hkq, hkn, rfl, rfl, hee, hO, hrv, hon⟩ := hrel
    have HO := Lib.hid hO
    have HRV := Lib.hid hrv
    have HON := Lib.hid hon
    have HEE := Lib.hid hee
    clear hO hrv hon
    by_cases hlt : (k : Int) < e
    · obtain ⟨m, hm⟩ : ∃ m : Nat, n - 1 - k = m := ⟨_, rfl⟩
      have hem : e = (m : Int) := by omega
      have HM := Lib.hid hm
      subst hem
      have hkm : k < m := by omega
      have hmn : m < n := by omega
      have hkn2 : k < n := by omega
      have hd : decide ((k : Int) < (m : Int)) = true := decide_eq_true hlt
      obtain ⟨m1, hm1⟩ : ∃ m1 : Int, (m : Int) - 1 = m1 := ⟨_, rfl⟩
      obtain ⟨k1, hk1⟩ : ∃ k1 : Nat, k + 1 = k1 := ⟨_, rfl⟩
      have hw1 : IntKind.i64.wrap ((k : Int) + 1) = (k1 : Int) := by rw [i64_w, show (k : Int) + 1 = (k1 : Int) by omega]; exact wrap64_id _ (by omega)
      have hw2 : IntKind.i64.wrap ((m : Int) - 1) = m1 := by rw [i64_w, ← hm1]; exact wrap64_id _ (by omega)
      have HK1 := Lib.hid hk1
      have HM1 := Lib.hid hm1
      obtain ⟨g, ⟨xk0, xk1, xk2⟩, hgA, _, _, hxk, hck, hfk, _⟩ := HO.out.at_ tri_q k hkn2 (by omega)
      subst hgA
      obtain ⟨g', ⟨xb0, xb1, xb2⟩, hg', _, _, hxb, hcb, _, _⟩ := HO.out.at_ tri_q m hmn (by omega)
      injection hg' with hg'
      injection hg' with hg'
      subst hg'
      have hck0 : wr.cell? ⟨g, k * 3, none⟩ = some (.int .i64 xk0) := hck 0 (by omega)
      have hck1 : wr.cell? ⟨g, k * 3 + 1, none⟩ = some (.int .i64 xk1) := hck 1 (by omega)
      have hck2 : wr.cell? ⟨g, k * 3 + 2, none⟩ = some (.int .i64 xk2) := hck 2 (by omega)
      have hcb0 : wr.cell? ⟨g, m * 3, none⟩ = some (.int .i64 xb0) := hcb 0 (by omega)
      have hcb1 : wr.cell? ⟨g, m * 3 + 1, none⟩ = some (.int .i64 xb1) := hcb 1 (by omega)
      have hcb2 : wr.cell? ⟨g, m * 3 + 2, none⟩ = some (.int .i64 xb2) := hcb 2 (by omega)
      have hf1 := hfk (k * 3)
      have hf2 := hfk (k * 3 + 1)
      have hf3 := hfk (k * 3 + 2)
      have hf4 := hfk (m * 3)
      have hf5 := hfk (m * 3 + 1)
      have hf6 := hfk (m * 3 + 2)
      have bK : (k : Int) < (n : Int) := by omega
      have bB : (m : Int) < (n : Int) := by omega
      have n00a : ¬ k * 3 = m * 3 := by omega
      have n00b : ¬ m * 3 = k * 3 := by omega
      have n01a : ¬ k * 3 = m * 3 + 1 := by omega
      have n01b : ¬ m * 3 + 1 = k * 3 := by omega
      have n02a : ¬ k * 3 = m * 3 + 2 := by omega
      have n02b : ¬ m * 3 + 2 = k * 3 := by omega
      have n10a : ¬ k * 3 + 1 = m * 3 := by omega
      have n10b : ¬ m * 3 = k * 3 + 1 := by omega
      have n11a : ¬ k * 3 + 1 = m * 3 + 1 := by omega
      have n11b : ¬ m * 3 + 1 = k * 3 + 1 := by omega
      have n12a : ¬ k * 3 + 1 = m * 3 + 2 := by omega
      have n12b : ¬ m * 3 + 2 = k * 3 + 1 := by omega
      have n20a : ¬ k * 3 + 2 = m * 3 := by omega
      have n20b : ¬ m * 3 = k * 3 + 2 := by omega
      have n21a : ¬ k * 3 + 2 = m * 3 + 1 := by omega
      have n21b : ¬ m * 3 + 1 = k * 3 + 2 := by omega
      have n22a : ¬ k * 3 + 2 = m * 3 + 2 := by omega
      have n22b : ¬ m * 3 + 2 = k * 3 + 2 := by omega
      have h5 := (HO.out.store3 k hkn2 (xb0, xb1, xb2)).store3 m hmn (xk0, xk1, xk2)
      have HS := Lib.hid (own_drew1 h5)
      have HR := Lib.hid (HRV.out.step HL.out hkm hmn HM.out hxk hxb)
      have hs := fun (W : World) (q : Nat) (u : Value) => (only_set W g q u).mono (T := OwnB (.slice (some ⟨g, 0, none⟩) n c)) fun k _ h => by rw [h]; rfl
      have HON2 := Lib.hid (((((((hs wr (k * 3) (.int .i64 xb0)).trans (hs _ (k * 3 + 1) (.int .i64 xb1))).trans (hs _ (k * 3 + 2) (.int .i64 xb2))).trans (hs _ (m * 3) (.int .i64 xk0))).trans (hs _ (m * 3 + 1) (.int .i64 xk1))).trans (hs _ (m * 3 + 2) (.int .i64 xk2))).trans (Only.of_below (Below.refl _ _).drew))
      clear hck hcb hfk hxk hxb h5 hs hm hm1 hk1 hee hlt
      go_wp2_with fail
      go_region
      go_wp2_with fail
      go_roundg (n - 2 * k1)
      case measure => have h1 := HK1.out; have h2 := HM.out; omega
      case rel =>
        have q1 := HK1.out
        have q2 := HM.out
        have q3 := HM1.out
        refine ⟨k1, m1, _, by omega, by omega, rfl, rfl, by omega, HS.out, by rw [← HK1.out]; exact HR.out, HON.out.trans HON2.out⟩
    · have hd : decide ((k : Int) < e) = false := decide_eq_false hlt
      have hlt9 : n ≤ 2 * k + 1 := by omega
      clear hee hlt
      go_wp2_with fail
      go_end0
      exact ⟨rfl, by rw [← HRV.out.done HL.out (by omega)]; exact HO.out, HON.out⟩
theorem ent_oneE (x0 x1 x2 : Int) : ∀ u ∈ [Value.int .i64 x0, Value.int .i64 x1, Value.int .i64 x2], u.oneCell' = true := tri_one (x0, x1, x2)
/-- Between two rounds of List's first loop: pre has come; bA: the list's box. -/
def LCE (w : World) (v : Value) (b bA base : Nat) (pre : List (Int × Int × Int)) (W : World) : Prop :=
  Only (HpBE v b) w W ∧ ∃ v9, W.heap[bA]? = some (.cells #[v9] 129 (0, 0)) ∧ OwnF W base 124 3 tri v9 pre
theorem LCE.only {w A B : World} {v : Value} {b bA base : Nat} {pre : List (Int × Int × Int)} {S : Nat → Prop} (h : LCE w v b bA base pre A) (ho : Only S A B) (hs : ∀ k, S k → (HpBE v b k ∨ w.heap.size ≤ k) ∧ k ≠ bA ∧ k < base) : LCE w v b bA base pre B := by
  obtain ⟨h1, v9, h3, h4⟩ := h
  exact ⟨h1.trans2E ho fun k hk h => (hs k h).1.resolve_right (by omega), v9, ho.obj h3 fun h => (hs _ h).2.1 rfl, h4.only ho fun k hk h => by have := (hs _ h).2.2; have := (h4.lt k hk).1; omega⟩
set_option maxHeartbeats 6400000 in
set_option maxRecDepth 1000000 in
theorem ListE_calls (s : Sl) (most nx : Int) (L : List (Int × Int × Int)) (w : World) (h : SelE w s most nx L) (hl : L.length ≤ 100000) :
    Calls Try.prog 46 #[.pointer (some ⟨s.bs, 0, none⟩)] w fun e w' => ∃ s' L' S vO, e = .returned vO ∧ SelE w' s' most nx L' ∧ L'.Perm L ∧ SlTo s s' w.heap.size ∧ Only (SlB s) w w' ∧ S.Perm L ∧ Srt aheadE S ∧ OwnF w' w.heap.size 41 2 twoR vO (S.map fun p => (p.1, p.2.1)) ∧ ∀ k, vO.ownBlock = some k → ¬ SlB s' k := by
  obtain ⟨bs, bx, b, v⟩ := s
  have hlts := h.lt
  have hlb := hlts.1 b (.inr (.inl rfl))
  have hlbs := hlts.1 bs (.inl rfl)
  have hlbx := hlts.2
  have hlv : ∀ k, v.ownBlock = some k → k < w.heap.size := fun k hk => hlts.1 k (.inr (.inr hk))
  have hlv2 : ∀ k, OwnB v k → k < w.heap.size := hlv
  have hDb : ∀ k, HpBE v b k → k < w.heap.size := fun k h => h.elim (fun h => by omega) fun h => hlv k h
  simp only at hlbx
  have HS0 := Lib.hid h
  have hnx := h.2.2.2.2.1
  have hns := h.2.2.2.2.2.1
  have hne := h.2.2.2.2.2.2
  simp only at hnx hns hne
  clear hlts h
  refine (callsIn_wide (n := 5)).1 ?_
  refine callsIn_of_wp_marks Try.func46 rfl trivial ?_ rfl
  refine wpIn_wide.2 ?_
  simp only [Try.ntmps46, List.size_toArray, List.length_cons, List.length_nil, Nat.reduceAdd, Nat.reduceSub, Array.replicate_succ, Array.replicate_zero, List.push_toArray, List.append_toArray, List.nil_append, List.cons_append]
  obtain ⟨w1, hw1⟩ : ∃ W, w.alloc (.cells #[.slice none 0 0] 129) = W := ⟨_, rfl⟩
  have hbn1 : Below w.heap.size w w1 := by rw [← hw1]; exact below_alloc1 (Below.refl _ _) _
  have bo1 : w1.heap[w.heap.size]? = some (.cells #[.slice none 0 0] 129 (0, 0)) := by rw [← hw1]; exact heap_alloc_new w _
  have hz1 : w1.heap.size ≤ w.heap.size + 1 ∧ w.heap.size + 1 ≤ w1.heap.size := by rw [← hw1]; simp
  have hs1 := HS0.out.keep hbn1
  have hck : w1.cell? ⟨bs, 2, none⟩ = some (.pointer (some ⟨b, 0, none⟩)) := by have h := hs1.1; simp [World.cell?, h]
  have HS1 := Lib.hid hs1
  have BO1 := Lib.hid bo1
  have HB1 := Lib.hid hbn1
  clear hs1 hbn1 bo1
  go_wp2_with fail
  (try rw [hw1])
  refine (DrainE_calls b _).mono ?_
  rintro e w2 ⟨he, hw2⟩
  subst he
  have hbn2 : Below w1.heap.size w1 w2 := by rw [hw2]; exact below_alloc1 (Below.refl _ _) _
  have bX2 : w2.heap[w1.heap.size]? = some (.cells #[.pointer (some ⟨b, 0, none⟩)] 119 (0, 0)) := by rw [hw2]; exact heap_alloc_new _ _
  have hz2 : w2.heap.size ≤ w1.heap.size + 1 ∧ w1.heap.size + 1 ≤ w2.heap.size := by rw [hw2]; simp
  have hI0 : LCE w v b w.heap.size (w2.heap.size + 2) [] w2 := ⟨(Only.of_below HB1.out).trans (Only.of_below hbn2), _, obj_below hbn2 BO1.out (obj_lt BO1.out), OwnF.nil _ _ _⟩
  have HI0 := Lib.hid hI0
  have hs2 := HS1.out.keep hbn2
  have HH2 := Lib.hid hs2.2.2.1
  have HOK2 := Lib.hid hs2.2.2.2.1
  have HSL2 := Lib.hid hs2.slx
  have HBS2 := Lib.hid hs2.1
  have BX := Lib.hid bX2
  have hLl : L.length ≤ 1000000 := by omega
  clear hbn2 hw2 bX2 hI0 hs2 hck hw1
  go_wp2_with fail
  refine (wpIn_wide (n := 5)).1 ?_
  refine wpIn_rangeA rfl (by omega) (gf := 113) (lb := #[.pointer (some ⟨w1.heap.size, 0, none⟩)]) rfl trivial (enters_of Try.func113 (by kernel_rfl) rfl)
    (drainE_iter _ w1.heap.size bx bs b b v L w2 HH2.out HOK2.out hLl BX.out (by omega) (fun k hk => by have := hlv k hk; omega) HSL2.out hnx hns)
    (fun k h => by have := hDb k h; omega) (fun h k => h.trans k) (fun W l o o' hl _ _ => KpSE.putObj ⟨by omega, by omega, by omega, by omega, fun k hk => by have := hlv k hk; omega⟩ W l o' hl)
    (fun xs A B h hk => by obtain ⟨v', h1, h2, h3⟩ := h; exact ⟨v', h1.kp h3 hk, h2, h3⟩) (fun xs A B h hk => by obtain ⟨v', L, h1, h4, h2, h3⟩ := h; exact ⟨v', L, h1.kp h3 hk, h4, h2, h3⟩) (fun _ => rfl)
    (fun pre W => LCE w v b w.heap.size (w2.heap.size + 2) pre W)
    (fun c pre W => False)
    (fun pre A B h hs => h.only hs fun k hk => by
      rcases hk with hk | hk
      · have := hDb k hk; exact ⟨.inl hk, by omega, by omega⟩
      · exact ⟨.inr (by omega), by omega, by omega⟩) (fun c pre A B h hs => h) HI0.out ?a1 (fun x W => W.alloc (.cells #[.int .i64 x.1, .int .i64 x.2.1, .int .i64 x.2.2] 124)) (fun x W => below_alloc1 (Below.refl _ _) _) (fun x W => Only.of_below (below_alloc1 (Below.refl _ _) _)) ?assign ?body ?done ?stop
  case assign =>
    intro l x W K hK
    gi_wp2
    exact hK
  case body =>
    clear HI0 HOK2
    rintro l2 pre ⟨x0, x1, x2⟩ A0 W0 W o' hW ⟨t1, v9, t3, t4⟩ hlen hsz _ _ _
    have hbx : W.heap[W0.heap.size]? = some (.cells #[.int .i64 x0, .int .i64 x1, .int .i64 x2] 124 (0, 0)) := by
      rw [hW]; exact (World.putObj_heap_other (by omega)).trans (heap_alloc_new W0 _)
    obtain ⟨bB, hbB⟩ : ∃ bB, W0.heap.size = bB := ⟨_, rfl⟩
    have hbBn : w2.heap.size + 2 ≤ bB := by omega
    have hwW := t1.size
    rw [hbB] at hbx ⊢
    obtain ⟨A1, c1, rfl, hc1⟩ := t4.shape
    have hrow0 := t4
    unfold OwnF at hrow0
    obtain ⟨pn, hpn⟩ : ∃ pn, pre.length = pn := ⟨_, rfl⟩
    rw [hpn] at t3 hlen hrow0
    have hco : W.cell? ⟨w.heap.size, 0, none⟩ = some (.slice A1 pn c1) := by simp [World.cell?, t3]
    have hcb0 : W.cell? ⟨bB, 0, none⟩ = some (.int .i64 x0) := by simp [World.cell?, hbx]
    have hcb1 : W.cell? ⟨bB, 1, none⟩ = some (.int .i64 x1) := by simp [World.cell?, hbx]
    have hcb2 : W.cell? ⟨bB, 2, none⟩ = some (.int .i64 x2) := by simp [World.cell?, hbx]
    have hbWz := obj_lt hbx
    have hneO : ¬ OwnB (.slice A1 pn c1) w.heap.size := fun h => by have := own_base hrow0 _ h; omega
    have HW1 := Lib.hid (obj_below ((Below.refl W.heap.size W).alloc (Nat.le_refl _) (.cells #[.int .i64 x0, .int .i64 x1, .int .i64 x2] 124)) t3 (obj_lt t3))
    have hbz : w2.heap.size + 2 ≤ (W.alloc (.cells #[.int .i64 x0, .int .i64 x1, .int .i64 x2] 124)).heap.size := by rw [World.size_alloc]; omega
    have T1 := Lib.hid t1
    have HROW0 := Lib.hid hrow0
    have HPN := Lib.hid hpn
    have hob5 : ∀ k, OwnB (.slice A1 pn c1) k → w2.heap.size + 2 ≤ k := fun k h => own_base hrow0 k h
    have HOB6 := Lib.hid (show ∀ k, OwnB (.slice A1 pn c1) k → ∃ cs t f, W.heap[k]? = some (.cells cs t f) from fun k h => own_cells hrow0 k h)
    have hpn6 : pn ≤ 1000000 := by omega
    clear t1 t3 t4 hrow0 hW hbx hpn
    gi_wp2_with (gi_at_builtin; refine wpListIn_app _ rfl (.tmp 14) (.tmp 16) 129 124 rfl (.agg #[.int .i64 0, .int .i64 0, .int .i64 0]) 3 24 Try.underlying129 infoE rfl (by omega) (by omega) (w2.heap.size + 2) (.slice A1 pn c1) pn (pre.flatMap tri) rfl (some ⟨W.heap.size, 0, none⟩) 1 1 rfl (own_alloc1 HROW0.out _) hbz [.int .i64 x0, .int .i64 x1, .int .i64 x2] rfl (RdC.block (cs := #[.int .i64 x0, .int .i64 x1, .int .i64 x2]) (heap_alloc_new _ _)) (ent_oneE x0 x1 x2) (by omega) ?_; intro v1 W2 hrow hob hv hnil; obtain ⟨A2, c2, hv2, _⟩ := own_shape hrow; subst hv2; have HROW := Lib.hid hrow; have HOB := Lib.hid hob; have hfz : W2.frozen? ⟨w.heap.size, 0, none⟩ = false := free_blk (hob.obj HW1.out hneO) 0; have hcw : W2.cell? ⟨w.heap.size, 0, none⟩ = some (.slice A1 pn c1) := cell_blk (cs := [_]) (hob.obj HW1.out hneO) 0; clear hrow hob hv hnil)
    obtain ⟨WE, hWE⟩ : ∃ WE, W2.setCell ⟨w.heap.size, 0, none⟩ (.slice A2 (pn + 1) c2) = WE := ⟨_, rfl⟩
    rw [hWE]
    have hW : Only (fun _ => False) W (W.alloc (.cells #[.int .i64 x0, .int .i64 x1, .int .i64 x2] 124)) := Only.of_below (below_alloc1 (Below.refl _ _) _)
    have hset : Only (fun b => b = w.heap.size) W2 WE := by rw [← hWE]; exact only_set _ _ _ _
    have hall : Only (fun b => OwnB (.slice A1 pn c1) b ∨ b = w.heap.size) W WE := ((hW.mono fun _ _ h => h.elim).trans (HOB.out.mono fun _ _ h => .inl h)).trans (hset.mono fun _ _ h => .inr h)
    have hkf : KeepsFrom w2.heap.size W WE := ⟨hall.size, fun k o hk hh hc => hall.obj hh fun h => by
      rcases h with h | h
      · obtain ⟨cs, t, f, hcs⟩ := HOB6.out k h
        rw [hh] at hcs
        injection hcs with hcs
        rw [hcs] at hc
        cases hc
      · omega⟩
    have hke : KpSE v b w1.heap.size bx bs W WE := hall.mono fun k _ h he => by
      have h6 : w2.heap.size + 2 ≤ k ∨ k = w.heap.size := h.imp (hob5 k) fun h => h
      rcases he with he | he | he | he | he
      · omega
      · have := hlv k he; omega
      · omega
      · omega
      · omega
    refine ⟨hkf, hke, T1.out.trans2E hall fun k hk h => ?_, _, by rw [← hWE]; exact set_blk (cs := [_]) (HOB.out.obj HW1.out hneO) 0 _, ?_⟩
    · have h6 : w2.heap.size + 2 ≤ k ∨ k = w.heap.size := h.imp (hob5 k) fun h => h
      omega
    · have h7 : OwnF W2 (w2.heap.size + 2) 124 3 tri (.slice A2 (pn + 1) c2) (pre ++ [(x0, x1, x2)]) := by
        have h8 := HROW.out
        unfold OwnF
        rw [show (pre ++ [(x0, x1, x2)]).length = pn + 1 by simp [HPN.out]]
        simpa [tri] using h8
      exact h7.only hset fun k hk e => by have := (h7.lt k hk).1; omega
  case done =>
    rintro _ pre W rfl ⟨v', hH', hdr, hv'⟩ ⟨t1, v9, t3, t4⟩ hK
    clear HI0 HH2 HOK2 HSL2 HBS2 BX HS1 HB1 BO1
    obtain ⟨A9, c9, rfl, hc9⟩ := t4.shape
    obtain ⟨N, hN⟩ : ∃ N, pre.length = N := ⟨_, rfl⟩
    have hpl := hdr.len
    rw [hN] at t3 t4 hc9 hpl
    have hN6 : N ≤ 100000 := by simp at hpl; omega
    have hpp : pre.Perm L := by have h := hdr.1; simpa using h
    have hsr : Srt aheadE pre.reverse := by
      unfold Srt
      rw [List.pairwise_reverse]
      exact hdr.2.1
    have hob9 : ∀ k, OwnB (.slice A9 N c9) k → w2.heap.size + 2 ≤ k ∧ k < W.heap.size := fun k hk => t4.lt k hk
    have hc0 : W.cell? ⟨w.heap.size, 0, none⟩ = some (.slice A9 N c9) := by simp [World.cell?, t3]
    have T1 := Lib.hid t1
    have T3 := Lib.hid t3
    have T4 := Lib.hid t4
    have HN := Lib.hid hN
    have HPP := Lib.hid hpp
    have HSR := Lib.hid hsr
    have HHV := Lib.hid hH'
    have HV := Lib.hid hv'
    have HK := Lib.hid hK
    have hwW := t1.size
    have hKz := obj_lt hK
    clear t1 t3 t4 hN hpp hsr hH' hdr hv' hK hpl
    go_wp2_with fail
    refine (RevE_calls (w2.heap.size + 2) A9 N c9 pre W T4.out HN.out (by omega)).mono ?_
    rintro e W2 ⟨he, hO2, hon2⟩
    subst he
    have hK2 := hon2.obj HK.out (fun h => by have := (hob9 _ h).1; omega)
    have ht3 := hon2.obj T3.out (fun h => by have := (hob9 _ h).1; omega)
    have hH2 := HHV.out.only hon2 (fun h => by have := (hob9 _ h).1; omega) (fun k hk h => by have := (hob9 _ h).1; rw [HV.out] at hk; have := hlv k hk; omega)
    have hONW := T1.out.trans2E hon2 (fun k hk h => by have := (hob9 _ h).1; omega)
    have hc0 : W2.cell? ⟨w.heap.size, 0, none⟩ = some (.slice A9 N c9) := by simp [World.cell?, ht3]
    have hz2W := hon2.size
    obtain ⟨S, hS⟩ : ∃ S, pre.reverse = S := ⟨_, rfl⟩
    rw [hS] at hO2 HSR
    have hSN : S.length = N := by rw [← hS, List.length_reverse, HN.out]
    have HPS := Lib.hid (show S.Perm L by rw [← hS]; exact (List.reverse_perm pre).trans HPP.out)
    have HK2 := Lib.hid hK2
    have HO2 := Lib.hid hO2
    have HH2 := Lib.hid hH2
    have HONW := Lib.hid hONW
    have HSN := Lib.hid hSN
    clear hS hK2 ht3 hH2 hONW hO2 hSN hon2 T1 T3 T4 HN HPP HHV HK
    go_wp2_with fail
    go_loopg [5, 22] N (fun kq v5 v22 w' => ∃ vq Lq A5 c5, kq ≤ N ∧ v5 = .slice A5 (N - kq) c5 ∧ v22 = .int .i64 ((N - kq : Nat) : Int) ∧ HpE bx w' b b vq Lq ∧ HeapOk ltE Lq ∧ Lq.Perm (S.take (N - kq)) ∧ (∀ k, vq.ownBlock = some k → v.ownBlock = some k ∨ W2.heap.size ≤ k) ∧ OwnF w' W2.heap.size 41 2 twoR (.slice A5 (N - kq) c5) ((S.take (N - kq)).map fun p => (p.1, p.2.1)) ∧ (∀ k, (Value.slice A5 (N - kq) c5).ownBlock = some k → ¬ (vq.ownBlock = some k)) ∧ OwnF w' (w2.heap.size + 2) 124 3 tri (.slice A9 N c9) S ∧ Only (HpBE v b) w w' ∧ W2.heap.size ≤ w'.heap.size ∧ w'.heap[w2.heap.size]? = some (.deferred (some [])))
    case atStart => exact ⟨v', [], none, 0, Nat.le_refl _, by simp, by simp, HH2.out, fun i a b h0 ha => by simp at ha, by simp, fun k hk => .inl (by rw [← HV.out]; exact hk), by simp only [Nat.sub_self, List.take_zero, List.map_nil]; exact OwnF.nil _ _ _, fun k hk => by simp [Value.ownBlock] at hk, HO2.out, HONW.out, Nat.le_refl _, HK2.out⟩
    case round =>
      clear HH2 HO2 HONW HK2 HV hc0
      obtain ⟨vq, Lq, A5, c5, hk, rfl, rfl, hHq, hokq, hpmq, hfrq, hO5, hdj, hO9, honq, hzq, hKq⟩ := hrel
      have HHQ := Lib.hid hHq
      have HOKQ := Lib.hid hokq
      have HPMQ := Lib.hid hpmq
      have HFRQ := Lib.hid hfrq
      have HO5 := Lib.hid hO5
      have HDJ := Lib.hid hdj
      have HO9 := Lib.hid hO9
      have HONQ := Lib.hid honq
      have HKQ := Lib.hid hKq
      clear hHq hokq hpmq hfrq hO5 hdj hO9 honq hKq
      cases gk with
      | zero =>
        have htk : S.take (N - 0) = S := by rw [Nat.sub_zero, ← HSN.out]; exact List.take_length
        rw [htk] at HPMQ HO5
        simp only [Nat.sub_zero] at HO5 HDJ ⊢
        have hlt0 : ¬ ((N : Int) < (N : Int)) := by omega
        clear htk
        go_wp2_with fail
        have hbsq := HONQ.out.obj HS0.out.1 hns
        have hbxq := HONQ.out.cell HS0.out.2.1 hnx
        have hNq : ∀ k, k < w.heap.size → Ns v b k → Ns vq b k := fun k hk h h2 => h2.elim (fun e => h (.inl e)) fun h2 => (HFRQ.out k h2).elim (fun e => h (.inr e)) fun e => by omega
        have hsel : SelE wr ⟨bs, bx, b, vq⟩ most nx Lq := ⟨hbsq, hbxq, HHQ.out, HOKQ.out, hNq bx hlbx hnx, hNq bs hlbs hns, hne⟩
        have hlq := hsel.lt
        have hnd : ∀ k, SlB ⟨bs, bx, b, vq⟩ k → ¬ k = w2.heap.size := fun k hk e => by
          rcases hk with hk | hk | hk
          · have : k = bs := hk
            omega
          · have : k = b := hk
            omega
          · rcases HFRQ.out k hk with h | h
            · have := hlv k h; omega
            · omega
        exact ⟨by simp, .inl ⟨_, _, rfl, run_takeDeferred HKQ.out, _, results_tmp rfl _ _ _, ⟨bs, bx, b, vq⟩, Lq, S, _, rfl, hsel.only (only_putObj _ _ _) hnd (fun e => by have : bx = w2.heap.size := e; omega), HPMQ.out.trans HPS.out, ⟨rfl, rfl, rfl, fun k hk => (HFRQ.out k hk).imp (fun h => h) fun h => by omega⟩,
          (HONQ.out.mono fun k _ h => h.elim (fun h => .inr (.inl h)) fun h => .inr (.inr h)).trans2E (only_putObj _ _ _) (fun k hk h => by have : k = w2.heap.size := h; omega), HPS.out, HSR.out, (HO5.out.low (by omega)).only (only_putObj _ _ _) (fun k hk h => by have := (HO5.out.lt k hk).1; have : k = w2.heap.size := h; omega), fun k hk h => by
            have h1 := (HO5.out.lt k hk).1
            rcases h with h | h | h
            · have : k = bs := h
              omega
            · have : k = b := h
              omega
            · exact HDJ.out k hk h⟩⟩
      | succ k1 =>
        obtain ⟨i, hi⟩ : ∃ i, N - (k1 + 1) = i := ⟨_, rfl⟩
        have hi2 : N - k1 = i + 1 := by omega
        have HI := Lib.hid hi2
        have hiN : i < N := by omega
        rw [hi] at HPMQ HO5 HDJ ⊢
        obtain ⟨g9, ⟨x0, x1, x2⟩, hg9, hg9b, hg9z, hxS, hcS, _, _⟩ := HO9.out.at_ tri_q i hiN (by omega)
        subst hg9
        have hd0 : wr.cell? ⟨g9, i * 3, none⟩ = some (.int .i64 x0) := hcS 0 (by omega)
        have hd1 : wr.cell? ⟨g9, i * 3 + 1, none⟩ = some (.int .i64 x1) := hcS 1 (by omega)
        have hd2 : wr.cell? ⟨g9, i * 3 + 2, none⟩ = some (.int .i64 x2) := hcS 2 (by omega)
        have bi : (i : Int) < (N : Int) := by omega
        have htk : S.take (i + 1) = S.take i ++ [(x0, x1, x2)] := by rw [List.take_add_one, hxS]; rfl
        have HTK := Lib.hid htk
        have hLq : Lq.length ≤ 1000000 := by rw [HPMQ.out.length_eq]; simp; omega
        clear hi hi2 hxS hcS htk
        obtain ⟨W3, hW3⟩ : ∃ W, wr.alloc (.cells #[.int .i64 x0, .int .i64 x1, .int .i64 x2] 124) = W := ⟨_, rfl⟩
        have hB3 : Below wr.heap.size wr W3 := by rw [← hW3]; exact below_alloc1 (Below.refl _ _) _
        have hbe3 : W3.heap[wr.heap.size]? = some (.cells #[.int .i64 x0, .int .i64 x1, .int .i64 x2] 124 (0, 0)) := by rw [← hW3]; exact heap_alloc_new _ _
        have hz3 := obj_lt hbe3
        have HBE := Lib.hid hbe3
        have hbsq := obj_below hB3 (HONQ.out.obj HS0.out.1 hns) (obj_lt (HONQ.out.obj HS0.out.1 hns))
        have hbxq := HONQ.out.cell HS0.out.2.1 hnx
        have hbxq3 := cell_below hB3 hbxq (World.block_lt_of_cell? _ _ hbxq)
        have hck : W3.cell? ⟨bs, 2, none⟩ = some (.pointer (some ⟨b, 0, none⟩)) := by simp [World.cell?, hbsq]
        have he0 : W3.cell? ⟨wr.heap.size, 0, none⟩ = some (.int .i64 x0) := by simp [World.cell?, hbe3]
        have he1 : W3.cell? ⟨wr.heap.size, 1, none⟩ = some (.int .i64 x1) := by simp [World.cell?, hbe3]
        have he2 : W3.cell? ⟨wr.heap.size, 2, none⟩ = some (.int .i64 x2) := by simp [World.cell?, hbe3]
        have HSLX := Lib.hid (show SlxE W3 bx bs from ⟨hbxq3, by simp [World.cell?, hbsq]⟩)
        have HH3 := Lib.hid (HHQ.out.keep hB3)
        have HO53 := Lib.hid (HO5.out.keep hB3)
        have HO93 := Lib.hid (HO9.out.keep hB3)
        have HK3 := Lib.hid (obj_below hB3 HKQ.out (obj_lt HKQ.out))
        have HON3 := Lib.hid (HONQ.out.trans (Only.of_below hB3))
        have hbr : Below W3.heap.size W3 W3 := Below.refl _ _
        have hNq : ∀ k, k < w.heap.size → Ns v b k → Ns vq b k := fun k hk h h2 => h2.elim (fun e => h (.inl e)) fun h2 => (HFRQ.out k h2).elim (fun e => h (.inr e)) fun e => by omega
        have hnx' := hNq bx hlbx hnx
        have hns' := hNq bs hlbs hns
        have hqlt : ∀ k, vq.ownBlock = some k → k < wr.heap.size := fun k hk => (HHQ.out.2.1.lt k hk).2
        have h5lt : ∀ k, OwnB (.slice A5 i c5) k → k < wr.heap.size := fun k hk => (HO5.out.lt k hk).2
        have hnbs : ¬ HpBE vq b bs := hns'
        have hnbe : ¬ HpBE vq b wr.heap.size := fun h => h.elim (fun h => by omega) fun h => by have := hqlt _ h; omega
        clear hB3 hbe3 hbsq hbxq hbxq3
        go_wp2_with fail
        (try rw [hW3])
        clear hW3 hd0 hd1 hd2
        go_region_held3 (fun w' => w'.cell? ⟨bs, 2, none⟩ = some (.pointer (some ⟨b, 0, none⟩)) ∧ w'.cell? ⟨wr.heap.size, 0, none⟩ = some (.int .i64 x0) ∧ w'.cell? ⟨wr.heap.size, 1, none⟩ = some (.int .i64 x1) ∧ w'.cell? ⟨wr.heap.size, 2, none⟩ = some (.int .i64 x2) ∧ Only (HpBE vq b) W3 w')
          (first | exact ⟨cell_below (B := W3.heap.size) (w := W3) (below_drew1 hbr) hck (World.block_lt_of_cell? _ _ hck), cell_below (B := W3.heap.size) (w := W3) (below_drew1 hbr) he0 (World.block_lt_of_cell? _ _ he0), cell_below (B := W3.heap.size) (w := W3) (below_drew1 hbr) he1 (World.block_lt_of_cell? _ _ he1), cell_below (B := W3.heap.size) (w := W3) (below_drew1 hbr) he2 (World.block_lt_of_cell? _ _ he2), Only.of_below (below_drew1 hbr)⟩ | exact ⟨hQ.cell hck hnbs, hQ.cell he0 hnbe, hQ.cell he1 hnbe, hQ.cell he2 hnbe, hQ⟩ | go_keep)
          (first
            | (go_at_call 85; go_split_ands; (with_reducible refine Calls.mono (PushE_calls bx bs b b vq Lq x0 x1 x2 _ ?_ HOKQ.out hLq ?_ hnx' hns') ?_); (exact HH3.out.keep (below_drew1 hbr)); (exact HSLX.out.keep (below_drew1 hbr)); rintro e W4 ⟨he, v9, l9, ⟨hH, hok, hon, hfr⟩, hpm⟩; subst he; have hQ : Only (HpBE vq b) W3 W4 := (Only.of_below (below_drew1 hbr)).trans hon; have HH9 := Lib.hid hH; have HOK9 := Lib.hid hok; have HFR9 := Lib.hid (show ∀ k, v9.ownBlock = some k → vq.ownBlock = some k ∨ W3.heap.size ≤ k from hfr); have HPM9 := Lib.hid hpm; clear hH hok hon hfr hpm))
        have hz4 := hQ.size
        have HQ := Lib.hid hQ
        have hn5 : ∀ k, (Value.slice A5 i c5).ownBlock = some k → ¬ HpBE vq b k := fun k hk h => h.elim (fun h => by have := (HO5.out.lt k hk).1; omega) fun h => HDJ.out k hk h
        have HO54 := Lib.hid (HO53.out.only hQ hn5)
        have HO94 := Lib.hid (HO93.out.only hQ fun k hk h => by
          have h1 := (hob9 k hk)
          rcases h with h | h
          · omega
          · rcases HFRQ.out k h with h | h
            · have := hlv k h; omega
            · omega)
        have hf0 : W4.cell? ⟨wr.heap.size, 0, none⟩ = some (.int .i64 x0) := hQ.cell he0 hnbe
        have hf1 : W4.cell? ⟨wr.heap.size, 1, none⟩ = some (.int .i64 x1) := hQ.cell he1 hnbe
        have HK4 := Lib.hid (hQ.obj HK3.out fun h => by
          rcases h with h | h
          · omega
          · rcases HFRQ.out _ h with h | h
            · have := hlv _ h; omega
            · omega)
        have HON4 := Lib.hid (HON3.out.trans2E hQ fun k hk h => h.elim (fun h => .inl h) fun h => .inr ((HFRQ.out k h).resolve_right (by omega)))
        have hbase : W2.heap.size ≤ W4.heap.size := by omega
        have hl5 : ((S.take i).map fun p => (p.1, p.2.1)).length = i := by rw [List.length_map, List.length_take, HSN.out]; omega
        have HL5 := Lib.hid hl5
        have hby : (((S.take i).map fun p => (p.1, p.2.1)).length + [(x0, x1)].length) * 16 ≤ 140737488355328 := by rw [hl5]; simp; omega
        obtain ⟨P5, hP5⟩ : ∃ P, ((S.take i).map fun p => (p.1, p.2.1)) = P := ⟨_, rfl⟩
        rw [hP5] at HO54 hby
        have hpl5 : P5.length = i := by rw [← hP5]; exact hl5
        have HP5 := Lib.hid hP5
        clear hQ hbr hck he0 he1 he2 hl5 HO53 HO93 HK3 HON3 HO5 HO9 HKQ HONQ hP5
        go_wp2_with (first
          | (at_builtin; refine wpList_appF (q := 2) (f := twoR) _ rfl (.tmp 32) (.tmp 35) 49 41 rfl (.agg #[.int .i64 0, .int .i64 0]) 16 Try.underlying49 infoR rfl (by omega) (by omega) twoR_q twoR_one W2.heap.size (.slice A5 i c5) P5 rfl (some ⟨W4.heap.size, 0, none⟩) 1 [(x0, x1)] rfl (HO54.out.alloc1 _) W4 ((Below.refl _ _).alloc (by omega) _) (by rw [World.size_alloc]; omega) (RdC.block (cs := #[.int .i64 x0, .int .i64 x1]) (heap_alloc_new _ _)) hby ?_; intro v6 W5 hown hgrow hbel hat hnil; obtain ⟨A6, c6, hv6, _⟩ := hown.shape; rw [List.length_append, List.length_singleton, hpl5] at hv6; subst hv6; have HO6 := Lib.hid hown; have HG := Lib.hid hgrow; have HAT := Lib.hid hat; clear hown hgrow hbel hat hnil))
        go_roundg k1
        case measure => omega
        case rel =>
          have hall : Only (OwnB (.slice A5 i c5)) W4 W5 := (Only.of_below (below_alloc1 (Below.refl _ _) _)).trans HG.out
          have hz5 := hall.size
          have h5b : ∀ k, OwnB (.slice A5 i c5) k → W2.heap.size ≤ k ∧ k < wr.heap.size := fun k hk => by have h := HO54.out.lt k hk; have h2 := h5lt k hk; exact ⟨h.1, h2⟩
          have h9lt : ∀ k, v9.ownBlock = some k → k < W4.heap.size := fun k hk => (HH9.out.2.1.lt k hk).2
          refine ⟨v9, l9, A6, c6, by omega, by rw [HI.out], by rw [HI.out]; rfl, HH9.out.only hall (fun h => by have := (h5b _ h).1; omega) (fun k hk h => ?_), HOK9.out, ?_, fun k hk => ?_, ?_, fun k hk h => ?_, HO94.out.only hall (fun k hk h => ?_), HON4.out.trans2E hall (fun k hk h => ?_), by omega, hall.obj HK4.out (fun h => ?_)⟩
          · rcases HFR9.out k hk with e | e
            · exact HDJ.out k h e
            · have := (h5b _ h).2; omega
          · rw [HI.out, HTK.out]
            exact HPM9.out.trans ((HPMQ.out.cons _).trans (List.perm_append_comm (l₁ := [(x0, x1, x2)]) (l₂ := S.take i)))
          · rcases HFR9.out k hk with e | e
            · exact HFRQ.out k e
            · exact .inr (by omega)
          · rw [HI.out, HTK.out, List.map_append]
            have h := HO6.out
            rw [← HP5.out] at h
            exact h
          · rw [HI.out] at hk
            rcases HAT.out with e | e
            · rw [e] at hk
              rcases HFR9.out k h with e2 | e2
              · exact HDJ.out k hk e2
              · have := (h5b _ hk).2; omega
            · rw [e] at hk
              injection hk with hk
              have := h9lt k h
              have hsz := World.size_alloc W4 (.cells #[.int .i64 x0, .int .i64 x1] 41)
              omega
          · have := (h5b _ h).1
            have := hob9 k hk
            omega
          · have := (h5b _ h).1; omega
          · have := (h5b _ h).1; omega
  case stop =>
    rintro _ cc pre W rfl _ h hK
    exact h.elim
end Go.Proofs.Ytacgkoclammggaa
