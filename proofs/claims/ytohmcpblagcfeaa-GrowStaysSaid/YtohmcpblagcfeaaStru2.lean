
/-
  The state of the tree's making: nodes so far, and a stack of jobs; what pop, push and append do to it; the closure that pushes; Clone and Check. No condition beyond what each theorem names.
-/
import Derived.Test.YtohmcpblagcfeaaStru
namespace Go.Proofs.Ytohmcpblagcfeaa
open Go.RowKit
set_option linter.unusedVariables false
set_option maxRecDepth 100000
set_option linter.unusedSimpArgs false

def XB (v u : Value) (bs : Nat) (b : Nat) : Prop := v.ownBlock = some b ∨ u.ownBlock = some b ∨ b = bs
structure St (w : World) (base dm bs : Nat) (v u : Value) (N : List NodeV) (J : List JobV) : Prop where
  n : OwnN w base v N (XB v u bs)
  j : OwnJ w base dm u J (XB v u bs)
  b : w.heap[bs]? = some (.cells #[u] 115 (0, 0))
  lo : base ≤ bs
  vu : ∀ b, v.ownBlock = some b → u.ownBlock ≠ some b
  vb : v.ownBlock ≠ some bs
  ub : u.ownBlock ≠ some bs
section
variable {w w1 w2 : World} {base dm bs : Nat} {v u : Value} {N : List NodeV} {J : List JobV}
theorem St.blt (h : St w base dm bs v u N J) (b : Nat) (hb : XB v u bs b) : base ≤ b ∧ b < w.heap.size := by
  rcases hb with hb | hb | hb
  · exact h.n.lt b hb
  · exact h.j.lt b hb
  · subst hb; exact ⟨h.lo, obj_lt h.b⟩
theorem St.only {S : Nat → Prop} (h : St w base dm bs v u N J) (ho : Only S w w1) (hs : ∀ b, base ≤ b → b < w.heap.size → ¬ S b) : St w1 base dm bs v u N J :=
  ⟨h.n.step ho (fun b hb => hs b (h.n.lt b hb).1 (h.n.lt b hb).2) (fun b h1 h2 h3 => absurd h3 (hs b h1 h2)) fun b hb => .inl hb,
   h.j.step ho (fun b hb => hs b (h.j.lt b hb).1 (h.j.lt b hb).2) (fun b h1 h2 h3 => absurd h3 (hs b h1 h2)) fun b hb => .inl hb,
   ho.obj h.b (hs bs h.lo (obj_lt h.b)), h.lo, h.vu, h.vb, h.ub⟩
theorem St.below (h : St w base dm bs v u N J) (hb : Below w.heap.size w w1) : St w1 base dm bs v u N J := h.only (S := fun _ => False) (Only.of_below hb) fun _ _ _ h => h
theorem xb_slice (v : Value) (A : Option Addr) (n m c d : Nat) (bs : Nat) : XB v (.slice A n c) bs = XB v (.slice A m d) bs := by
  funext b; cases A <;> rfl
theorem ownBlock_slice (A : Option Addr) (n m c d : Nat) : (Value.slice A n c).ownBlock = (Value.slice A m d).ownBlock := by cases A <;> rfl
theorem St.pop {A : Option Addr} {m c : Nat} {j : JobV} (h : St w base dm bs v (.slice A (m + 1) c) N (J ++ [j])) : St (w.setCell ⟨bs, 0, none⟩ (.slice A m c)) base dm bs v (.slice A m c) N J := by
  obtain ⟨g, B, c1, _, _, _, _, _, _, hj⟩ := h.j.top
  have hn := h.n
  rw [xb_slice v A (m + 1) m c c bs] at hn hj
  refine ⟨hn.step (only_set w bs 0 _) (fun b hb e => h.vb (by rw [hb, e])) (fun b _ _ e => .inr (.inr e)) fun b hb => .inl hb,
    hj.step (only_set w bs 0 _) (fun b hb e => h.ub (by rw [ownBlock_slice A (m + 1) m c c, hb, e])) (fun b _ _ e => .inr (.inr e)) fun b hb => .inl hb,
    set_blk (cs := [_]) h.b 0 _, h.lo, fun b hb => by rw [ownBlock_slice A m (m + 1) c c]; exact h.vu b hb, h.vb, by rw [ownBlock_slice A m (m + 1) c c]; exact h.ub⟩
theorem St.right {g n c k : Nat} (h : St w base dm bs (.slice (some ⟨g, 0, none⟩) n c) u N J) (hk : k < n) (x : Int) :
    St (w.setCell ⟨g, k * 6 + 5, none⟩ (.int .i64 x)) base dm bs (.slice (some ⟨g, 0, none⟩) n c) u (setR N (some k) x) J :=
  ⟨h.n.right (.inl rfl) k hk x, h.j.step (only_set w g _ _) (fun b hb e => h.vu g rfl (by rw [hb, e])) (fun b _ _ e => .inl (by rw [e]; rfl)) fun b hb => .inl hb,
   set_other h.b _ _ (fun e => h.vb (by rw [e]; rfl)), h.lo, h.vu, h.vb, h.ub⟩
theorem St.appN {v1 : Value} (h : St w base dm bs v u N J) {al : List NodeA} (e : al.map NodeA.x = N) (h2 : ∀ a ∈ al, Lies w base .i64 a.A a.c a.x.ids (XB v u bs) ∧ Lies w base .i32 a.B a.d a.x.ns (XB v u bs)) {a : NodeA}
    (ha : Lies w base .i64 a.A a.c a.x.ids (XB v u bs) ∧ Lies w base .i32 a.B a.d a.x.ns (XB v u bs)) (hown : OwnF w1 base 73 6 nodeF v1 (al ++ [a])) (hg : Only (OwnB v) w w1) (hat : v1.ownBlock = v.ownBlock ∨ v1.ownBlock = some w.heap.size) :
    St w1 base dm bs v1 u (N ++ [a.x]) J := by
  have hx : ∀ b, XB v1 u bs b → XB v u bs b ∨ w.heap.size ≤ b := fun b hb => by
    rcases hb with hb | hb | hb
    · rcases hat with h3 | h3
      · exact .inl (.inl (by rw [← h3]; exact hb))
      · rw [h3] at hb; injection hb with hb; exact .inr (by omega)
    · exact .inl (.inr (.inl hb))
    · exact .inl (.inr (.inr hb))
  have hs : ∀ b, base ≤ b → b < w.heap.size → OwnB v b → XB v u bs b := fun b _ _ hb => .inl hb
  refine ⟨⟨al ++ [a], by rw [List.map_append, e]; rfl, hown, fun b hb => ?_⟩, h.j.step hg (fun b hb e => h.vu b e hb) hs hx, hg.obj h.b (fun e => h.vb e), h.lo, fun b hb => ?_, ?_, h.ub⟩
  · rcases List.mem_append.1 hb with hb | hb
    · exact ⟨(h2 b hb).1.step hg hs hx, (h2 b hb).2.step hg hs hx⟩
    · rw [List.mem_singleton] at hb; subst hb
      exact ⟨ha.1.step hg hs hx, ha.2.step hg hs hx⟩
  · rcases hat with h3 | h3
    · rw [h3] at hb; exact h.vu b hb
    · rw [h3] at hb; injection hb with hb
      intro h4; have := (h.j.lt b h4).2; omega
  · rcases hat with h3 | h3
    · rw [h3]; exact h.vb
    · rw [h3]; intro h4; injection h4 with h4; have := obj_lt h.b; omega
theorem St.push {u1 : Value} (h : St w base dm bs v u N J) {al : List JobA} (e : al.map JobA.x = J) (h2 : ∀ a ∈ al, Lies w base .i64 a.A a.c a.x.ids (XB v u bs)) {a : JobA}
    (ha : Lies w base .i64 a.A a.c a.x.ids (XB v u bs)) (hown : OwnF w1 base 114 3 (jobF dm) u1 (al ++ [a])) (hg : Only (OwnB u) w w1) (hat : u1.ownBlock = u.ownBlock ∨ u1.ownBlock = some w.heap.size) :
    St (w1.setCell ⟨bs, 0, none⟩ u1) base dm bs v u1 N (J ++ [a.x]) := by
  have hx : ∀ b, XB v u1 bs b → XB v u bs b ∨ w.heap.size ≤ b := fun b hb => by
    rcases hb with hb | hb | hb
    · exact .inl (.inl hb)
    · rcases hat with h3 | h3
      · exact .inl (.inr (.inl (by rw [← h3]; exact hb)))
      · rw [h3] at hb; injection hb with hb; exact .inr (by omega)
    · exact .inl (.inr (.inr hb))
  have hg2 : Only (fun b => OwnB u b ∨ b = bs) w (w1.setCell ⟨bs, 0, none⟩ u1) := (hg.mono fun k _ h => .inl h).trans ((only_set w1 bs 0 _).mono fun k _ h => .inr h)
  have hs : ∀ b, base ≤ b → b < w.heap.size → (OwnB u b ∨ b = bs) → XB v u bs b := fun b _ _ hb => .inr hb
  have hub : u1.ownBlock ≠ some bs := by
    rcases hat with h3 | h3
    · rw [h3]; exact h.ub
    · rw [h3]; intro h4; injection h4 with h4; have := obj_lt h.b; omega
  refine ⟨h.n.step hg2 (fun b hb e => ?_) hs hx, ⟨al ++ [a], by rw [List.map_append, e]; rfl, hown.only (only_set w1 bs 0 _) (fun b hb e => hub (by rw [hb, e])), fun b hb => ?_⟩, set_blk (cs := [_]) (hg.obj h.b h.ub) 0 _, h.lo, fun b hb => ?_, h.vb, hub⟩
  · rcases e with e | e
    · exact h.vu b hb e
    · exact h.vb (by rw [hb, e])
  · rcases List.mem_append.1 hb with hb | hb
    · exact (h2 b hb).step hg2 hs hx
    · rw [List.mem_singleton] at hb; subst hb
      exact ha.step hg2 hs hx
  · rcases hat with h3 | h3
    · rw [h3]; exact h.vu b hb
    · rw [h3]; intro h4; injection h4 with h4; have := (h.n.lt b hb).2; omega
end
theorem infoN : (Try.prog.info? 73).map (fun i => (i.zero, i.size, i.bytes)) = some (some (.agg #[.bool false, .slice none 0 0, .slice none 0 0, .int .i64 0, .int .i64 0, .int .i64 0]), 6, 80) := by kernel_rfl
theorem infoJ : (Try.prog.info? 114).map (fun i => (i.zero, i.size, i.bytes)) = some (some (.agg #[.slice none 0 0, .int .i64 0, .int .i64 0]), 3, 40) := by kernel_rfl
set_option maxHeartbeats 1600000 in
theorem push_calls (w : World) (base dm bs : Nat) (v u : Value) (N : List NodeV) (J : List JobV) (A : Option Addr) (c : Nat) (j : JobV) (h : St w base dm bs v u N J) (ha : Lies w base .i64 A c j.ids (XB v u bs)) (hJ : J.length ≤ 1000000) :
    Calls Try.prog 57 #[.slice A j.ids.length c, .int .i64 ((dm - j.f : Nat) : Int), .int .i64 (upI j.up), .pointer (some ⟨bs, 0, none⟩)] w fun e w' => e = .returned (.tuple #[]) ∧ (∃ u', St w' base dm bs v u' N (J ++ [j]) ∧ ∀ b, u'.ownBlock = some b → u.ownBlock = some b ∨ w.heap.size ≤ b) ∧ Only (XB v u bs) w w' := by
  obtain ⟨n, hn⟩ : ∃ n, j.ids.length = n := ⟨_, rfl⟩
  obtain ⟨d, hd⟩ : ∃ d, ((dm - j.f : Nat) : Int) = d := ⟨_, rfl⟩
  obtain ⟨up, hup⟩ : ∃ up, upI j.up = up := ⟨_, rfl⟩
  have hc0 : w.cell? ⟨bs, 0, none⟩ = some u := by simp [World.cell?, h.b]
  have hH := h.below (below_alloc1 (Below.refl _ _) (.cells #[.slice A n c, .int .i64 d, .int .i64 up] 114))
  obtain ⟨al, e, h1, h2⟩ := hH.j
  have hal : al.length ≤ 1000000 := by rw [← e, List.length_map] at hJ; exact hJ
  have hA2 := ha.step (Only.of_below (S := fun _ => False) (below_alloc1 (Below.refl _ _) (.cells #[.slice A n c, .int .i64 d, .int .i64 up] 114))) (fun _ _ _ h => h.elim) (fun b hb => .inl hb)
  have hf : jobF dm ⟨j, A, c⟩ = [.slice A n c, .int .i64 d, .int .i64 up] := by simp only [jobF, hn, hd, hup]
  have HH := Lib.hid hH
  have H1 := Lib.hid h1
  have H2 := Lib.hid h2
  have HE := Lib.hid e
  have HA := Lib.hid hA2
  have HF := Lib.hid hf
  have HS := Lib.hid h
  have hbs := obj_lt h.b
  have hlo := h.lo
  rw [hn, hd, hup]
  clear hH h1 h2 e hA2 hf h ha hn hd hup
  go_enter Try.func57, Try.ntmps57
  go_wp2_with (first
    | (at_builtin; refine wpList_appF (q := 3) (f := jobF dm) _ rfl (.tmp 7) (.tmp 12) 115 114 rfl (.agg #[.slice none 0 0, .int .i64 0, .int .i64 0]) 40 Try.underlying115 infoJ rfl (by omega) (by omega) (jobF_q dm) (jobF_one dm) base u al rfl (some ⟨w.heap.size, 0, none⟩) 1 [⟨j, A, c⟩] rfl H1.out w ((Below.refl _ _).alloc (by omega) _) (by rw [World.size_alloc]; omega) (by rw [List.flatMap_cons, List.flatMap_nil, List.append_nil, HF.out]; exact RdC.block (cs := #[.slice A n c, .int .i64 d, .int .i64 up]) (heap_alloc_new _ _)) (by simp; omega) ?_; intro u1 w2 hown hgrow hbel hat hnil; obtain ⟨A1, c1, hv1, _⟩ := hown.shape; rw [List.length_append, List.length_singleton] at hv1; subst hv1; have HSt := Lib.hid (HH.out.push HE.out H2.out (a := ⟨j, A, c⟩) HA.out hown hgrow hat); have hob := hgrow.obj HH.out.b HH.out.ub; have hcs : w2.cell? ⟨bs, 0, none⟩ = some u := (by simp [World.cell?, hob]); have hfz : w2.frozen? ⟨bs, 0, none⟩ = false := (by simp [World.frozen?, hob]); have HG := Lib.hid hgrow; have HAT := Lib.hid hat; clear hown hgrow hbel hat hnil hob))
  go_wp2_with fail
  go_end0
  refine ⟨rfl, ⟨_, HSt.out, fun b hb => ?_⟩, ((Only.of_below (S := XB v u bs) (below_alloc1 (Below.refl w.heap.size w) _)).trans (HG.out.mono fun k _ h => .inr (.inl h))).trans ((only_set w2 bs 0 _).mono fun k _ h => .inr (.inr h))⟩
  rcases HAT.out with h3 | h3
  · exact .inl (by rw [← h3]; exact hb)
  · rw [h3, World.size_alloc] at hb; injection hb with hb; exact .inr (by omega)
set_option maxHeartbeats 1600000 in
theorem CloneI_calls (A : Option Addr) (c : Nat) (xs : List Int) (w : World) (ha : Rd w .i64 A xs) (h1 : 1 ≤ xs.length) (hl : xs.length ≤ 1000000) :
    Calls Try.prog 58 #[.slice A xs.length c] w fun e w' => ∃ v, e = .returned v ∧ Own w' w.heap.size 3 .i64 v xs ∧ Below w.heap.size w w' := by
  obtain ⟨ad, rfl, _⟩ := ha.2 0 (by omega)
  have heq := fun (w : World) (a : Option Addr) (n c : Nat) => Lib.run_eql_slice_nil (P := Try.prog) w 23 3 a n c 0 0 Try.underlying23
  have KA := Lib.hid ha
  obtain ⟨n, hn⟩ : ∃ n, xs.length = n := ⟨_, rfl⟩
  have HN := Lib.hid hn
  rw [hn] at h1 hl ⊢
  clear ha hn
  go_enter Try.func58, Try.ntmps58
  go_wp2_with (first
    | (at_builtin; refine wpList_app _ rfl (.tmp 5) (.tmp 6) 23 3 rfl (.int .i64 0) 1 8 Try.underlying23 info_int rfl (by omega) (by omega) w.heap.size (.slice (some ⟨w.heap.size, 0, none⟩) 0 0) 0 [] rfl (some ad) n c rfl (Own.low (k := .i64) (xs := []) (Own.empty w 3 .i64) (Nat.le_refl _)) w (below_alloc1 (Below.refl _ _) _) (by rw [World.size_alloc]; omega) (nums .i64 xs) (by rw [nums_length, HN.out]; omega) (KA.out.below (below_alloc1 (Below.refl _ _) _)).c (nums_one _ _) (by omega) ?_; intro v2 w7 hown2 hgrow2 hbel2 hat2 hnil2; obtain ⟨A1, c1, rfl, _⟩ := own_shape hown2))
  go_wp2_with fail
  go_ret
  exact ⟨_, rfl, by unfold Own; rw [HN.out]; simpa using hown2, hbel2⟩
def growErr (t l d : Int) : Int := if l < 1 ∨ 1024 < l ∨ d < 0 ∨ 64 < d then 1 else if t < 1 ∨ 256 < t then 5 else 0
set_option maxHeartbeats 1600000 in
theorem GCheck_calls (t l d : Int) (sc : Bool) (sd : Int) (DA : Option Addr) (dn dc : Nat) (w : World) :
    Calls Try.prog 35 #[.agg #[.int .i64 t, .int .i64 l, .int .i64 d, .bool sc, .int .u64 sd, .slice DA dn dc]] w fun e w' => e = .returned (.int .i64 (growErr t l d)) ∧ Below w.heap.size w w' := by
  have hb := below_alloc1 (Below.refl w.heap.size w) (.cells #[.int .i64 t, .int .i64 l, .int .i64 d, .bool sc, .int .u64 sd, .slice DA dn dc] 67)
  by_cases a1 : l < 1
  · have a1' : decide (l < 1) = true := decide_eq_true a1
    have HE := Lib.hid (show growErr t l d = 1 by unfold growErr; rw [if_pos (by omega)])
    go_enter Try.func35, Try.ntmps35
    go_wp2_with fail
    go_ret
    exact ⟨by rw [HE.out]; rfl, hb⟩
  have a1' : decide (l < 1) = false := decide_eq_false a1
  by_cases a2 : 1024 < l
  · have a2' : decide (1024 < l) = true := decide_eq_true a2
    have HE := Lib.hid (show growErr t l d = 1 by unfold growErr; rw [if_pos (by omega)])
    go_enter Try.func35, Try.ntmps35
    go_wp2_with fail
    go_ret
    exact ⟨by rw [HE.out]; rfl, hb⟩
  have a2' : decide (1024 < l) = false := decide_eq_false a2
  by_cases a3 : d < 0
  · have a3' : decide (d < 0) = true := decide_eq_true a3
    have HE := Lib.hid (show growErr t l d = 1 by unfold growErr; rw [if_pos (by omega)])
    go_enter Try.func35, Try.ntmps35
    go_wp2_with fail
    go_ret
    exact ⟨by rw [HE.out]; rfl, hb⟩
  have a3' : decide (d < 0) = false := decide_eq_false a3
  by_cases a4 : 64 < d
  · have a4' : decide (64 < d) = true := decide_eq_true a4
    have HE := Lib.hid (show growErr t l d = 1 by unfold growErr; rw [if_pos (by omega)])
    go_enter Try.func35, Try.ntmps35
    go_wp2_with fail
    go_ret
    exact ⟨by rw [HE.out]; rfl, hb⟩
  have a4' : decide (64 < d) = false := decide_eq_false a4
  by_cases a5 : t < 1
  · have a5' : decide (t < 1) = true := decide_eq_true a5
    have HE := Lib.hid (show growErr t l d = 5 by unfold growErr; rw [if_neg (by omega), if_pos (by omega)])
    go_enter Try.func35, Try.ntmps35
    go_wp2_with fail
    go_ret
    exact ⟨by rw [HE.out]; rfl, hb⟩
  have a5' : decide (t < 1) = false := decide_eq_false a5
  by_cases a6 : 256 < t
  · have a6' : decide (256 < t) = true := decide_eq_true a6
    have HE := Lib.hid (show growErr t l d = 5 by unfold growErr; rw [if_neg (by omega), if_pos (by omega)])
    go_enter Try.func35, Try.ntmps35
    go_wp2_with fail
    go_ret
    exact ⟨by rw [HE.out]; rfl, hb⟩
  have a6' : decide (256 < t) = false := decide_eq_false a6
  have HE := Lib.hid (show growErr t l d = 0 by unfold growErr; rw [if_neg (by omega), if_neg (by omega)])
  go_enter Try.func35, Try.ntmps35
  go_wp2_with fail
  go_ret
  exact ⟨by rw [HE.out]; rfl, hb⟩
set_option maxHeartbeats 1600000 in
theorem RCheck_calls (t l d : Int) (sc : Bool) (sd : Int) (DA : Option Addr) (dn dc : Nat) (w : World) :
    Calls Try.prog 34 #[.agg #[.int .i64 t, .int .i64 l, .int .i64 d, .bool sc, .int .u64 sd, .slice DA dn dc]] w fun e w' => e = .returned (.int .i64 (growErr t l d)) ∧ Below w.heap.size w w' := by
  have hb := below_alloc1 (Below.refl w.heap.size w) (.cells #[.int .i64 t, .int .i64 l, .int .i64 d, .bool sc, .int .u64 sd, .slice DA dn dc] 67)
  by_cases a1 : l < 1
  · have a1' : decide (l < 1) = true := decide_eq_true a1
    have HE := Lib.hid (show growErr t l d = 1 by unfold growErr; rw [if_pos (by omega)])
    go_enter Try.func34, Try.ntmps34
    go_wp2_with fail
    go_ret
    exact ⟨by rw [HE.out]; rfl, hb⟩
  have a1' : decide (l < 1) = false := decide_eq_false a1
  by_cases a2 : 1024 < l
  · have a2' : decide (1024 < l) = true := decide_eq_true a2
    have HE := Lib.hid (show growErr t l d = 1 by unfold growErr; rw [if_pos (by omega)])
    go_enter Try.func34, Try.ntmps34
    go_wp2_with fail
    go_ret
    exact ⟨by rw [HE.out]; rfl, hb⟩
  have a2' : decide (1024 < l) = false := decide_eq_false a2
  by_cases a3 : d < 0
  · have a3' : decide (d < 0) = true := decide_eq_true a3
    have HE := Lib.hid (show growErr t l d = 1 by unfold growErr; rw [if_pos (by omega)])
    go_enter Try.func34, Try.ntmps34
    go_wp2_with fail
    go_ret
    exact ⟨by rw [HE.out]; rfl, hb⟩
  have a3' : decide (d < 0) = false := decide_eq_false a3
  by_cases a4 : 64 < d
  · have a4' : decide (64 < d) = true := decide_eq_true a4
    have HE := Lib.hid (show growErr t l d = 1 by unfold growErr; rw [if_pos (by omega)])
    go_enter Try.func34, Try.ntmps34
    go_wp2_with fail
    go_ret
    exact ⟨by rw [HE.out]; rfl, hb⟩
  have a4' : decide (64 < d) = false := decide_eq_false a4
  by_cases a5 : t < 1
  · have a5' : decide (t < 1) = true := decide_eq_true a5
    have HE := Lib.hid (show growErr t l d = 5 by unfold growErr; rw [if_neg (by omega), if_pos (by omega)])
    go_enter Try.func34, Try.ntmps34
    go_wp2_with fail
    go_ret
    exact ⟨by rw [HE.out]; rfl, hb⟩
  have a5' : decide (t < 1) = false := decide_eq_false a5
  by_cases a6 : 256 < t
  · have a6' : decide (256 < t) = true := decide_eq_true a6
    have HE := Lib.hid (show growErr t l d = 5 by unfold growErr; rw [if_neg (by omega), if_pos (by omega)])
    go_enter Try.func34, Try.ntmps34
    go_wp2_with fail
    go_ret
    exact ⟨by rw [HE.out]; rfl, hb⟩
  have a6' : decide (256 < t) = false := decide_eq_false a6
  have HE := Lib.hid (show growErr t l d = 0 by unfold growErr; rw [if_neg (by omega), if_neg (by omega)])
  go_enter Try.func34, Try.ntmps34
  go_wp2_with fail
  go_ret
  exact ⟨by rw [HE.out]; rfl, hb⟩
end Go.Proofs.Ytohmcpblagcfeaa
