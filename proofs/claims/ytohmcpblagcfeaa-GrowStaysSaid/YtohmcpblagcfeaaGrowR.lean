
/-
  Rows of nodes that are read; the document's Same of like rows; the document's tree, walked. Conditions: those of the theorems' heads.
-/
import Derived.Test.YtohmcpblagcfeaaTree
import Derived.Test.YtohmcpblagcfeaaRChoose
namespace Go.Proofs.Ytohmcpblagcfeaa
open Go.RowKit
set_option linter.unusedVariables false
set_option maxRecDepth 100000
set_option linter.unusedSimpArgs false

/-- A row of nodes that reads as N; it and what its nodes hold lie in none of the blocks P. -/
def RdN (w : World) (P : Nat → Prop) (v : Value) (N : List NodeV) : Prop :=
  ∃ A c, ∃ al : List NodeA, v = .slice A N.length c ∧ N.length ≤ c ∧ al.map NodeA.x = N ∧ RdC w A (al.flatMap nodeF) ∧ (0 < N.length → ∃ g, A = some ⟨g, 0, none⟩ ∧ ¬ P g ∧ g < w.heap.size) ∧
    ∀ a ∈ al, Lies w 0 .i64 a.A a.c a.x.ids P ∧ Lies w 0 .i32 a.B a.x.ns.length a.x.ns P
theorem RdN.only {w w1 : World} {P S : Nat → Prop} {v : Value} {N : List NodeV} (h : RdN w P v N) (ho : Only S w w1) (hs : ∀ b, S b → P b) : RdN w1 P v N := by
  obtain ⟨A, c, al, h1, h2, h3, h4, h5, h6⟩ := h
  refine ⟨A, c, al, h1, h2, h3, ?_, fun hl => ?_, fun a ha => ⟨(h6 a ha).1.step ho (fun b _ _ hb => hs b hb) (fun b hb => .inl hb), (h6 a ha).2.step ho (fun b _ _ hb => hs b hb) (fun b hb => .inl hb)⟩⟩
  · rcases Nat.eq_zero_or_pos N.length with h0 | h0
    · have : al = [] := by rw [← h3, List.length_map] at h0; exact List.length_eq_zero_iff.1 h0
      subst this
      intro j u hu; simp at hu
    · obtain ⟨g, rfl, hg, _⟩ := h5 h0
      exact h4.only ho fun hb => hg (hs g hb)
  · obtain ⟨g, e, hg, hlt⟩ := h5 hl
    exact ⟨g, e, hg, Nat.lt_of_lt_of_le hlt ho.size⟩
theorem RdN.below {w w1 : World} {P : Nat → Prop} {v : Value} {N : List NodeV} (h : RdN w P v N) (hb : Below w.heap.size w w1) : RdN w1 P v N := h.only (S := fun _ => False) (Only.of_below hb) fun _ h => h.elim
theorem OwnF.rdC {α : Type} {f : α → List Value} {q : Nat} {w : World} {base : Nat} {e : TypeId} {A : Option Addr} {n c : Nat} {xs : List α} (h : OwnF w base e q f (.slice A n c) xs) : RdC w A (xs.flatMap f) := by
  intro j u hu
  rcases h.2 with ⟨_, hn⟩ | ⟨g, cap, cur, h1, hb, hg, hc, hm, hs, ht⟩
  · have : xs = [] := List.length_eq_zero_iff.1 hn
    subst this
    simp at hu
  · injection h1 with h1
    subst h1
    refine ⟨_, rfl, ?_⟩
    have hj : j < xs.length * q := by
      rcases Nat.lt_or_ge j (xs.length * q) with hj | hj
      · exact hj
      · rw [List.getElem?_eq_none (by rw [h.1]; exact hj)] at hu; cases hu
    rw [add_plain, ← hu, ← ht]
    simp [World.cell?, hg, hj]
theorem RdN.of_own {w : World} {base : Nat} {v : Value} {N : List NodeV} {X P : Nat → Prop} (h : OwnN w base v N X) (hP : ∀ b, P b → b < base) : RdN w P v N := by
  obtain ⟨A, c, rfl, hc⟩ := h.shape
  obtain ⟨al, e, h1, h2⟩ := h
  have key : ∀ {k : IntKind} {A : Option Addr} {c : Nat} {xs : List Int}, Lies w base k A c xs X → Lies w 0 k A c xs P := fun h => ⟨h.1, h.2.1, fun ad h1 e => ⟨Nat.zero_le _, fun hp => by have := hP _ hp; have := (h.2.2 ad h1 e).1; omega⟩⟩
  have hl : al.length = N.length := by rw [← e, List.length_map]
  refine ⟨A, c, al, rfl, hc, e, h1.rdC, fun h0 => ?_, fun a ha => ⟨key (h2 a ha).1, Nat.le_refl _, (key (h2 a ha).2).2⟩⟩
  obtain ⟨g, a, ea, hb, hlt, _⟩ := OwnF.at_ nodeF_q h1 0 h0 (by omega)
  exact ⟨g, ea, fun hp => by have := hP _ hp; omega, hlt⟩
theorem RdN.at_ {w : World} {P : Nat → Prop} {A : Option Addr} {n c : Nat} {N : List NodeV} (h : RdN w P (.slice A n c) N) (j : Nat) {x : NodeV} (hx : N[j]? = some x) :
    ∃ g B1 c1 B2 c2, A = some ⟨g, 0, none⟩ ∧ g < w.heap.size ∧
      w.cell? ⟨g, j * 6, none⟩ = some (.bool x.leaf) ∧ w.cell? ⟨g, j * 6 + 1, none⟩ = some (.slice B1 x.ids.length c1) ∧ w.cell? ⟨g, j * 6 + 2, none⟩ = some (.slice B2 x.ns.length c2) ∧
      w.cell? ⟨g, j * 6 + 3, none⟩ = some (.int .i64 x.off) ∧ w.cell? ⟨g, j * 6 + 4, none⟩ = some (.int .i64 x.left) ∧ w.cell? ⟨g, j * 6 + 5, none⟩ = some (.int .i64 x.right) ∧
      Lies w 0 .i64 B1 c1 x.ids P ∧ Lies w 0 .i32 B2 x.ns.length x.ns P := by
  obtain ⟨A', c', al, e0, h2, h3, h4, h5, h6⟩ := h
  injection e0 with e1 e2 e3
  subst e1
  have hj : j < N.length := by
    rcases Nat.lt_or_ge j N.length with h | h
    · exact h
    · rw [List.getElem?_eq_none h] at hx; cases hx
  obtain ⟨g, rfl, _, hlt⟩ := h5 (by omega)
  have hal : ∃ a, al[j]? = some a ∧ a.x = x := by
    rw [← h3, List.getElem?_map] at hx
    cases ha : al[j]? with
    | none => rw [ha] at hx; simp at hx
    | some a => rw [ha] at hx; simp at hx; exact ⟨a, rfl, hx⟩
  obtain ⟨a, ha, rfl⟩ := hal
  have key : ∀ i u, i < 6 → (nodeF a)[i]? = some u → w.cell? ⟨g, j * 6 + i, none⟩ = some u := fun i u hi hu => by
    obtain ⟨ad, e, hc⟩ := h4 (j * 6 + i) u (by rw [cellsF_get nodeF_q al j i a ha hi]; exact hu)
    injection e with e
    subst e
    rwa [add_plain] at hc
  exact ⟨g, a.A, a.c, a.B, a.d, rfl, hlt, key 0 _ (by omega) rfl, key 1 _ (by omega) rfl, key 2 _ (by omega) rfl, key 3 _ (by omega) rfl, key 4 _ (by omega) rfl, key 5 _ (by omega) rfl, (h6 a (List.mem_of_getElem? ha)).1, (h6 a (List.mem_of_getElem? ha)).2⟩
theorem RdN.shape {w : World} {P : Nat → Prop} {v : Value} {N : List NodeV} (h : RdN w P v N) : ∃ A c, v = .slice A N.length c ∧ N.length ≤ c := by
  obtain ⟨A, c, al, h1, h2, _⟩ := h
  exact ⟨A, c, h1, h2⟩
set_option maxHeartbeats 3200000 in
theorem SameN_calls (u v : Value) (N : List NodeV) (P Q : Nat → Prop) (w : World) (hu : RdN w P u N) (hv : RdN w Q v N) (hl : N.length ≤ 1000000) :
    Calls Try.prog 32 #[u, v] w fun e w' => e = .returned (.bool true) ∧ Below w.heap.size w w' := by
  obtain ⟨A, c, rfl, hc⟩ := hu.shape
  obtain ⟨B, d, rfl, hd⟩ := hv.shape
  have HU := Lib.hid hu
  have HV := Lib.hid hv
  obtain ⟨n, hn⟩ : ∃ n, N.length = n := ⟨_, rfl⟩
  have HN := Lib.hid hn
  rw [hn] at hl hc hd ⊢
  clear hu hv hn
  go_enter Try.func32, Try.ntmps32
  go_wp2_with fail
  go_loopg [5] n (fun kq v5 w' => kq ≤ n ∧ v5 = .int .i64 ((n - kq : Nat)) ∧ Below w.heap.size w w')
  case atStart => exact ⟨Nat.le_refl _, by simp, Below.refl _ _⟩
  case round =>
    obtain ⟨hk, rfl, HB0⟩ := hrel
    rename World => wr
    have HB := Lib.hid HB0
    have hz := HB0.size
    clear HB0
    cases gk with
    | zero =>
      simp only [Nat.sub_zero]
      go_wp2_with fail
      go_ret
      exact ⟨rfl, HB.out⟩
    | succ k1 =>
      obtain ⟨i, hi⟩ : ∃ i, n - (k1 + 1) = i := ⟨_, rfl⟩
      have hi2 : n - k1 = i + 1 := by omega
      have HI := Lib.hid hi2
      have hlt : i < n := by omega
      rw [hi]
      clear hi hi2
      have hx : ∃ x, N[i]? = some x := ⟨N[i]'(by rw [HN.out]; exact hlt), List.getElem?_eq_getElem _⟩
      obtain ⟨x, hx⟩ := hx
      obtain ⟨g, B1, c1, B2, c2, rfl, hg, p0, p1, p2, p3, p4, p5, hl1, hl2⟩ := (HN.out ▸ HU.out.below HB.out : RdN wr P (.slice A n c) N).at_ i hx
      obtain ⟨g', D1, d1, D2, d2, rfl, hg', q0, q1, q2, q3, q4, q5, hm1, hm2⟩ := (HN.out ▸ HV.out.below HB.out : RdN wr Q (.slice B n d) N).at_ i hx
      obtain ⟨xl, hxl⟩ : ∃ y, x.leaf = y := ⟨_, rfl⟩
      obtain ⟨xa, hxa⟩ : ∃ y, x.left = y := ⟨_, rfl⟩
      obtain ⟨xb, hxb⟩ : ∃ y, x.right = y := ⟨_, rfl⟩
      obtain ⟨xo, hxo⟩ : ∃ y, x.off = y := ⟨_, rfl⟩
      obtain ⟨xi, hxi⟩ : ∃ y, x.ids.length = y := ⟨_, rfl⟩
      obtain ⟨xn, hxn⟩ : ∃ y, x.ns.length = y := ⟨_, rfl⟩
      rw [hxl] at p0 q0
      rw [hxi] at p1 q1
      rw [hxn] at p2 q2
      rw [hxo] at p3 q3
      rw [hxa] at p4 q4
      rw [hxb] at p5 q5
      have XI := Lib.hid hxi
      have XN := Lib.hid hxn
      have L1 := Lib.hid hl1.2.1
      have L2 := Lib.hid hl2.2.1
      have M1 := Lib.hid hm1.2.1
      have M2 := Lib.hid hm2.2.1
      clear hl1 hl2 hm1 hm2 hxl hxa hxb hxo hxi hxn
      have hpc := Lib.hid (show ∀ W, Rd W .i32 B2 x.ns → Rd W .i32 D2 x.ns → Calls Try.prog 24 #[.agg #[.slice B2 xn c2, .int .i64 xo], .agg #[.slice D2 xn d2, .int .i64 xo]] W fun e w' => e = .returned (.bool true) ∧ Below W.heap.size W w' from fun W h1 h2 => by
        have h := refpSame_calls B2 D2 c2 d2 x.ns x.ns xo xo W h1 h2
        rw [XN.out] at h
        simpa using h)
      have hic := Lib.hid (show ∀ W, Rd W .i64 B1 x.ids → Rd W .i64 D1 x.ids → Calls Try.prog 17 #[.slice B1 xi c1, .slice D1 xi d1] W fun e w' => e = .returned (.bool true) ∧ Below W.heap.size W w' from fun W h1 h2 => by
        have h := SameI_calls B1 D1 c1 d1 x.ids x.ids W h1 h2
        rw [XI.out] at h
        refine h.mono fun e w' ⟨he, q, hq⟩ => ⟨by simpa using he, ?_⟩
        rw [hq]; exact below_drewN_self _ _)
      have hbr : Below wr.heap.size wr wr := Below.refl _ _
      go_wp2_with fail
      (dsimp only [List.append])
      go_region_held3 (fun w' => w'.cell? ⟨g, i * 6, none⟩ = some (.bool xl) ∧ w'.cell? ⟨g, i * 6 + 1, none⟩ = some (.slice B1 xi c1) ∧ w'.cell? ⟨g, i * 6 + 2, none⟩ = some (.slice B2 xn c2) ∧ w'.cell? ⟨g, i * 6 + 3, none⟩ = some (.int .i64 xo) ∧ w'.cell? ⟨g, i * 6 + 4, none⟩ = some (.int .i64 xa) ∧ w'.cell? ⟨g, i * 6 + 5, none⟩ = some (.int .i64 xb) ∧ w'.cell? ⟨g', i * 6, none⟩ = some (.bool xl) ∧ w'.cell? ⟨g', i * 6 + 1, none⟩ = some (.slice D1 xi d1) ∧ w'.cell? ⟨g', i * 6 + 2, none⟩ = some (.slice D2 xn d2) ∧ w'.cell? ⟨g', i * 6 + 3, none⟩ = some (.int .i64 xo) ∧ w'.cell? ⟨g', i * 6 + 4, none⟩ = some (.int .i64 xa) ∧ w'.cell? ⟨g', i * 6 + 5, none⟩ = some (.int .i64 xb) ∧ Below wr.heap.size wr w')
        (first | exact ⟨cell_below (B := wr.heap.size) (w := wr) (by first | ((repeat (first | assumption | exact Below.refl _ _ | apply below_drew1 | apply below_alloc1)); done)) p0 hg, cell_below (B := wr.heap.size) (w := wr) (by first | ((repeat (first | assumption | exact Below.refl _ _ | apply below_drew1 | apply below_alloc1)); done)) p1 hg, cell_below (B := wr.heap.size) (w := wr) (by first | ((repeat (first | assumption | exact Below.refl _ _ | apply below_drew1 | apply below_alloc1)); done)) p2 hg, cell_below (B := wr.heap.size) (w := wr) (by first | ((repeat (first | assumption | exact Below.refl _ _ | apply below_drew1 | apply below_alloc1)); done)) p3 hg, cell_below (B := wr.heap.size) (w := wr) (by first | ((repeat (first | assumption | exact Below.refl _ _ | apply below_drew1 | apply below_alloc1)); done)) p4 hg, cell_below (B := wr.heap.size) (w := wr) (by first | ((repeat (first | assumption | exact Below.refl _ _ | apply below_drew1 | apply below_alloc1)); done)) p5 hg, cell_below (B := wr.heap.size) (w := wr) (by first | ((repeat (first | assumption | exact Below.refl _ _ | apply below_drew1 | apply below_alloc1)); done)) q0 hg', cell_below (B := wr.heap.size) (w := wr) (by first | ((repeat (first | assumption | exact Below.refl _ _ | apply below_drew1 | apply below_alloc1)); done)) q1 hg', cell_below (B := wr.heap.size) (w := wr) (by first | ((repeat (first | assumption | exact Below.refl _ _ | apply below_drew1 | apply below_alloc1)); done)) q2 hg', cell_below (B := wr.heap.size) (w := wr) (by first | ((repeat (first | assumption | exact Below.refl _ _ | apply below_drew1 | apply below_alloc1)); done)) q3 hg', cell_below (B := wr.heap.size) (w := wr) (by first | ((repeat (first | assumption | exact Below.refl _ _ | apply below_drew1 | apply below_alloc1)); done)) q4 hg', cell_below (B := wr.heap.size) (w := wr) (by first | ((repeat (first | assumption | exact Below.refl _ _ | apply below_drew1 | apply below_alloc1)); done)) q5 hg', (by first | ((repeat (first | assumption | exact Below.refl _ _ | apply below_drew1 | apply below_alloc1)); done))⟩ | go_keep)
        (first
          | (go_at_call 24; go_split_ands; (with_reducible refine Calls.mono (hpc.out _ ?_ ?_) ?_); (exact L2.out.below (by first | ((repeat (first | assumption | exact Below.refl _ _ | apply below_drew1 | apply below_alloc1)); done))); (exact M2.out.below (by first | ((repeat (first | assumption | exact Below.refl _ _ | apply below_drew1 | apply below_alloc1)); done))); rintro e wq ⟨he, hbq⟩; subst he; have hB2 : Below wr.heap.size wr wq := Below.after (by first | ((repeat (first | assumption | exact Below.refl _ _ | apply below_drew1 | apply below_alloc1)); done)) hbq)
          | (go_at_call 17; go_split_ands; (with_reducible refine Calls.mono (hic.out _ ?_ ?_) ?_); (exact L1.out.below (by first | ((repeat (first | assumption | exact Below.refl _ _ | apply below_drew1 | apply below_alloc1)); done))); (exact M1.out.below (by first | ((repeat (first | assumption | exact Below.refl _ _ | apply below_drew1 | apply below_alloc1)); done))); rintro e wq ⟨he, hbq⟩; subst he; have hB2 : Below wr.heap.size wr wq := Below.after (by first | ((repeat (first | assumption | exact Below.refl _ _ | apply below_drew1 | apply below_alloc1)); done)) hbq))
      have hbz : Below wr.heap.size wr wq := by assumption
      have HB3 := Lib.hid (HB.out.trans (hbz.mono hz))
      clear hbz
      go_wp2_with fail
      go_roundg k1
      case measure => omega
      case rel =>
        rw [HI.out]
        exact ⟨by omega, rfl, HB3.out⟩
end Go.Proofs.Ytohmcpblagcfeaa
