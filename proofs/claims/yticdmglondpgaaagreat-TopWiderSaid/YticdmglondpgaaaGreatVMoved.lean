/-
  moved: items, each by a function of its coordinates. Condition: the function answers a row of its own.
-/
import Derived.Test.YticdmglondpgaaaGreatQ12
import Derived.Test.YticdmglondpgaaaGreatVMoveL

namespace Go.Proofs.YticdmglondpgaaaGreat
open Go.RowKit
set_option linter.unusedVariables false
set_option maxRecDepth 100000
set_option linter.unusedSimpArgs false

attribute [local go_sem] Oper.semAt_some

/-- A row of rows of the call's own: each row reads as a list of ints and lies apart from the row of rows. -/
def OwnRowsM (w : World) (base : Nat) (v : Value) (ls : List (List Int)) : Prop :=
  ∃ cs, w.ownsRow base 29 1 v ls.length cs ∧ ∀ j, j < ls.length → ∃ B c, cs[j]? = some (.slice B (ls.getD j []).length c) ∧ (ls.getD j []).length ≤ c ∧ Rd w .i32 B (ls.getD j []) ∧ ∀ ad, 0 < (ls.getD j []).length → B = some ad → v.ownBlock ≠ some ad.block
theorem OwnRowsM.nil (w : World) (base : Nat) : OwnRowsM w base (.slice none 0 0) [] := ⟨[], World.ownsRow_nil _ _ _ _, fun j hj => by simp at hj⟩
theorem OwnRowsM.below {w w1 : World} {base : Nat} {v : Value} {ls : List (List Int)} (h : OwnRowsM w base v ls) (hb : Below w.heap.size w w1) : OwnRowsM w1 base v ls := by
  obtain ⟨cs, h1, h2⟩ := h
  refine ⟨cs, row_only h1 (Only.of_below (S := fun _ => False) hb) (fun _ _ h => h), fun j hj => ?_⟩
  obtain ⟨B, c, e1, e2, e3, e4⟩ := h2 j hj
  exact ⟨B, c, e1, e2, e3.below hb, e4⟩
theorem OwnRowsM.rows {w : World} {base : Nat} {A : Option Addr} {n c : Nat} {ls : List (List Int)} (h : OwnRowsM w base (.slice A n c) ls) (hn : ls.length ≤ 1000000) : n = ls.length ∧ Rows w .i32 A ls := by
  obtain ⟨cs, h1, h2⟩ := h
  obtain ⟨A', c', e, _⟩ := own_shape h1
  injection e with _ e2 _
  subst e2
  refine ⟨rfl, by omega, fun j hj => ?_⟩
  obtain ⟨B, c, e1, e2, e3, _⟩ := h2 j hj
  obtain ⟨g, e4, _, hcell, _⟩ := own_cell h1 j hj
  exact ⟨_, B, c, e4, by rw [add_plain, hcell]; exact e1, e2, e3⟩
theorem OwnRowsM.snoc {w w1 : World} {base n c d : Nat} {v v1 B0 : Value} {B : Option Addr} {ls : List (List Int)} {xs : List Int} {cs : List Value} (h : OwnRowsM w base v ls)
    (hcs : ∀ j, j < ls.length → ∃ B c, cs[j]? = some (.slice B (ls.getD j []).length c) ∧ (ls.getD j []).length ≤ c ∧ Rd w .i32 B (ls.getD j []) ∧ ∀ ad, 0 < (ls.getD j []).length → B = some ad → v.ownBlock ≠ some ad.block)
    (hl : cs.length = ls.length) (ho : w1.ownsRow base 29 1 v1 (ls.length + 1) (cs ++ [.slice B xs.length c])) (hg : Only (OwnB v) w w1) (hat : v1.ownBlock = v.ownBlock ∨ v1.ownBlock = some w.heap.size)
    (hx : Rd w .i32 B xs) (hc : xs.length ≤ c) (hap : ∀ ad, 0 < xs.length → B = some ad → v.ownBlock ≠ some ad.block) : OwnRowsM w1 base v1 (ls ++ [xs]) := by
  have key : ∀ (B : Option Addr) (ys : List Int), Rd w .i32 B ys → (∀ ad, 0 < ys.length → B = some ad → v.ownBlock ≠ some ad.block) → Rd w1 .i32 B ys ∧ ∀ ad, 0 < ys.length → B = some ad → v1.ownBlock ≠ some ad.block := fun B ys hr ha =>
    ⟨hr.onlyB hg fun ad h1 e h2 => ha ad h1 e h2, fun ad h1 e h2 => by
      rcases hat with hat | hat
      · rw [hat] at h2; exact ha ad h1 e h2
      · rw [hat] at h2; injection h2 with h2; have := Rd.blk_lt hr ad h1 e; omega⟩
  refine ⟨cs ++ [.slice B xs.length c], by rw [List.length_append]; exact ho, fun j hj => ?_⟩
  rw [List.length_append, List.length_singleton] at hj
  rcases Nat.lt_or_ge j ls.length with hj' | hj'
  · obtain ⟨B', c', e1, e2, e3, e4⟩ := hcs j hj'
    have e5 : (ls ++ [xs]).getD j [] = ls.getD j [] := by simp [List.getD, List.getElem?_append_left hj']
    rw [e5]
    obtain ⟨k1, k2⟩ := key B' _ e3 e4
    exact ⟨B', c', by rw [List.getElem?_append_left (by omega)]; exact e1, e2, k1, k2⟩
  · obtain rfl : j = ls.length := by omega
    have e5 : (ls ++ [xs]).getD ls.length [] = xs := by simp [List.getD]
    rw [e5]
    obtain ⟨k1, k2⟩ := key B _ hx hap
    exact ⟨B, c, by rw [List.getElem?_append_right (by omega), hl, Nat.sub_self]; rfl, hc, k1, k2⟩
theorem info_sl32M : (Tryz.prog.info? 29).map (fun i => (i.zero, i.size, i.bytes)) = some (some (.slice none 0 0), 1, 24) := by kernel_rfl
/-- What a mover answers. -/
def MvC (g : Nat) (caps : Array Value) (mv : List Int → List Int) (D : Nat) (w : World) : Prop :=
  ∀ W A c xs, Below w.heap.size w W → Rd W .i32 A xs → xs.length ≤ c → Vd D xs → Calls Tryz.prog g (#[.slice A xs.length c] ++ caps) W fun e W' => ∃ v, e = .returned v ∧ Own W' W.heap.size 21 .i32 v (mv xs) ∧ Below W.heap.size W W'
set_option maxHeartbeats 6400000 in
set_option maxRecDepth 100000 in
theorem moved_calls (g : Nat) (caps : Array Value) (mv : List Int → List Int) (D : Nat) (LA : Option Addr) (lc : Nat) (ls : List (List Int)) (w : World) (kg : ∀ args W, (callFunc g args).run Tryz.prog W = .ok (.enter g args) W) (hm : MvC g caps mv D w)
    (hls : Rows w .i32 LA ls) (hv : ∀ r ∈ ls, Vd D r) (hq : ls.length ≤ 1000) :
    Calls Tryz.prog 36 #[.slice LA ls.length lc, .func (.func g) #[] caps] w fun e w' => ∃ A c, e = .returned (.slice A (ls.map mv).length c) ∧ (ls.map mv).length ≤ c ∧ Rows w' .i32 A (ls.map mv) ∧ Below w.heap.size w w' := by
  have HM := Lib.hid hm
  have KL := Lib.hid hls
  have HV := Lib.hid hv
  obtain ⟨q, hqq⟩ : ∃ q, ls.length = q := ⟨_, rfl⟩
  have HQQ := Lib.hid hqq
  rw [hqq] at hq ⊢
  clear hm hls hv hqq
  go_enter Tryz.func36, Tryz.ntmps36
  go_wp2_with fail
  go_loopg [5, 6] q (fun kq v5 v6 w' => kq ≤ q ∧ v6 = .int .i64 ((q - kq : Nat)) ∧ OwnRowsM w' w.heap.size v5 ((ls.take (q - kq)).map mv) ∧ Below w.heap.size w w')
  case atStart => exact ⟨Nat.le_refl _, by simp, by rw [Nat.sub_self]; exact OwnRowsM.nil _ _, Below.refl _ _⟩
  case round =>
    obtain ⟨hk, rfl, HX0, HB0⟩ := hrel
    rename World => wo
    have HX := Lib.hid HX0
    have HB := Lib.hid HB0
    have hzo := HB0.size
    clear HX0 HB0
    cases gk with
    | zero =>
      simp only [Nat.sub_zero] at HX ⊢
      have hx := HX.out
      rw [show ls.take q = ls from by rw [← HQQ.out]; exact List.take_length] at hx
      obtain ⟨cs, hcs, _⟩ := id hx
      obtain ⟨A, c, rfl, hc⟩ := own_shape hcs
      obtain ⟨_, hrows⟩ := hx.rows (by have := HQQ.out; rw [List.length_map]; omega)
      have HR := Lib.hid hrows
      have HC := Lib.hid hc
      clear hx hcs hrows hc
      go_wp2_with fail
      go_ret
      exact ⟨A, c, by simp, by simpa using HC.out, HR.out, HB.out⟩
    | succ k1 =>
      obtain ⟨i, hi⟩ : ∃ i, q - (k1 + 1) = i := ⟨_, rfl⟩
      have hi2 : q - k1 = i + 1 := by omega
      have HI := Lib.hid hi2
      have hlt : i < q := by omega
      rw [hi] at HX ⊢
      clear hi hi2
      obtain ⟨LAd, RB, rc, rfl, hrow, hrc, hrr⟩ := (KL.out.below HB.out).2 i (by rw [HQQ.out]; exact hlt)
      have hvd := HV.out (ls.getD i []) (by simp [List.getD, HQQ.out, hlt])
      have hts := take_snoc ls i (by rw [HQQ.out]; exact hlt)
      obtain ⟨P, hP⟩ : ∃ P, (ls.take i).map mv = P := ⟨_, rfl⟩
      have hPl : P.length = i := by rw [← hP, List.length_map, List.length_take, HQQ.out]; omega
      rw [hP] at HX
      obtain ⟨r, hr⟩ : ∃ r, ls.getD i [] = r := ⟨_, rfl⟩
      rw [hr] at hrow hrc hrr hvd hts
      have HTS := Lib.hid (show (ls.take (i + 1)).map mv = P ++ [mv r] by rw [hts, List.map_append, hP]; rfl)
      have HF := Lib.hid (HM.out wo RB rc r HB.out hrr hrc hvd)
      have HPL := Lib.hid hPl
      have hkg := kg
      clear hrr hPl hP hr hts hvd
      go_wp2_with fail
      refine HF.out.mono ?_
      rintro e wi ⟨v, he, hown, hbi⟩
      subst he
      obtain ⟨D2, hD2⟩ : ∃ x, (mv r).length = x := ⟨_, rfl⟩
      obtain ⟨RB2, c2, rfl, hc2, hrd2⟩ := hown.shape
      have hap2 : ∀ ad, 0 < D2 → RB2 = some ad → wo.heap.size ≤ ad.block := fun ad h1 e => by
        obtain ⟨g, e2, hg, _⟩ := Own.at_ hown 0 (by rw [hD2]; exact h1)
        rw [e] at e2; injection e2 with e2; subst e2; exact hg
      have HAP := Lib.hid hap2
      have HRD2 := Lib.hid hrd2
      have HSL := Lib.hid hD2
      have HBI := Lib.hid hbi
      have hzi := hbi.size
      rw [hD2] at hc2 ⊢
      obtain ⟨cs0, hcs0, _⟩ := HX.out
      have hrl0 := Lib.hid (fun b hb => row_lt hcs0 b hb)
      clear hcs0 hap2 hrd2 hown hD2 hbi HF
      obtain ⟨cs, hcs1, hcs2⟩ := (HX.out.below HBI.out).below (below_alloc1 (Below.refl wi.heap.size wi) (.cells #[.slice RB2 D2 c2] 29))
      have hcl := hcs1.1
      rw [HPL.out] at hcs1 hcl
      have HC1 := Lib.hid hcs1
      have HC2 := Lib.hid hcs2
      clear hcs1 hcs2
      go_wp2_with (first
        | (at_builtin; refine wpList_app _ rfl (.tmp 13) (.tmp 20) 22 29 rfl (.slice none 0 0) 1 24 Tryz.underlying22 info_sl32M rfl (by omega) (by omega) w.heap.size u5 i cs rfl (some ⟨wi.heap.size, 0, none⟩) 1 1 rfl HC1.out w ((HB.out.trans (HBI.out.mono hzo)).alloc (by omega) _) (by rw [World.size_alloc]; omega) [.slice RB2 D2 c2] rfl (RdC.one _ _ _) (fun u hu => by rw [List.mem_singleton] at hu; subst hu; rfl) (by omega) ?_; intro v1 w5 hown1 hgrow1 hbel1 hat1 hnil1; have hz5 := hbel1.size))
      have HN := Lib.hid (show OwnRowsM w5 w.heap.size v1 (P ++ [mv r]) from OwnRowsM.snoc (B := RB2) (c := c2) (d := c2) (n := D2) (B0 := v1) ((HX.out.below HBI.out).below (below_alloc1 (Below.refl wi.heap.size wi) _)) HC2.out (by rw [HPL.out]; omega) (by rw [HSL.out, HPL.out]; exact hown1) hgrow1 hat1 (HRD2.out.alloc _) (by rw [HSL.out]; exact hc2) (fun ad h1 e h2 => by
        have h3 := hrl0.out _ h2
        have h4 := HAP.out ad (by rw [← HSL.out]; exact h1) e
        omega))
      have HBN := Lib.hid hbel1
      clear hown1 hgrow1 hbel1 hat1 hnil1
      go_wp2
      go_roundg k1
      case measure => omega
      case rel =>
        rw [HI.out, HTS.out]
        exact ⟨by omega, rfl, HN.out, HBN.out⟩
end Go.Proofs.YticdmglondpgaaaGreat
