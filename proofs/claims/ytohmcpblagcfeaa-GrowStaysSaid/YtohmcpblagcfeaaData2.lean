
/-
  Items with the place of their numbers told, the iterator of all items, and a row of lists that is the call's own. Condition of each: the blocks are as the words say.
-/
import Derived.Test.YtohmcpblagcfeaaLaw10
import Derived.Test.YtohmcpblagcfeaaRange
namespace Go.Proofs.Ytohmcpblagcfeaa
open Go.RowKit
set_option linter.unusedVariables false
set_option maxRecDepth 100000
set_option linter.unusedSimpArgs false
attribute [local go_sem] Oper.semAt_some

def ItV (w : World) (b dim : Nat) (rows : List (List Int)) (A : Option Addr) (c : Nat) : Prop :=
  1 ≤ dim ∧ dim ≤ 1024 ∧ (∀ r ∈ rows, r.length = dim) ∧ rows.length ≤ 1048576 ∧ w.heap[b]? = some (.cells #[.int .i64 dim, .slice A rows.flatten.length c] 120 (0, 0)) ∧ Own w (b + 1) 21 .i32 (.slice A rows.flatten.length c) rows.flatten ∧ rows.flatten.length ≤ c
theorem ItV.it {w : World} {b dim : Nat} {rows : List (List Int)} {A : Option Addr} {c : Nat} (h : ItV w b dim rows A c) : It w b dim rows := ⟨h.1, h.2.1, h.2.2.1, h.2.2.2.1, A, c, h.2.2.2.2⟩
theorem It.v {w : World} {b dim : Nat} {rows : List (List Int)} (h : It w b dim rows) : ∃ A c, ItV w b dim rows A c := by
  obtain ⟨h1, h2, h3, h4, A, c, h5⟩ := h
  exact ⟨A, c, h1, h2, h3, h4, h5⟩
def ItB (b : Nat) (A : Option Addr) (n c : Nat) (k : Nat) : Prop := k = b ∨ OwnB (.slice A n c) k
theorem ItV.only {w w' : World} {S : Nat → Prop} {b dim : Nat} {rows : List (List Int)} {A : Option Addr} {c : Nat} (h : ItV w b dim rows A c) (ho : Only S w w') (hs : ∀ k, ItB b A rows.flatten.length c k → ¬ S k) : ItV w' b dim rows A c :=
  ⟨h.1, h.2.1, h.2.2.1, h.2.2.2.1, ho.obj h.2.2.2.2.1 (hs b (.inl rfl)), h.2.2.2.2.2.1.only ho fun k hk => hs k (.inr hk), h.2.2.2.2.2.2⟩
theorem ItV.blk {w : World} {b dim : Nat} {rows : List (List Int)} {A : Option Addr} {c : Nat} (h : ItV w b dim rows A c) (k : Nat) (hk : ItB b A rows.flatten.length c k) : b ≤ k ∧ k < w.heap.size := by
  rcases hk with rfl | hk
  · exact ⟨Nat.le_refl _, obj_lt h.2.2.2.2.1⟩
  · have := h.2.2.2.2.2.1.lt k hk
    omega
def AddTo (w w' : World) (b dim : Nat) (rows : List (List Int)) (A : Option Addr) (c : Nat) (ys : List Int) : Prop :=
  ∃ A' c', ItV w' b dim (rows ++ [ys]) A' c' ∧ Only (ItB b A rows.flatten.length c) w w' ∧ ∀ k, ItB b A' (rows ++ [ys]).flatten.length c' k → ItB b A rows.flatten.length c k ∨ w.heap.size ≤ k
set_option maxHeartbeats 1600000 in
theorem AddV_calls (b dim : Nat) (rows : List (List Int)) (A : Option Addr) (c : Nat) (B : Option Addr) (d : Nat) (ys : List Int) (w : World) (h : ItV w b dim rows A c) (hb : Rd w .i32 B ys) (hf : checkV ys dim = 0) (hn : rows.length < 1048576) :
    Calls Try.prog 49 #[.pointer (some ⟨b, 0, none⟩), .slice B ys.length d] w fun e w' => e = .returned (.tuple #[.int .i64 rows.length, .int .i64 0]) ∧ AddTo w w' b dim rows A c ys := by
  have hlen := Lib.hid (Len_calls b dim rows w h.it)
  have hlt := h.it.lt
  obtain ⟨h1, h2, h3, h4, h5, h6, h7⟩ := h
  have hyl : ys.length = dim := by
    unfold checkV at hf
    split at hf
    · cases hf
    · split at hf
      · cases hf
      · omega
  have hfl := flat_length h3
  have hfb : rows.flatten.length ≤ 1073741824 := by rw [hfl]; exact Nat.le_trans (Nat.mul_le_mul h4 h2) (by omega)
  have hfin : ∀ w' A' c', w'.heap[b]? = some (.cells #[.int .i64 dim, .slice A' (rows.flatten.length + ys.length) c'] 120 (0, 0)) → Own w' (b + 1) 21 .i32 (.slice A' (rows.flatten.length + ys.length) c') (rows.flatten ++ ys) → rows.flatten.length + ys.length ≤ c' →
      Only (ItB b A rows.flatten.length c) w w' → (∀ k, (Value.slice A' (rows.flatten.length + ys.length) c').ownBlock = some k → (Value.slice A rows.flatten.length c).ownBlock = some k ∨ w.heap.size ≤ k) → AddTo w w' b dim rows A c ys := fun w' A' c' x y z ho hfr => by
    have e : (rows ++ [ys]).flatten = rows.flatten ++ ys := by simp
    have e2 : (rows ++ [ys]).flatten.length = rows.flatten.length + ys.length := by rw [e, List.length_append]
    refine ⟨A', c', ⟨h1, h2, ?_, by simp; omega, by rw [e2]; exact x, by rw [e2, e]; exact y, by rw [e2]; exact z⟩, ho, fun k hk => ?_⟩
    · intro r hr
      rcases List.mem_append.1 hr with hr | hr
      · exact h3 r hr
      · simp at hr; rw [hr]; exact hyl
    · rw [e2] at hk
      rcases hk with hk | hk
      · exact .inl (.inl hk)
      · exact (hfr k hk).imp .inr id
  have HFIN := Lib.hid hfin
  obtain ⟨L, hL⟩ : ∃ L, rows.flatten = L := ⟨_, rfl⟩
  obtain ⟨n, hnn⟩ : ∃ n, rows.length = n := ⟨_, rfl⟩
  rw [hL] at h5 h6 h7 hfb HFIN
  rw [hnn] at hlen hn ⊢
  have hc0 : w.cell? ⟨b, 0, none⟩ = some (.int .i64 dim) := by simp [World.cell?, h5]
  have hc1 : w.cell? ⟨b, 1, none⟩ = some (.slice A L.length c) := by simp [World.cell?, h5]
  have hn' : decide ((1048576 : Int) ≤ (n : Int)) = false := decide_eq_false (by omega)
  have KB := Lib.hid hb
  have HF := Lib.hid hf
  have H5 := Lib.hid h5
  have H6 := Lib.hid h6
  have hyb : ys.length ≤ 1024 := by omega
  clear h5 h6 hb hf hL hnn hfin hfl h3 hyl hn
  go_enter Try.func49, Try.ntmps49
  go_wp2_with fail
  refine (Check_calls B d ys dim _ KB.out).mono ?_
  rintro e _ ⟨he, rfl⟩
  rw [HF.out] at he
  subst he
  go_wp2_with fail
  refine hlen.out.mono ?_
  rintro e w1 ⟨he, m, rfl⟩
  subst he
  have hc1' : (w.drewN m).cell? ⟨b, 1, none⟩ = some (.slice A L.length c) := hc1
  go_wp2_with (at_builtin; refine wpList_appI _ rfl (.tmp 25) (.tmp 26) 24 21 rfl .i32 4 Try.underlying24 info_i32 (by omega) (b + 1) (.slice A L.length c) L rfl B d ys rfl (H6.out.keep (below_drewN_self w m)) w (below_drewN (Below.refl _ _) m) (by show b + 1 ≤ w.heap.size; omega) (KB.out.drewN _) (by omega) ?_; intro v1 w2 ho hgrow hbel hat hnil; obtain ⟨A1, c1, hv1, hcc, _⟩ := ho.shape; subst hv1; have hob := hgrow.obj (b := b) H5.out (fun hk => by have := own_base (H6.out) b hk; omega); rw [List.length_append] at ho hcc hat ⊢; have hcb : w2.cell? ⟨b, 1, none⟩ = some (.slice A L.length c) := (by simp [World.cell?, hob]); have hfb2 : w2.frozen? ⟨b, 1, none⟩ = false := (by simp [World.frozen?, hob]); have HOB := Lib.hid hob; have HO := Lib.hid ho; have HG := Lib.hid hgrow; have HAT := Lib.hid hat; clear ho hob hat hnil hgrow)
  go_ret2
  refine ⟨rfl, HFIN.out _ A1 c1 (set_blk (cs := [_, _]) HOB.out 1 _) (HO.out.only (only_set _ _ _ _) fun k hk e => by have := (HO.out.lt k hk).1; omega) hcc ?_ fun k hk => ?_⟩
  · exact ((Only.of_below (below_drewN_self w m)).trans (HG.out.mono fun k _ h => .inr h)).trans ((only_set _ _ _ _).mono fun k _ h => .inl h)
  · rcases HAT.out with h | h
    · exact .inl (h ▸ hk)
    · rw [hk] at h
      injection h with h
      exact .inr (by rw [h]; exact Nat.le_refl _)
/-! ### two lists of lists -/
theorem Same10_calls (A : Option Addr) (c : Nat) (B : Option Addr) (d : Nat) (ls : List (List Int)) (w : World) (ha : Rows w .i32 A ls) (hb : Rows w .i32 B ls) :
    Calls Try.prog 41 #[.slice A ls.length c, .slice B ls.length d] w fun e w' => e = .returned (.bool true) ∧ ∃ n, w' = w.drewN n := by
  have KA := Lib.hid ha
  have KB := Lib.hid hb
  have la := ha.1
  clear ha hb
  go_enter Try.func41, Try.ntmps41
  go_wp2_with fail
  go_loopg [5] ls.length (fun kq v5 w' => kq ≤ ls.length ∧ v5 = .int .i64 ((ls.length - kq : Nat) : Int) ∧ ∃ q, w' = w.drewN q)
  case atStart => exact ⟨Nat.le_refl _, by simp, 0, rfl⟩
  case round =>
    obtain ⟨hk, rfl, q, rfl⟩ := hrel
    cases gk with
    | zero =>
      simp only [Nat.sub_zero]
      go_wp2_with fail
      go_ret
      exact ⟨rfl, q, rfl⟩
    | succ k1 =>
      obtain ⟨i, hi⟩ : ∃ i, ls.length - (k1 + 1) = i := ⟨_, rfl⟩
      have hi2 : ls.length - k1 = i + 1 := by omega
      have hlt : i < ls.length := by omega
      rw [hi]
      have HI := Lib.hid hi2
      clear hi hi2
      obtain ⟨ad, A1, c1, rfl, hca, _, hra⟩ := KA.out.2 i hlt
      obtain ⟨bd, B1, d1, rfl, hcb, _, hrb⟩ := KB.out.2 i hlt
      obtain ⟨r, hr⟩ : ∃ r, ls.getD i [] = r := ⟨_, rfl⟩
      rw [hr] at hca hra hcb hrb
      have RA := Lib.hid hra
      have RB := Lib.hid hrb
      have bi : (i : Int) < (ls.length : Int) := by omega
      clear hr hra hrb
      obtain ⟨wz, hwz⟩ : ∃ W, w.drewN q = W := ⟨_, rfl⟩
      have hca' : wz.cell? (ad.add i) = some (.slice A1 r.length c1) := by rw [← hwz]; exact hca
      have hcb' : wz.cell? (bd.add i) = some (.slice B1 r.length d1) := by rw [← hwz]; exact hcb
      have RA' := Lib.hid (show Rd wz .i32 A1 r by rw [← hwz]; exact RA.out.drewN q)
      have RB' := Lib.hid (show Rd wz .i32 B1 r by rw [← hwz]; exact RB.out.drewN q)
      have HWZ := Lib.hid hwz
      rw [hwz]
      clear hwz hca hcb RA RB
      go_wp2_with fail
      go_quiet ((go_at_call 54; have hc := refSame_calls A1 B1 c1 d1 r r; rw [decide_eq_true (rfl : r = r)] at hc; exact Calls.quiet_of (hc _ (RA'.out.drewN _) (RB'.out.drewN _))))
      go_wp2_with fail
      go_roundg k1
      case measure => omega
      case rel => exact ⟨by omega, by rw [HI.out]; rfl, q + nq, by rw [← HWZ.out, World.drewN_drewN]⟩
end Go.Proofs.Ytohmcpblagcfeaa
