
/-
  Sources of numbers (package rng) and the reference's: what a source holds in memory, and the contract of each draw. Condition of each: the source's blocks are as its word says.
-/
import Derived.Test.YtohmcpblagcfeaaLib
namespace Go.Proofs.Ytohmcpblagcfeaa
open Go.RowKit
set_option linter.unusedVariables false
set_option maxRecDepth 100000
set_option linter.unusedSimpArgs false

/-! ### the mixer's numbers -/
def mA (z : Int) : Int := IntKind.u64.wrap (bits .xor .u64 z (z / 1073741824) * 13787848793156543929)
def mB (a : Int) : Int := IntKind.u64.wrap (bits .xor .u64 a (a / 134217728) * 10723151780598845931)
def mC (b : Int) : Int := bits .xor .u64 b (b / 2147483648)
def mixOut (z : Int) : Int := mC (mB (mA z))
def mixAt (st : Int) (k : Nat) : Int := mixOut (IntKind.u64.wrap (st + k * 11400714819323198485))
theorem wrap_u64' (n : Int) : IntKind.u64.wrap n = n % 18446744073709551616 := by simp [IntKind.wrap, IntKind.bits, IntKind.signed]
theorem u64_bd (n : Int) : 0 ≤ IntKind.u64.wrap n ∧ IntKind.u64.wrap n ≤ 18446744073709551615 := by rw [wrap_u64']; omega
theorem u64_id (n : Int) (h : 0 ≤ n ∧ n ≤ 18446744073709551615) : IntKind.u64.wrap n = n := by rw [wrap_u64']; omega
theorem mixAt_next (st : Int) (k : Nat) : mixAt (IntKind.u64.wrap (st + 11400714819323198485)) k = mixAt st (k + 1) := by
  unfold mixAt
  congr 1
  rw [wrap_u64', wrap_u64', wrap_u64']
  generalize hj : (k : Int) = j
  have e : ((k + 1 : Nat) : Int) = j + 1 := by omega
  rw [e]
  omega
theorem quo_u64 (z m : Int) (h : 0 ≤ z ∧ z ≤ 18446744073709551615) (hm : 1 ≤ m) : IntKind.u64.wrap (z.tdiv m) = z / m := by
  rw [Int.tdiv_eq_ediv_of_nonneg h.1]
  have h1 := Int.ediv_nonneg h.1 (show 0 ≤ m by omega)
  have h2 := Int.ediv_le_self m h.1
  exact u64_id _ (by omega)
theorem bits_u64 (a b : Int) : 0 ≤ bits .xor .u64 a b ∧ bits .xor .u64 a b ≤ 18446744073709551615 := by
  have h : ∃ n, bits .xor .u64 a b = IntKind.u64.wrap n := ⟨_, rfl⟩
  obtain ⟨n, hn⟩ := h
  rw [hn]
  exact u64_bd n
theorem mixAt_bd (st : Int) (k : Nat) : 0 ≤ mixAt st k ∧ mixAt st k ≤ 18446744073709551615 := bits_u64 _ _

theorem mixer_draw (b : Nat) (st : Int) (w : World) (hb : w.heap[b]? = some (.cells #[.int .u64 st] 109 (0, 0))) :
    Calls Try.prog 94 #[.pointer (some ⟨b, 0, none⟩)] w fun e w' => e = .returned (.int .u64 (mixAt st 1)) ∧ w'.heap[b]? = some (.cells #[.int .u64 (IntKind.u64.wrap (st + 11400714819323198485))] 109 (0, 0)) ∧ Only (· = b) w w' := by
  have hc : w.cell? ⟨b, 0, none⟩ = some (.int .u64 st) := by simp [World.cell?, hb]
  have hf : w.frozen? ⟨b, 0, none⟩ = false := by simp [World.frozen?, hb]
  have HB := Lib.hid hb
  clear hb
  obtain ⟨z, hz⟩ : ∃ z, IntKind.u64.wrap (st + 11400714819323198485) = z := ⟨_, rfl⟩
  have e1 : mixAt st 1 = mixOut z := by unfold mixAt; rw [← hz]; congr 2
  rw [e1]
  have HZ := Lib.hid hz
  obtain ⟨a, ha⟩ : ∃ a, IntKind.u64.wrap (bits .xor .u64 z (z / 1073741824) * 13787848793156543929) = a := ⟨_, rfl⟩
  obtain ⟨c, hc2⟩ : ∃ a', IntKind.u64.wrap (bits .xor .u64 a (a / 134217728) * 10723151780598845931) = a' := ⟨_, rfl⟩
  have e2 : mixOut z = bits .xor .u64 c (c / 2147483648) := by rw [← hc2, ← ha]; rfl
  rw [e2]
  clear e1 e2
  go_enter Try.func94, Try.ntmps94
  go_wp2
  go_ret
  refine ⟨rfl, ?_, only_set _ _ _ _⟩
  rw [HZ.out]
  exact set_blk (cs := [.int .u64 st]) HB.out 0 _

/-! ### scripts -/
def U64 (l : List Int) : Prop := ∀ x ∈ l, 0 ≤ x ∧ x ≤ 18446744073709551615
theorem U64.at {l : List Int} (h : U64 l) (j : Nat) : 0 ≤ l.getD j 0 ∧ l.getD j 0 ≤ 18446744073709551615 := by
  rcases Nat.lt_or_ge j l.length with hj | hj
  · exact h (l.getD j 0) (by simp [List.getD, hj])
  · simp [List.getD, hj]
/-- The script at block b holds the numbers l still; its blocks lie from lo on, below hi. -/
def IsScr (w : World) (lo hi b : Nat) (l : List Int) : Prop :=
  lo ≤ b ∧ b < hi ∧ ∃ A c, w.heap[b]? = some (.cells #[.slice A l.length c] 105 (0, 0)) ∧ l.length ≤ c ∧ c ≤ 9223372036854775807 ∧
    (l = [] ∨ ∃ g o, A = some ⟨g, o, none⟩ ∧ lo ≤ g ∧ g < hi ∧ g ≠ b ∧ ∀ j, j < l.length → w.cell? ⟨g, o + j, none⟩ = some (.int .u64 (l.getD j 0)))

theorem script_draw_nil (lo hi b : Nat) (w : World) (h : IsScr w lo hi b []) :
    Calls Try.prog 93 #[.pointer (some ⟨b, 0, none⟩)] w fun e w' => e = .returned (.int .u64 0) ∧ w = w' := by
  obtain ⟨h1, h2, A, c, hb, _, _, _⟩ := h
  have hc : w.cell? ⟨b, 0, none⟩ = some (.slice A 0 c) := by simp [World.cell?, hb]
  clear hb h1 h2
  go_enter Try.func93, Try.ntmps93
  go_wp2
  go_ret
  exact ⟨rfl, rfl⟩
theorem script_draw_cons (lo hi b : Nat) (x : Int) (l : List Int) (w : World) (h : IsScr w lo hi b (x :: l)) :
    Calls Try.prog 93 #[.pointer (some ⟨b, 0, none⟩)] w fun e w' => e = .returned (.int .u64 x) ∧ IsScr w' lo hi b l ∧ Only (· = b) w w' := by
  obtain ⟨h1, h2, A, c, hb, hlc, hcm, hl⟩ := h
  obtain ⟨g, o, rfl, hg1, hg2, hg3, hcell⟩ : ∃ g o, A = some ⟨g, o, none⟩ ∧ lo ≤ g ∧ g < hi ∧ g ≠ b ∧ ∀ j, j < (x :: l).length → w.cell? ⟨g, o + j, none⟩ = some (.int .u64 ((x :: l).getD j 0)) := by
    rcases hl with h | h
    · cases h
    · exact h
  obtain ⟨n, hn⟩ : ∃ n, l.length = n := ⟨_, rfl⟩
  have hc : w.cell? ⟨b, 0, none⟩ = some (.slice (some ⟨g, o, none⟩) (n + 1) c) := by rw [← hn]; simp [World.cell?, hb]
  have hf : w.frozen? ⟨b, 0, none⟩ = false := by simp [World.frozen?, hb]
  have hx : w.cell? ⟨g, o, none⟩ = some (.int .u64 x) := by have := hcell 0 (by simp); simpa using this
  have HB := Lib.hid hb
  have HC := Lib.hid hcell
  have HN := Lib.hid hn
  simp only [List.length_cons] at hlc
  have hlc' : n + 1 ≤ c := by omega
  have hp : ((n + 1 : Nat) : Int) = (n : Int) + 1 := by omega
  clear hb hcell hn hl hlc
  by_cases h5 : c = 1
  · subst h5
    obtain rfl : n = 0 := by omega
    go_enter Try.func93, Try.ntmps93
    go_wp2
    go_ret
    obtain rfl : l = [] := List.eq_nil_of_length_eq_zero HN.out
    exact ⟨rfl, ⟨h1, h2, _, _, set_blk (cs := [_]) HB.out 0 (.slice (some ⟨g, o, none⟩) 0 0), Nat.le_refl _, by omega, .inl rfl⟩, only_set _ _ _ _⟩
  · go_enter Try.func93, Try.ntmps93
    go_wp2
    go_ret
    have hN := HN.out
    refine ⟨rfl, ⟨h1, h2, some ⟨g, o + 1, none⟩, c - 1, ?_, by omega, by omega, .inr ⟨g, o + 1, rfl, hg1, hg2, hg3, fun j hj => ?_⟩⟩, only_set _ _ _ _⟩
    · rw [hN]
      exact set_blk (cs := [_]) HB.out 0 (.slice (some ⟨g, o + 1, none⟩) n (c - 1))
    · have := HC.out (j + 1) (by simp; omega)
      rw [(only_set w b 0 (.slice (some ⟨g, o + 1, none⟩) n (c - 1))).cell (a := ⟨g, o + 1 + j, none⟩) (v := .int .u64 (l.getD j 0)) ?_ hg3]
      rw [show o + 1 + j = o + (j + 1) by omega, this]
      simp [List.getD]

/-! ### a source: a script or a mixer -/
/-- v is a source whose blocks lie from lo on, below hi; what it will tell is s 0, s 1, .. -/
def Src (w : World) (lo hi : Nat) (v : Value) (s : Nat → Int) : Prop :=
  (∃ b l, v = .iface 103 (.pointer (some ⟨b, 0, none⟩)) ∧ IsScr w lo hi b l ∧ U64 l ∧ s = fun i => l.getD i 0) ∨
  (∃ b st, v = .iface 107 (.pointer (some ⟨b, 0, none⟩)) ∧ lo ≤ b ∧ b < hi ∧ w.heap[b]? = some (.cells #[.int .u64 st] 109 (0, 0)) ∧ s = fun i => mixAt st (i + 1))
def Within (lo hi k : Nat) : Prop := lo ≤ k ∧ k < hi
theorem Src.bd {w : World} {lo hi : Nat} {v : Value} {s : Nat → Int} (h : Src w lo hi v s) (i : Nat) : 0 ≤ s i ∧ s i ≤ 18446744073709551615 := by
  rcases h with ⟨b, l, _, _, hu, rfl⟩ | ⟨b, st, _, _, _, _, rfl⟩
  · exact hu.at i
  · exact mixAt_bd _ _
theorem IsScr.only {w w' : World} {S : Nat → Prop} {lo hi b : Nat} {l : List Int} (h : IsScr w lo hi b l) (ho : Only S w w') (hs : ∀ k, lo ≤ k → k < hi → ¬ S k) : IsScr w' lo hi b l := by
  obtain ⟨h1, h2, A, c, hb, h3, h4, h5⟩ := h
  refine ⟨h1, h2, A, c, ho.obj hb (hs b h1 h2), h3, h4, ?_⟩
  rcases h5 with h5 | ⟨g, o, rfl, h6, h7, h8, h9⟩
  · exact .inl h5
  · exact .inr ⟨g, o, rfl, h6, h7, h8, fun j hj => ho.cell (h9 j hj) (hs g h6 h7)⟩
theorem Src.only {w w' : World} {S : Nat → Prop} {lo hi : Nat} {v : Value} {s : Nat → Int} (h : Src w lo hi v s) (ho : Only S w w') (hs : ∀ k, lo ≤ k → k < hi → ¬ S k) : Src w' lo hi v s := by
  rcases h with ⟨b, l, h1, h2, h3, h4⟩ | ⟨b, st, h1, h2, h3, h4, h5⟩
  · exact .inl ⟨b, l, h1, h2.only ho hs, h3, h4⟩
  · exact .inr ⟨b, st, h1, h2, h3, ho.obj h4 (hs b h2 h3), h5⟩
theorem IsScr.wide {w : World} {lo hi lo' hi' b : Nat} {l : List Int} (h : IsScr w lo hi b l) (h1 : lo' ≤ lo) (h2 : hi ≤ hi') : IsScr w lo' hi' b l := by
  obtain ⟨h3, h4, A, c, hb, h5, h6, h7⟩ := h
  refine ⟨by omega, by omega, A, c, hb, h5, h6, ?_⟩
  rcases h7 with h7 | ⟨g, o, rfl, h8, h9, h10⟩
  · exact .inl h7
  · exact .inr ⟨g, o, rfl, by omega, by omega, h10⟩
theorem Src.wide {w : World} {lo hi lo' hi' : Nat} {v : Value} {s : Nat → Int} (h : Src w lo hi v s) (h1 : lo' ≤ lo) (h2 : hi ≤ hi') : Src w lo' hi' v s := by
  rcases h with ⟨b, l, h3, h4, h5⟩ | ⟨b, st, h3, h4, h5, h6⟩
  · exact .inl ⟨b, l, h3, h4.wide h1 h2, h5⟩
  · exact .inr ⟨b, st, h3, by omega, by omega, h6⟩

/-! ### a draw, through the interface -/
theorem meth_script (a : Addr) (w : World) : (method 251 103 (.pointer (some a)) "Draw").run Try.prog w = .ok (93, .pointer (some a)) w := by kernel_rfl
theorem meth_mixer (a : Addr) (w : World) : (method 251 107 (.pointer (some a)) "Draw").run Try.prog w = .ok (94, .pointer (some a)) w := by kernel_rfl
theorem meth_counter (a : Addr) (w : World) : (method 251 55 (.pointer (some a)) "Draw").run Try.prog w = .ok (92, .pointer (some a)) w := by kernel_rfl
theorem call_script (v : Value) (w : World) : (callFunc 93 #[v]).run Try.prog w = .ok (.enter 93 #[v]) w := by kernel_rfl
theorem call_mixer (v : Value) (w : World) : (callFunc 94 #[v]).run Try.prog w = .ok (.enter 94 #[v]) w := by kernel_rfl
theorem call_counter (v : Value) (w : World) : (callFunc 92 #[v]).run Try.prog w = .ok (.enter 92 #[v]) w := by kernel_rfl
/-- The function that Draw is at a dynamic type. -/
def fdraw (T : TypeId) : FuncId := if T = 103 then 93 else if T = 107 then 94 else 92
structure DrwT (T : TypeId) : Prop where
  meth : ∀ (a : Addr) (W : World), (method 251 T (.pointer (some a)) "Draw").run Try.prog W = .ok (fdraw T, .pointer (some a)) W
  call : ∀ (v : Value) (W : World), (callFunc (fdraw T) #[v]).run Try.prog W = .ok (.enter (fdraw T) #[v]) W
theorem drwT_script : DrwT 103 := ⟨meth_script, call_script⟩
theorem drwT_mixer : DrwT 107 := ⟨meth_mixer, call_mixer⟩
theorem drwT_counter : DrwT 55 := ⟨meth_counter, call_counter⟩
theorem Src.shape {w : World} {lo hi : Nat} {v : Value} {s : Nat → Int} (h : Src w lo hi v s) : ∃ T a, v = .iface T (.pointer (some a)) ∧ DrwT T := by
  rcases h with ⟨b, l, rfl, _⟩ | ⟨b, st, rfl, _⟩
  · exact ⟨_, _, rfl, drwT_script⟩
  · exact ⟨_, _, rfl, drwT_mixer⟩
theorem Src.draw {w : World} {lo hi : Nat} {T : TypeId} {a : Addr} {s : Nat → Int} (h : Src w lo hi (.iface T (.pointer (some a))) s) :
    Calls Try.prog (fdraw T) #[.pointer (some a)] w fun e w' => e = .returned (.int .u64 (s 0)) ∧ Src w' lo hi (.iface T (.pointer (some a))) (fun i => s (i + 1)) ∧ Only (Within lo hi) w w' := by
  rcases h with ⟨b, l, h1, h2, h3, rfl⟩ | ⟨b, st, h1, h2, h3, h4, rfl⟩
  · injection h1 with h1 h5
    injection h5 with h5
    injection h5 with h5
    subst h1 h5
    cases l with
    | nil =>
      refine (script_draw_nil lo hi b w h2).mono ?_
      rintro e w' ⟨rfl, rfl⟩
      exact ⟨by simp, .inl ⟨b, [], rfl, h2, h3, by simp⟩, Only.refl _ _⟩
    | cons x l =>
      refine (script_draw_cons lo hi b x l w h2).mono ?_
      rintro e w' ⟨rfl, h5, h6⟩
      exact ⟨by simp, .inl ⟨b, l, rfl, h5, fun y hy => h3 y (List.mem_cons_of_mem _ hy), by funext i; simp [List.getD]⟩, h6.mono fun k _ hk => by rw [hk]; exact ⟨h2.1, h2.2.1⟩⟩
  · injection h1 with h1 h5
    injection h5 with h5
    injection h5 with h5
    subst h1 h5
    refine (mixer_draw b st w h4).mono ?_
    rintro e w' ⟨rfl, h5, h6⟩
    exact ⟨rfl, .inr ⟨b, _, rfl, h2, h3, h5, by funext i; exact (mixAt_next st (i + 1)).symm⟩, h6.mono fun k _ hk => by rw [hk]; exact ⟨h2, h3⟩⟩

/-! ### a counter -/
/-- The counter at block b has told n draws of a source. -/
def Ctr (w : World) (lo hi b : Nat) (s : Nat → Int) (n : Int) : Prop :=
  ∃ v m, lo ≤ m ∧ m ≤ b ∧ b < hi ∧ w.heap[b]? = some (.cells #[v, .int .i64 n] 111 (0, 0)) ∧ Src w lo m v s
theorem Ctr.bd {w : World} {lo hi b : Nat} {n : Int} {s : Nat → Int} (h : Ctr w lo hi b s n) (i : Nat) : 0 ≤ s i ∧ s i ≤ 18446744073709551615 := by
  obtain ⟨v, m, _, _, _, _, h⟩ := h
  exact h.bd i
theorem Ctr.only {w w' : World} {S : Nat → Prop} {lo hi b : Nat} {n : Int} {s : Nat → Int} (h : Ctr w lo hi b s n) (ho : Only S w w') (hs : ∀ k, lo ≤ k → k < hi → ¬ S k) : Ctr w' lo hi b s n := by
  obtain ⟨v, m, h1, h2, h3, h4, h5⟩ := h
  exact ⟨v, m, h1, h2, h3, ho.obj h4 (hs b (by omega) h3), h5.only ho fun k a c => hs k a (by omega)⟩
theorem counter_draw {w : World} {lo hi b : Nat} {n : Int} {s : Nat → Int} (h : Ctr w lo hi b s n) (hn : 0 ≤ n ∧ n ≤ 4611686018427387904) :
    Calls Try.prog 92 #[.pointer (some ⟨b, 0, none⟩)] w fun e w' => e = .returned (.int .u64 (s 0)) ∧ Ctr w' lo hi b (fun i => s (i + 1)) (n + 1) ∧ Only (Within lo hi) w w' := by
  obtain ⟨v, m, h1, h2, h3, h4, h5⟩ := h
  have hs : Src (w.setCell ⟨b, 1, none⟩ (.int .i64 (n + 1))) lo m v s := h5.only (only_set _ _ _ _) (fun k _ hk e => by omega)
  obtain ⟨T, a, rfl, hT⟩ := hs.shape
  have hd := hs.draw
  have hm := hT.meth a
  have hc := hT.call (.pointer (some a))
  have hc0 : w.cell? ⟨b, 0, none⟩ = some (.iface T (.pointer (some a))) := by simp [World.cell?, h4]
  have hc1 : w.cell? ⟨b, 1, none⟩ = some (.int .i64 n) := by simp [World.cell?, h4]
  have hf : w.frozen? ⟨b, 1, none⟩ = false := by simp [World.frozen?, h4]
  have HB := Lib.hid h4
  have HD := Lib.hid hd
  clear h4 hd h5 hs
  go_enter Try.func92, Try.ntmps92
  go_wp2_with fail
  refine HD.out.mono ?_
  rintro e w' ⟨rfl, hs1, ho⟩
  have hb' := set_blk (cs := [_, _]) HB.out 1 (.int .i64 (n + 1))
  have hb2 := ho.obj hb' (fun hk => by have := hk.2; omega)
  have HB2 := Lib.hid hb2
  clear hb' hb2
  go_wp2_with fail
  go_ret
  refine ⟨rfl, ⟨_, m, h1, h2, h3, HB2.out, hs1⟩, ?_⟩
  exact ((only_set w b 1 _).mono fun k _ hk => by rw [hk]; exact ⟨by omega, h3⟩).trans (ho.mono fun k _ hk => ⟨hk.1, by have := hk.2; omega⟩)

/-! ### whatever may be drawn of: a script, a mixer, or a counter of one -/
def Drw (w : World) (lo hi : Nat) (v : Value) (s : Nat → Int) (n : Int) : Prop :=
  Src w lo hi v s ∨ ∃ b, v = .iface 55 (.pointer (some ⟨b, 0, none⟩)) ∧ Ctr w lo hi b s n
theorem Drw.bd {w : World} {lo hi : Nat} {v : Value} {n : Int} {s : Nat → Int} (h : Drw w lo hi v s n) (i : Nat) : 0 ≤ s i ∧ s i ≤ 18446744073709551615 := by
  rcases h with h | ⟨b, _, h⟩
  · exact h.bd i
  · exact h.bd i
theorem Drw.only {w w' : World} {S : Nat → Prop} {lo hi : Nat} {v : Value} {n : Int} {s : Nat → Int} (h : Drw w lo hi v s n) (ho : Only S w w') (hs : ∀ k, lo ≤ k → k < hi → ¬ S k) : Drw w' lo hi v s n := by
  rcases h with h | ⟨b, hv, h⟩
  · exact .inl (h.only ho hs)
  · exact .inr ⟨b, hv, h.only ho hs⟩
theorem Drw.shape {w : World} {lo hi : Nat} {v : Value} {n : Int} {s : Nat → Int} (h : Drw w lo hi v s n) : ∃ T a, v = .iface T (.pointer (some a)) ∧ DrwT T := by
  rcases h with h | ⟨b, rfl, h⟩
  · exact h.shape
  · exact ⟨_, _, rfl, drwT_counter⟩
theorem Drw.draw {w : World} {lo hi : Nat} {T : TypeId} {a : Addr} {n : Int} {s : Nat → Int} (h : Drw w lo hi (.iface T (.pointer (some a))) s n) (hn : 0 ≤ n ∧ n ≤ 4611686018427387904) :
    Calls Try.prog (fdraw T) #[.pointer (some a)] w fun e w' => e = .returned (.int .u64 (s 0)) ∧ Drw w' lo hi (.iface T (.pointer (some a))) (fun i => s (i + 1)) (n + 1) ∧ Only (Within lo hi) w w' := by
  rcases h with h | ⟨b, h1, h⟩
  · exact h.draw.mono fun e w' ⟨h6, h7, h8⟩ => ⟨h6, .inl h7, h8⟩
  · injection h1 with h1 h5
    injection h5 with h5
    injection h5 with h5
    subst h1 h5
    exact (counter_draw h hn).mono fun e w' ⟨h6, h7, h8⟩ => ⟨h6, .inr ⟨b, rfl, h7⟩, h8⟩

/-! ### Below, Pair -/
def belowN (x n : Int) : Int := x % n
theorem rem_u64 (x n : Int) (hx : 0 ≤ x ∧ x ≤ 18446744073709551615) (hn : 1 ≤ n ∧ n ≤ 9223372036854775807) : IntKind.i64.wrap (IntKind.u64.wrap (x.tmod n)) = belowN x n ∧ 0 ≤ belowN x n ∧ belowN x n < n := by
  unfold belowN
  have h1 := Int.emod_nonneg x (show n ≠ 0 by omega)
  have h2 := Int.emod_lt_of_pos x (show 0 < n by omega)
  rw [Int.tmod_eq_emod_of_nonneg hx.1, u64_id _ (by omega), i64_w, wrap64_id _ (by omega)]
  exact ⟨rfl, h1, h2⟩
theorem Below_none (v : Value) (n : Int) (w : World) (h : n < 1) :
    Calls Try.prog 66 #[v, .int .i64 n] w fun e w' => e = .returned (.int .i64 0) ∧ w = w' := by
  go_enter Try.func66, Try.ntmps66
  go_wp2_with fail
  go_ret
  exact ⟨rfl, rfl⟩
theorem Below_draw (lo hi : Nat) (v : Value) (s : Nat → Int) (k n : Int) (w : World) (h : Drw w lo hi v s k) (hk : 0 ≤ k ∧ k ≤ 4611686018427387904) (hn : 1 ≤ n ∧ n ≤ 9223372036854775807) :
    Calls Try.prog 66 #[v, .int .i64 n] w fun e w' => e = .returned (.int .i64 (belowN (s 0) n)) ∧ Drw w' lo hi v (fun i => s (i + 1)) (k + 1) ∧ Only (Within lo hi) w w' := by
  obtain ⟨T, a, rfl, hT⟩ := h.shape
  have hd := h.draw hk
  have hm := hT.meth a
  have hc := hT.call (.pointer (some a))
  obtain ⟨hr, _, _⟩ := rem_u64 (s 0) n (h.bd 0) hn
  have hx := h.bd 0
  obtain ⟨x, hxe⟩ : ∃ x, s 0 = x := ⟨_, rfl⟩
  rw [hxe] at hr hx hd ⊢
  have HD := Lib.hid hd
  have HR := Lib.hid hr
  have hu : IntKind.u64.wrap n = n := u64_id _ (by omega)
  obtain ⟨hn1, hn2⟩ := hn
  clear hd hr hxe h
  go_enter Try.func66, Try.ntmps66
  go_wp2_with fail
  refine HD.out.mono ?_
  rintro e w' ⟨rfl, hs1, ho⟩
  have H1 := Lib.hid hs1
  clear hs1
  go_wp2_with fail
  go_ret
  refine ⟨ret_int ?_, H1.out, ho⟩
  have h1 := Int.emod_nonneg x (show n ≠ 0 by omega)
  have h2 := Int.emod_lt_of_pos x (show 0 < n by omega)
  exact wrap64_id _ (by omega)
theorem belowN_bd (x n : Int) (hn : 1 ≤ n) : 0 ≤ belowN x n ∧ belowN x n < n :=
  ⟨Int.emod_nonneg x (by omega), Int.emod_lt_of_pos x (by omega)⟩
def pairB (x y n : Int) : Int := if belowN x n ≤ belowN y (n - 1) then belowN y (n - 1) + 1 else belowN y (n - 1)
theorem pairB_bd (x y n : Int) (hn : 2 ≤ n) : 0 ≤ pairB x y n ∧ pairB x y n < n ∧ pairB x y n ≠ belowN x n := by
  have h1 := belowN_bd x n (by omega)
  have h2 := belowN_bd y (n - 1) (by omega)
  unfold pairB
  split <;> omega

theorem Pair_none (v : Value) (n : Int) (w : World) (h : n < 2) :
    Calls Try.prog 50 #[v, .int .i64 n] w fun e w' => e = .returned (.tuple #[.int .i64 0, .int .i64 0]) ∧ w = w' := by
  go_enter Try.func50, Try.ntmps50
  go_wp2_with fail
  go_ret2
  exact ⟨rfl, rfl⟩
theorem Pair_draw (lo hi : Nat) (v : Value) (s : Nat → Int) (k n : Int) (w : World) (h : Drw w lo hi v s k) (hk : 0 ≤ k ∧ k ≤ 4611686018427387000) (hn : 2 ≤ n ∧ n ≤ 9223372036854775807) :
    Calls Try.prog 50 #[v, .int .i64 n] w fun e w' => e = .returned (.tuple #[.int .i64 (belowN (s 0) n), .int .i64 (pairB (s 0) (s 1) n)]) ∧ Drw w' lo hi v (fun i => s (i + 2)) (k + 2) ∧ Only (Within lo hi) w w' := by
  obtain ⟨a, ha⟩ : ∃ a, belowN (s 0) n = a := ⟨_, rfl⟩
  obtain ⟨b, hb⟩ : ∃ b, belowN (s 1) (n - 1) = b := ⟨_, rfl⟩
  have hp : pairB (s 0) (s 1) n = if a ≤ b then b + 1 else b := by unfold pairB; rw [ha, hb]
  have ba := belowN_bd (s 0) n (by omega)
  have bb := belowN_bd (s 1) (n - 1) (by omega)
  rw [ha] at ba
  rw [hb] at bb
  obtain ⟨a1, a2⟩ := ba
  obtain ⟨b1, b2⟩ := bb
  obtain ⟨n1, n2⟩ := hn
  rw [ha, hp]
  have EA := Lib.hid ha
  have EB := Lib.hid hb
  have HS := Lib.hid h
  clear ha hb hp h
  by_cases hab : a ≤ b
  · rw [if_pos hab]
    have hab' : decide (a ≤ b) = true := decide_eq_true hab
    go_enter Try.func50, Try.ntmps50
    go_wp2_with fail
    refine (Below_draw lo hi v s k n _ HS.out (by omega) (by omega)).mono ?_
    rintro e w1 ⟨he, hs1, ho1⟩
    rw [EA.out] at he
    subst he
    have H1 := Lib.hid hs1
    clear hs1
    go_wp2_with fail
    refine (Below_draw lo hi v _ (k + 1) (n - 1) _ H1.out (by omega) (by omega)).mono ?_
    rintro e w2 ⟨he, hs2, ho2⟩
    rw [EB.out] at he
    subst he
    have H2 := Lib.hid hs2
    clear hs2
    go_wp2_with fail
    go_ret2
    refine ⟨rfl, ?_, ho1.trans ho2⟩
    have := H2.out
    rwa [show k + 1 + 1 = k + 2 by omega] at this
  · rw [if_neg hab]
    have hab' : decide (a ≤ b) = false := decide_eq_false hab
    go_enter Try.func50, Try.ntmps50
    go_wp2_with fail
    refine (Below_draw lo hi v s k n _ HS.out (by omega) (by omega)).mono ?_
    rintro e w1 ⟨he, hs1, ho1⟩
    rw [EA.out] at he
    subst he
    have H1 := Lib.hid hs1
    clear hs1
    go_wp2_with fail
    refine (Below_draw lo hi v _ (k + 1) (n - 1) _ H1.out (by omega) (by omega)).mono ?_
    rintro e w2 ⟨he, hs2, ho2⟩
    rw [EB.out] at he
    subst he
    have H2 := Lib.hid hs2
    clear hs2
    go_wp2_with fail
    go_ret2
    refine ⟨rfl, ?_, ho1.trans ho2⟩
    have := H2.out
    rwa [show k + 1 + 1 = k + 2 by omega] at this

/-! ### the makers -/
theorem info_u64 : (Try.prog.info? 50).map (fun i => (i.zero, i.size, i.bytes)) = some (some (.int .u64 0), 1, 8) := by kernel_rfl
theorem Script_calls (A : Option Addr) (c : Nat) (xs : List Int) (w : World) (ha : Rd w .u64 A xs) (hu : U64 xs) (hs : xs.length ≤ 17592186044416) :
    Calls Try.prog 23 #[.slice A xs.length c] w fun e w' => ∃ v, e = .returned v ∧ Src w' w.heap.size w'.heap.size v (fun i => xs.getD i 0) ∧ Below w.heap.size w w' ∧ ∃ T p, v = .iface T p := by
  go_enter Try.func23, Try.ntmps23
  go_wp2_with (at_builtin; refine wpList_appI _ rfl (.const (.slice none 0 0)) (.tmp 3) 37 50 rfl .u64 8 Try.underlying37 info_u64 (by omega) w.heap.size (.slice none 0 0) [] rfl A c xs rfl (World.ownsRow_nil _ _ _ _) w (Below.refl _ _) (Nat.le_refl _) ha (by simp; omega) ?_; intro v1 w1 ho hgrow hbel hat hnil; rw [List.nil_append] at ho; obtain ⟨A1, c1, rfl, hc1, _⟩ := ho.shape; have HO := Lib.hid ho; clear ho hat hnil hgrow)
  go_ret
  refine ⟨_, rfl, .inl ⟨w1.heap.size, xs, rfl, ?_, hu, rfl⟩, below_alloc1 hbel _, _, _, rfl⟩
  have hz := hbel.size
  have ho := HO.out
  refine ⟨hz, by simp, A1, c1, heap_alloc_new w1 _, hc1, ?_, ?_⟩
  · rcases ho.2 with ⟨h1, _⟩ | ⟨g, cap, cur, h1, _, _, _, h2, _⟩
    · injection h1 with _ _ h1; omega
    · injection h1 with _ _ h1
      have : maxLen = 9223372036854775807 := rfl
      omega
  · by_cases hx : xs = []
    · exact .inl hx
    · have hp : 0 < xs.length := by
        rcases Nat.eq_zero_or_pos xs.length with h | h
        · exact absurd (List.eq_nil_of_length_eq_zero h) hx
        · exact h
      obtain ⟨g, rfl, hg1, hg2, _⟩ := ho.at_ 0 hp
      refine .inr ⟨g, 0, rfl, hg1, by simp; omega, by omega, fun j hj => ?_⟩
      obtain ⟨g', e, _, _, hcell, _⟩ := (ho.alloc1 (.cells #[.slice (some ⟨g, 0, none⟩) xs.length c1] 105)).at_ j hj
      injection e with e
      injection e with e
      subst e
      rw [Nat.zero_add]
      exact hcell
theorem Mix_calls (st : Int) (w : World) :
    Calls Try.prog 26 #[.int .u64 st] w fun e w' => ∃ v, e = .returned v ∧ Src w' w.heap.size w'.heap.size v (fun i => mixAt st (i + 1)) ∧ Below w.heap.size w w' ∧ ∃ T p, v = .iface T p := by
  go_enter Try.func26, Try.ntmps26
  go_wp2_with fail
  go_ret
  exact ⟨_, rfl, .inr ⟨w.heap.size, st, rfl, Nat.le_refl _, by simp, heap_alloc_new w _, rfl⟩, below_alloc1 (Below.refl _ _) _, _, _, rfl⟩
theorem Count_calls (T : TypeId) (p : Value) (lo hi : Nat) (s : Nat → Int) (w : World) (h : Src w lo hi (.iface T p) s) (hh : hi ≤ w.heap.size) (hl : lo ≤ hi) :
    Calls Try.prog 27 #[.iface T p] w fun e w' => e = .returned (.pointer (some ⟨w.heap.size, 0, none⟩)) ∧ Ctr w' lo w'.heap.size w.heap.size s 0 ∧ Below w.heap.size w w' := by
  have HS := Lib.hid h
  clear h
  go_enter Try.func27, Try.ntmps27
  go_wp2_with fail
  go_ret
  refine ⟨rfl, ⟨_, hi, hl, hh, by simp, heap_alloc_new w _, ?_⟩, below_alloc1 (Below.refl _ _) _⟩
  exact HS.out.only (S := fun _ => False) (Only.of_below (below_alloc1 (Below.refl _ _) _)) fun _ _ _ h => h
theorem Drawn_calls (lo hi b : Nat) (s : Nat → Int) (n : Int) (w : World) (h : Ctr w lo hi b s n) :
    Calls Try.prog 29 #[.pointer (some ⟨b, 0, none⟩)] w fun e w' => e = .returned (.int .i64 n) ∧ w = w' := by
  obtain ⟨v, m, h1, h2, h3, h4, h5⟩ := h
  have hc1 : w.cell? ⟨b, 1, none⟩ = some (.int .i64 n) := by simp [World.cell?, h4]
  clear h4 h5
  go_enter Try.func29, Try.ntmps29
  go_wp2_with fail
  go_ret
  exact ⟨rfl, rfl⟩
end Go.Proofs.Ytohmcpblagcfeaa
