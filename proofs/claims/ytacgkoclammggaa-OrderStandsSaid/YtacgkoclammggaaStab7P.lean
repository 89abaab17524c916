
/-
  The library's stable sort over shelterbelt/shelterbeltref04.Pair; order.Sort. Conditions: the row is the call's own; the closure's variable holds the order; what stands ahead may stand ahead.
-/
import Derived.Test.YtacgkoclammggaaStab6P
namespace Go.Proofs.Ytacgkoclammggaa
open Go.RowKit
set_option linter.unusedVariables false
set_option maxRecDepth 100000
set_option linter.unusedSimpArgs false
attribute [local go_sem] Oper.semAt_some

theorem SymP_all (bf : Nat) : ∀ N, SymOkP bf N
  | 0 => fun lo A n c a m b P L R S w hN h ha hm hb hL hR => by omega
  | N + 1 => fun lo A n c a m b P L R S w hN h ha hm hb hL hR hc hf hsl hsr hB hn => by
    by_cases h1 : L.length = 1
    · obtain ⟨x, rfl⟩ := List.length_eq_one_iff.1 h1
      exact SymAP_calls bf lo A n c a m b P R S x w h ha hm hb hR hc hf hsr (fun y hy => hB x (by simp) y hy) hn
    · by_cases h2 : R.length = 1
      · obtain ⟨x, rfl⟩ := List.length_eq_one_iff.1 h2
        exact SymBP_calls bf lo A n c a m b P L S x w h ha hm hb (by omega) hc hf hsl (fun y hy => hB y hy x (by simp)) hn
      · exact SymCP_calls bf N (SymP_all bf N) lo A n c a m b P L R S w hN h ha hm hb (by omega) (by omega) hc hf hsl hsr hB hn
/-- Between two steps: blocks of k each, what is left is less. -/
def PasP (k : Nat) (xs0 : List (Int × Int)) (dn fu : List (List (Int × Int))) (la : List (Int × Int)) : Prop :=
  (dn.flatten ++ (fu.flatten ++ la)).Perm xs0 ∧ Blks lexP BeP (dn ++ (fu ++ [la])) ∧ (∀ e ∈ fu, e.length = k) ∧ la.length < k
set_option maxHeartbeats 6400000 in
set_option maxRecDepth 1000000 in
theorem StableP_calls (bf lo : Nat) (A : Option Addr) (n c : Nat) (xs : List (Int × Int)) (w : World) (h : OwnF w lo 80 2 twoP (.slice A n c) xs) (hc : CmP w bf) (hf : ¬ OwnB (.slice A n c) bf) (hB : xs.Pairwise BeP) (hn : n ≤ 100000) :
    Calls Try.prog 118 #[.slice A n c, .int .i64 (n : Int), cmpP bf] w fun e w' => e = .returned (.tuple #[]) ∧ (∃ Z, Z.Perm xs ∧ Srt lexP Z ∧ OwnF w' lo 80 2 twoP (.slice A n c) Z) ∧ Only (OwnB (.slice A n c)) w w' := by
  have hlen := h.len
  have HF := Lib.hid hf
  have HC := Lib.hid hc
  have HH := Lib.hid h
  have HBE := Lib.hid hB
  have HL := Lib.hid hlen
  clear h hc hf hB hlen
  go_enter Try.func118, Try.ntmps118
  go_wp2_with fail
  -- the first pass: pieces of 20
  go_loopg [7, 8] n (fun kq v7 v8 w' => ∃ (a : Nat) (dn : List (List (Int × Int))) (re : List (Int × Int)), a + kq = n ∧ v7 = .int .i64 (a : Int) ∧ v8 = .int .i64 ((a + 20 : Nat) : Int) ∧ OwnF w' lo 80 2 twoP (.slice A n c) (dn.flatten ++ re) ∧ dn.flatten.length = a ∧ (dn.flatten ++ re).Perm xs ∧ Blks lexP BeP dn ∧ (∀ e ∈ dn, e.length = 20) ∧ re.Pairwise BeP ∧ (∀ e ∈ dn, Ahd BeP e re) ∧ Only (OwnB (.slice A n c)) w w')
  case atStart => exact ⟨0, [], xs, by omega, rfl, rfl, HH.out, rfl, List.Perm.refl _, ⟨fun e he => (by cases he), List.Pairwise.nil⟩, fun e he => (by cases he), HBE.out, fun e he => (by cases he), Only.refl _ _⟩
  case round =>
    clear HH
    obtain ⟨a, dn, re, hak, rfl, rfl, hO, hdl, hpm, hbl, hd20, hre, had, hon⟩ := hrel
    have HO := Lib.hid hO
    have HDL := Lib.hid hdl
    have HPM := Lib.hid hpm
    have HBL := Lib.hid hbl
    have HD := Lib.hid hd20
    have HRE := Lib.hid hre
    have HAD := Lib.hid had
    have HON := Lib.hid hon
    have hrl : a + re.length = n := by have h := hO.len; rw [List.length_append, hdl] at h; exact h
    have HRL := Lib.hid hrl
    clear hO hdl hpm hbl hd20 hre had hon
    obtain ⟨b, hab⟩ : ∃ b, a + 20 = b := ⟨_, rfl⟩
    rw [hab]
    by_cases hb : b ≤ n
    · have hbz : (b : Int) ≤ (n : Int) := by omega
      have hbn : (b : Int) ≤ (n : Int) := by omega
      obtain ⟨Q, S, hQS, hQ⟩ : ∃ Q S, re = Q ++ S ∧ Q.length = 20 := ⟨re.take 20, re.drop 20, (List.take_append_drop _ _).symm, by rw [List.length_take]; omega⟩
      have hre2 := HRE.out
      rw [hQS] at hre2
      have hpre := List.pairwise_append.1 hre2
      have HIN := Lib.hid (InsertionP_calls bf lo A n c a b dn.flatten Q S wr (by rw [← hQS]; exact HO.out) HDL.out (by omega) (HC.out.only HON.out HF.out) HF.out hpre.1 (by omega))
      have HP1 := Lib.hid hpre.2.1
      have HP2 := Lib.hid hpre.2.2
      have HQS := Lib.hid hQS
      have HQ := Lib.hid hQ
      have hwb : IntKind.i64.wrap ((b : Int) + 20) = (b : Int) + 20 := by rw [i64_w]; exact wrap64_id _ (by omega)
      have hbk : b + (n - b) = n := by omega
      have hms : n - b < gk := by omega
      clear hQS hQ hre2 hpre hbz hb hak hrl
      go_wp2_with fail
      refine HIN.out.mono ?_
      rintro e w2 ⟨he, ⟨Z, hz, hs, hO2⟩, hon2⟩
      subst he
      have HZ := Lib.hid hz
      have HS := Lib.hid hs
      have HO2 := Lib.hid hO2
      have HON2 := Lib.hid (HON.out.trans hon2)
      clear hz hs hO2 hon2
      go_wp2_with fail
      go_roundg (n - b)
      case measure => exact hms
      case rel =>
        have hf : (dn ++ [Z]).flatten = dn.flatten ++ Z := by simp
        refine ⟨b, dn ++ [Z], S, hbk, rfl, by simp, by rw [hf, List.append_assoc]; exact HO2.out, by rw [hf, List.length_append, HDL.out, HZ.out.length_eq, HQ.out]; exact hab, ?_, ?_, ?_, HP1.out, ?_, HON2.out⟩
        · rw [hf, List.append_assoc]
          refine List.Perm.trans ?_ HPM.out
          rw [HQS.out]
          exact List.Perm.append_left _ (List.Perm.append_right _ HZ.out)
        · exact HBL.out.one (c := Q) (r := S) (fun e he => by rw [← HQS.out]; exact HAD.out e he) HZ.out HS.out
        · intro e he
          rcases List.mem_append.1 he with he | he
          · exact HD.out e he
          · simp at he
            rw [he, HZ.out.length_eq, HQ.out]
        · intro e he
          rcases List.mem_append.1 he with he | he
          · exact fun x hx y hy => HAD.out e he x hx y (by rw [HQS.out]; simp [hy])
          · simp at he
            rw [he]
            exact fun x hx y hy => HP2.out x (HZ.out.subset hx) y hy
    · have hbz : ¬ (b : Int) ≤ (n : Int) := by omega
      have HIN := Lib.hid (InsertionP_calls bf lo A n c a n dn.flatten re [] wr (by rw [List.append_nil]; exact HO.out) HDL.out hrl (HC.out.only HON.out HF.out) HF.out HRE.out (by omega))
      have hr20 : re.length < 20 := by omega
      clear hb hak hrl hab
      go_wp2_with fail
      refine HIN.out.mono ?_
      rintro e w2 ⟨he, ⟨Z, hz, hs, hO2⟩, hon2⟩
      subst he
      have HST := Lib.hid (show ∃ (bs : Nat) (fu : List (List (Int × Int))) (la : List (Int × Int)), (Value.int .i64 20) = .int .i64 (bs : Int) ∧ n - 20 = n - bs ∧ 20 ≤ bs ∧ bs ≤ 2 * n + 20 ∧ OwnF w2 lo 80 2 twoP (.slice A n c) (fu.flatten ++ la) ∧ (fu.flatten ++ la).Perm xs ∧ Blks lexP BeP (fu ++ [la]) ∧ (∀ e ∈ fu, e.length = bs) ∧ la.length < bs ∧ Only (OwnB (.slice A n c)) w w2 from by
        refine ⟨20, dn, Z, rfl, rfl, Nat.le_refl _, (Nat.le_add_left _ _), (by rw [List.append_nil] at hO2; exact hO2), (List.Perm.append_left _ hz).trans HPM.out, ?_, HD.out, by rw [hz.length_eq]; exact hr20, HON.out.trans hon2⟩
        exact HBL.out.one (c := re) (r := []) (fun e he => by rw [List.append_nil]; exact HAD.out e he) hz hs)
      clear hz hs hO2 hon2 HO HDL HPM HBL HD HRE HAD HON HRL HIN hr20
      go_wp2_with fail
      go_loopg [6] (n - 20) (fun kq v6 w' => ∃ (bs : Nat) (fu : List (List (Int × Int))) (la : List (Int × Int)), v6 = .int .i64 (bs : Int) ∧ kq = n - bs ∧ 20 ≤ bs ∧ bs ≤ 2 * n + 20 ∧ OwnF w' lo 80 2 twoP (.slice A n c) (fu.flatten ++ la) ∧ (fu.flatten ++ la).Perm xs ∧ Blks lexP BeP (fu ++ [la]) ∧ (∀ e ∈ fu, e.length = bs) ∧ la.length < bs ∧ Only (OwnB (.slice A n c)) w w')
      case atStart => exact HST.out
      case round =>
        clear HST
        obtain ⟨bs, fu, la, rfl, hkq, hbs, hbm, hO, hpm, hbl, hfl, hla, hon⟩ := hrel
        have HON := Lib.hid hon
        have HPM := Lib.hid hpm
        have HBL := Lib.hid hbl
        have HFL := Lib.hid hfl
        have hol := hO.len
        have HO := Lib.hid hO
        rw [List.length_append, flat_len hfl] at hol
        clear hon hpm hbl hfl hO
        by_cases hbn : bs < n
        · have hbz : (bs : Int) < (n : Int) := by omega
          obtain ⟨b2, hb2⟩ : ∃ x, 2 * bs = x := ⟨_, rfl⟩
          have hw1 : IntKind.i64.wrap (2 * (bs : Int)) = (b2 : Int) := by rw [i64_w, show 2 * (bs : Int) = (b2 : Int) by omega]; exact wrap64_id _ (by omega)
          have hw2 : IntKind.i64.wrap ((bs : Int) * 2) = (b2 : Int) := by rw [i64_w, show (bs : Int) * 2 = (b2 : Int) by omega]; exact wrap64_id _ (by omega)
          have HI0 := Lib.hid (show ∃ (a : Nat) (dn fu' : List (List (Int × Int))) (la' : List (Int × Int)), a + n = n ∧ (Value.int .i64 0) = .int .i64 (a : Int) ∧ (Value.int .i64 (b2 : Int)) = .int .i64 ((a + b2 : Nat) : Int) ∧ OwnF wr lo 80 2 twoP (.slice A n c) (dn.flatten ++ (fu'.flatten ++ la')) ∧ dn.flatten.length = a ∧ (dn.flatten ++ (fu'.flatten ++ la')).Perm xs ∧ Blks lexP BeP (dn ++ (fu' ++ [la'])) ∧ (∀ e ∈ dn, e.length = b2) ∧ (∀ e ∈ fu', e.length = bs) ∧ la'.length < bs ∧ Only (OwnB (.slice A n c)) w wr from ⟨0, [], fu, la, by omega, rfl, by simp, HO.out, rfl, HPM.out, HBL.out, fun e he => (by cases he), HFL.out, hla, HON.out⟩)
          have hlt2 : n - b2 < gk := by omega
          clear HO HPM HBL HFL HON hol hla hkq
          go_wp2_with fail
          go_loopg [7, 8] n (fun kq v7 v8 w' => ∃ (a : Nat) (dn fu' : List (List (Int × Int))) (la' : List (Int × Int)), a + kq = n ∧ v7 = .int .i64 (a : Int) ∧ v8 = .int .i64 ((a + b2 : Nat) : Int) ∧ OwnF w' lo 80 2 twoP (.slice A n c) (dn.flatten ++ (fu'.flatten ++ la')) ∧ dn.flatten.length = a ∧ (dn.flatten ++ (fu'.flatten ++ la')).Perm xs ∧ Blks lexP BeP (dn ++ (fu' ++ [la'])) ∧ (∀ e ∈ dn, e.length = b2) ∧ (∀ e ∈ fu', e.length = bs) ∧ la'.length < bs ∧ Only (OwnB (.slice A n c)) w w')
          case atStart => exact HI0.out
          case round =>
            clear HI0
            obtain ⟨a, dn, fu, la, hak, rfl, rfl, hO, hdl, hpm, hbl, hd, hfl, hla, hon⟩ := hrel
            have hol := hO.len
            rw [List.length_append, hdl, List.length_append, flat_len hfl] at hol
            have HO := Lib.hid hO
            have HDL := Lib.hid hdl
            have HPM := Lib.hid hpm
            have HBL := Lib.hid hbl
            have HD := Lib.hid hd
            have HFL := Lib.hid hfl
            have HON := Lib.hid hon
            have HCM := Lib.hid (HC.out.only hon HF.out)
            clear hO hdl hpm hbl hd hfl hon
            obtain ⟨b, hab⟩ : ∃ b, a + b2 = b := ⟨_, rfl⟩
            obtain ⟨m, hm⟩ : ∃ m, a + bs = m := ⟨_, rfl⟩
            rw [hab]
            have hwm : IntKind.i64.wrap ((a : Int) + (bs : Int)) = (m : Int) := by rw [i64_w, show (a : Int) + (bs : Int) = (m : Int) by omega]; exact wrap64_id _ (by omega)
            by_cases hb : b ≤ n
            · have hbz2 : (b : Int) ≤ (n : Int) := by omega
              have hwb : IntKind.i64.wrap ((b : Int) + (b2 : Int)) = ((b + b2 : Nat) : Int) := by rw [i64_w, show (b : Int) + (b2 : Int) = ((b + b2 : Nat) : Int) by omega]; exact wrap64_id _ (by omega)
              match fu, HO, HPM, HBL, HFL, hol with
              | [], _, _, _, _, hol => simp at hol; omega
              | [c1], _, _, _, _, hol => simp at hol; omega
              | c1 :: c2 :: fu', HO, HPM, HBL, HFL, hol =>
                have hc1 := HFL.out c1 (by simp)
                have hc2 := HFL.out c2 (by simp)
                have HSY := Lib.hid (SymP_all bf (c1.length + c2.length) lo A n c a m b dn.flatten c1 c2 (fu'.flatten ++ la) wr (Nat.le_refl _) (by have h := HO.out; simpa using h) HDL.out (by omega) (by omega) (by omega) (by omega) HCM.out HF.out HBL.out.srt HBL.out.srt2 HBL.out.ahd (by omega))
                have hbk : b + (n - b) = n := by omega
                have hms : n - b < gk := by omega
                clear hol hb hak
                go_wp2_with fail
                refine HSY.out.mono ?_
                rintro e w2 ⟨he, ⟨Z, hz, hs, hO2⟩, hon2⟩
                subst he
                have HZ := Lib.hid hz
                have HS := Lib.hid hs
                have HO2 := Lib.hid hO2
                have HON2 := Lib.hid (HON.out.trans hon2)
                clear hz hs hO2 hon2
                go_wp2_with fail
                go_roundg (n - b)
                case measure => exact hms
                case rel =>
                  have hf : (dn ++ [Z]).flatten = dn.flatten ++ Z := by simp
                  refine ⟨b, dn ++ [Z], fu', la, hbk, rfl, rfl, by rw [hf, List.append_assoc]; exact HO2.out, by rw [hf, List.length_append, HDL.out, HZ.out.length_eq, List.length_append]; omega, ?_, ?_, ?_, fun e he => HFL.out e (by simp [he]), hla, HON2.out⟩
                  · rw [hf, List.append_assoc]
                    refine List.Perm.trans ?_ HPM.out
                    rw [show (c1 :: c2 :: fu').flatten ++ la = (c1 ++ c2) ++ (fu'.flatten ++ la) by simp]
                    exact List.Perm.append_left _ (List.Perm.append_right _ HZ.out)
                  · rw [List.append_assoc]
                    exact HBL.out.two HZ.out HS.out
                  · intro e he
                    rcases List.mem_append.1 he with he | he
                    · exact HD.out e he
                    · simp at he
                      rw [he, HZ.out.length_eq, List.length_append]
                      omega
            · have hbz2 : ¬ (b : Int) ≤ (n : Int) := by omega
              match fu, HO, HPM, HBL, HFL, hol with
              | [], HO, HPM, HBL, HFL, hol =>
                have hmz : ¬ (m : Int) < (n : Int) := by simp at hol; omega
                have hlb : la.length < b2 := by omega
                clear hol hb hak hab hm hla
                go_wp2_with fail
                go_roundg (n - b2)
                case measure => exact hlt2
                case rel => exact ⟨b2, dn, la, rfl, rfl, by omega, by omega, by have h := HO.out; simpa using h, by have h := HPM.out; simpa using h, by have h := HBL.out; simpa using h, HD.out, hlb, HON.out⟩
              | [c1], HO, HPM, HBL, HFL, hol =>
                have hc1 := HFL.out c1 (by simp)
                by_cases hmn : m < n
                · have hmz : (m : Int) < (n : Int) := by omega
                  have HSY := Lib.hid (SymP_all bf (c1.length + la.length) lo A n c a m n dn.flatten c1 la [] wr (Nat.le_refl _) (by have h := HO.out; simpa using h) HDL.out (by omega) (by simp at hol; omega) (by omega) (by simp at hol; omega) HCM.out HF.out HBL.out.srt HBL.out.srt2 HBL.out.ahd (by omega))
                  have hlb : c1.length + la.length < b2 := by omega
                  clear hol hb hak hab hm hla hmn
                  go_wp2_with fail
                  refine HSY.out.mono ?_
                  rintro e w2 ⟨he, ⟨Z, hz, hs, hO2⟩, hon2⟩
                  subst he
                  have HZ := Lib.hid hz
                  have HS := Lib.hid hs
                  have HO2 := Lib.hid hO2
                  have HON2 := Lib.hid (HON.out.trans hon2)
                  clear hz hs hO2 hon2
                  go_wp2_with fail
                  go_roundg (n - b2)
                  case measure => exact hlt2
                  case rel =>
                    refine ⟨b2, dn, Z, rfl, rfl, by omega, by omega, by have h := HO2.out; simpa using h, ?_, HBL.out.two HZ.out HS.out, HD.out, by rw [HZ.out.length_eq, List.length_append]; exact hlb, HON2.out⟩
                    refine List.Perm.trans ?_ HPM.out
                    rw [show [c1].flatten ++ la = c1 ++ la by simp]
                    exact List.Perm.append_left _ HZ.out
                · have hmz : ¬ (m : Int) < (n : Int) := by omega
                  have hl0 : la = [] := List.length_eq_zero_iff.1 (by simp at hol; omega)
                  have HL0 := Lib.hid hl0
                  have hlb : c1.length < b2 := by omega
                  clear hol hb hak hab hm hla hmn hl0
                  go_wp2_with fail
                  go_roundg (n - b2)
                  case measure => exact hlt2
                  case rel =>
                    refine ⟨b2, dn, c1, rfl, rfl, by omega, by omega, by have h := HO.out; rw [HL0.out] at h; simpa using h, by have h := HPM.out; rw [HL0.out] at h; simpa using h, ?_, HD.out, hlb, HON.out⟩
                    exact HBL.out.two (z := c1) (by rw [HL0.out, List.append_nil]) HBL.out.srt
              | c1 :: c2 :: fu', HO, HPM, HBL, HFL, hol =>
                exfalso
                simp only [List.length_cons, Nat.succ_mul] at hol
                omega
        · have hbz : ¬ (bs : Int) < (n : Int) := by omega
          have hfin : Srt lexP (fu.flatten ++ la) := by
            match fu, HBL, hol with
            | [], HBL, _ => exact HBL.out.1 la (by simp)
            | [c1], HBL, hol =>
              have hl0 : la = [] := List.length_eq_zero_iff.1 (by simp at hol; omega)
              rw [hl0]
              have h := HBL.out.1 c1 (by simp)
              simpa using h
            | c1 :: c2 :: fu', _, hol =>
              exfalso
              simp only [List.length_cons, Nat.succ_mul] at hol
              omega
          have HFIN := Lib.hid hfin
          clear hol hfin hla hkq hbn
          go_wp2_with fail
          go_end0
          exact ⟨rfl, ⟨fu.flatten ++ la, HPM.out, HFIN.out, HO.out⟩, HON.out⟩
end Go.Proofs.Ytacgkoclammggaa
