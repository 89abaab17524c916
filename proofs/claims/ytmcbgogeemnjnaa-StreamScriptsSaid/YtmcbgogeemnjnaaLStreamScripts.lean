/-
  The statement StreamScripts: the walk. Conditions: the numbers lie in their kinds' ranges.
-/
import Derived.Test.YtmcbgogeemnjnaaLStreamAll
namespace Go.Proofs.Ytmcbgogeemnjnaa
open Go.RowKit
set_option linter.unusedVariables false
set_option linter.unusedSimpArgs false
attribute [local go_sem] Oper.semAt_some

theorem offT_getD {l : List Int} {j T q : Nat} (seed : Int) (h : j < T) : offT true seed l j T q = if q < cnt l.length j T then l.getD (j + q * T) 0 else 0 := by
  unfold offT
  rw [if_neg (by omega)]
  simp only [if_true, Int.toNat_natCast]
  by_cases hq : q < cnt l.length j T
  · rw [if_pos hq]
    simp [pk, List.getD, hq]
  · rw [if_neg hq]
    simp [pk, List.getD, hq]
theorem offT_at {l : List Int} {i T : Nat} (seed : Int) (h : i < l.length) (hT : 0 < T) : offT true seed l ((i % T : Nat) : Int) T (cnt i (i % T) T) = l.getD i 0 := by
  have hr := Nat.mod_lt i hT
  have h2 := (cnt_yes hr rfl).2
  rw [offT_getD seed hr, if_pos ((cnt_lt hr).2 (by omega)), ← h2]
theorem offT_end {l : List Int} {j T : Nat} (seed : Int) (h : j < T) : offT true seed l j T (cnt l.length j T) = 0 := by
  rw [offT_getD seed h, if_neg (Nat.lt_irrefl _)]
set_option maxHeartbeats 6400000 in
set_option maxRecDepth 100000 in
theorem StreamScripts_law (A : Option Addr) (c : Nat) (l : List Int) (trees : Int) (w : World) (ha : Rd w .u64 A l) (hu : ∀ n ∈ l, (Lit.int .u64 n).wf = true) (na : A = none → l = [] ∧ c = 0) (la : l.length * 8 ≤ 140737488351232) (htrs : (Lit.int .i64 trees).wf = true) :
    Calls Try.prog 11 #[.slice A l.length c, .int .i64 trees] w fun e w' => e = .returned (.bool true) ∧ Below w.heap.size w w' := by
  have HU := Lib.hid (u64_of_wf hu)
  have KA := Lib.hid ha
  replace htrs := i64_of_wf htrs
  obtain ⟨htrs1, htrs2⟩ := htrs
  clear hu ha na
  by_cases h0 : 500 < l.length
  · have h0' : decide (500 < (l.length : Int)) = true := by simp; omega
    have k_w : Below w.heap.size w w := Below.refl _ _
    go_enter Try.func11, Try.ntmps11
    go_wp2_with fail
    obtain ⟨w1, hw⟩ : ∃ W, w.alloc (.cells #[.bool false] 4) = W := ⟨_, rfl⟩
    rw [hw]
    have hbn : Below w.heap.size w w1 := by rw [← hw]; exact below_alloc1 (Below.refl _ _) _
    have b3 : w1.heap[w.heap.size]? = some (.cells #[.bool false] 4 (0, 0)) := by rw [← hw]; exact heap_alloc_new _ _
    clear hw
    have k_w_w1 : Below w.heap.size w w1 := k_w.trans (hbn.mono k_w.size)
    clear k_w
    clear hbn
    have b2 := b3
    clear b3
    have h_r0 : w1.cell? ⟨w.heap.size, 0, none⟩ = some (.bool false) := by simp [World.cell?, b2]
    have f_r0 : w1.frozen? ⟨w.heap.size, 0, none⟩ = false := by simp [World.frozen?, b2]
    have b_r := Lib.hid b2
    clear b2
    go_wp2_with fail
    refine (awake6_calls _  ).mono ?_
    rintro e w2 ⟨he, hbn⟩
    subst he
    have k_w_w2 : Below w.heap.size w w2 := k_w_w1.trans (hbn.mono k_w_w1.size)
    clear k_w_w1
    have b2 := obj_below hbn b_r.out (obj_lt b_r.out)
    clear b_r h_r0 f_r0
    have h_r0 : w2.cell? ⟨w.heap.size, 0, none⟩ = some (.bool false) := by simp [World.cell?, b2]
    have f_r0 : w2.frozen? ⟨w.heap.size, 0, none⟩ = false := by simp [World.frozen?, b2]
    have b_r := Lib.hid b2
    clear b2
    clear hbn
    go_wp2_with fail
    have hst := set_blk (cs := [_]) b_r.out 0 (.bool true)
    exact ⟨rfl, _, results_boxed rfl rfl _ _ true rfl (by simp [World.cell?, hst]), rfl, below_set k_w_w2 (by omega) _ _⟩
  have h0' : decide (500 < (l.length : Int)) = false := by simp; omega
  replace h0 : l.length ≤ 500 := by omega
  by_cases h1 : trees < 1
  · have h1' : decide (trees < 1) = true := by simp; omega
    have k_w : Below w.heap.size w w := Below.refl _ _
    go_enter Try.func11, Try.ntmps11
    go_wp2_with fail
    obtain ⟨w1, hw⟩ : ∃ W, w.alloc (.cells #[.bool false] 4) = W := ⟨_, rfl⟩
    rw [hw]
    have hbn : Below w.heap.size w w1 := by rw [← hw]; exact below_alloc1 (Below.refl _ _) _
    have b3 : w1.heap[w.heap.size]? = some (.cells #[.bool false] 4 (0, 0)) := by rw [← hw]; exact heap_alloc_new _ _
    clear hw
    have k_w_w1 : Below w.heap.size w w1 := k_w.trans (hbn.mono k_w.size)
    clear k_w
    clear hbn
    have b2 := b3
    clear b3
    have h_r0 : w1.cell? ⟨w.heap.size, 0, none⟩ = some (.bool false) := by simp [World.cell?, b2]
    have f_r0 : w1.frozen? ⟨w.heap.size, 0, none⟩ = false := by simp [World.frozen?, b2]
    have b_r := Lib.hid b2
    clear b2
    go_wp2_with fail
    refine (awake6_calls _  ).mono ?_
    rintro e w2 ⟨he, hbn⟩
    subst he
    have k_w_w2 : Below w.heap.size w w2 := k_w_w1.trans (hbn.mono k_w_w1.size)
    clear k_w_w1
    have b2 := obj_below hbn b_r.out (obj_lt b_r.out)
    clear b_r h_r0 f_r0
    have h_r0 : w2.cell? ⟨w.heap.size, 0, none⟩ = some (.bool false) := by simp [World.cell?, b2]
    have f_r0 : w2.frozen? ⟨w.heap.size, 0, none⟩ = false := by simp [World.frozen?, b2]
    have b_r := Lib.hid b2
    clear b2
    clear hbn
    go_wp2_with fail
    have hst := set_blk (cs := [_]) b_r.out 0 (.bool true)
    exact ⟨rfl, _, results_boxed rfl rfl _ _ true rfl (by simp [World.cell?, hst]), rfl, below_set k_w_w2 (by omega) _ _⟩
  have h1' : decide (trees < 1) = false := by simp; omega
  replace h1 : 1 ≤ trees := by omega
  by_cases h2 : 60 < trees
  · have h2' : decide (60 < trees) = true := by simp; omega
    have k_w : Below w.heap.size w w := Below.refl _ _
    go_enter Try.func11, Try.ntmps11
    go_wp2_with fail
    obtain ⟨w1, hw⟩ : ∃ W, w.alloc (.cells #[.bool false] 4) = W := ⟨_, rfl⟩
    rw [hw]
    have hbn : Below w.heap.size w w1 := by rw [← hw]; exact below_alloc1 (Below.refl _ _) _
    have b3 : w1.heap[w.heap.size]? = some (.cells #[.bool false] 4 (0, 0)) := by rw [← hw]; exact heap_alloc_new _ _
    clear hw
    have k_w_w1 : Below w.heap.size w w1 := k_w.trans (hbn.mono k_w.size)
    clear k_w
    clear hbn
    have b2 := b3
    clear b3
    have h_r0 : w1.cell? ⟨w.heap.size, 0, none⟩ = some (.bool false) := by simp [World.cell?, b2]
    have f_r0 : w1.frozen? ⟨w.heap.size, 0, none⟩ = false := by simp [World.frozen?, b2]
    have b_r := Lib.hid b2
    clear b2
    go_wp2_with fail
    refine (awake6_calls _  ).mono ?_
    rintro e w2 ⟨he, hbn⟩
    subst he
    have k_w_w2 : Below w.heap.size w w2 := k_w_w1.trans (hbn.mono k_w_w1.size)
    clear k_w_w1
    have b2 := obj_below hbn b_r.out (obj_lt b_r.out)
    clear b_r h_r0 f_r0
    have h_r0 : w2.cell? ⟨w.heap.size, 0, none⟩ = some (.bool false) := by simp [World.cell?, b2]
    have f_r0 : w2.frozen? ⟨w.heap.size, 0, none⟩ = false := by simp [World.frozen?, b2]
    have b_r := Lib.hid b2
    clear b2
    clear hbn
    go_wp2_with fail
    have hst := set_blk (cs := [_]) b_r.out 0 (.bool true)
    exact ⟨rfl, _, results_boxed rfl rfl _ _ true rfl (by simp [World.cell?, hst]), rfl, below_set k_w_w2 (by omega) _ _⟩
  have h2' : decide (60 < trees) = false := by simp; omega
  replace h2 : trees ≤ 60 := by omega
  obtain ⟨N, rfl⟩ : ∃ N : Nat, trees = N := ⟨trees.toNat, by omega⟩
  have hN1 : 1 ≤ N := by omega
  have hN6 : N ≤ 60 := by omega
  have k_w : Below w.heap.size w w := Below.refl _ _
  refine (callsIn_wide (n := 5)).1 ?_
  refine callsIn_of_wp_marks Try.func11 rfl trivial ?_ rfl
  refine wpIn_wide.2 ?_
  simp only [Try.ntmps11, List.size_toArray, List.length_cons, List.length_nil, Nat.reduceAdd, Nat.reduceSub, Array.replicate_succ, Array.replicate_zero, List.push_toArray, List.append_toArray, List.nil_append, List.cons_append]
  go_wp2_with fail
  obtain ⟨w1, hw⟩ : ∃ W, w.alloc (.cells #[.bool false] 4) = W := ⟨_, rfl⟩
  rw [hw]
  have hbn : Below w.heap.size w w1 := by rw [← hw]; exact below_alloc1 (Below.refl _ _) _
  have b3 : w1.heap[w.heap.size]? = some (.cells #[.bool false] 4 (0, 0)) := by rw [← hw]; exact heap_alloc_new _ _
  clear hw
  have k_w_w1 : Below w.heap.size w w1 := k_w.trans (hbn.mono k_w.size)
  clear k_w
  clear hbn
  have b2 := b3
  clear b3
  have h_r0 : w1.cell? ⟨w.heap.size, 0, none⟩ = some (.bool false) := by simp [World.cell?, b2]
  have f_r0 : w1.frozen? ⟨w.heap.size, 0, none⟩ = false := by simp [World.frozen?, b2]
  have b_r := Lib.hid b2
  clear b2
  go_wp2_with fail
  refine (awake6_calls _  ).mono ?_
  rintro e w2 ⟨he, hbn⟩
  subst he
  have k_w_w2 : Below w.heap.size w w2 := k_w_w1.trans (hbn.mono k_w_w1.size)
  clear k_w_w1
  have b2 := obj_below hbn b_r.out (obj_lt b_r.out)
  clear b_r h_r0 f_r0
  have h_r0 : w2.cell? ⟨w.heap.size, 0, none⟩ = some (.bool false) := by simp [World.cell?, b2]
  have f_r0 : w2.frozen? ⟨w.heap.size, 0, none⟩ = false := by simp [World.frozen?, b2]
  have b_r := Lib.hid b2
  clear b2
  clear hbn
  have hif := iface_nil
  have hz2 := k_w_w2.size
  have hz1 := obj_lt b_r.out
  go_wp2_with fail
  obtain ⟨w3, hw⟩ : ∃ W, w2.alloc (.cells #[.slice none 0 0] 57) = W := ⟨_, rfl⟩
  rw [hw]
  have hbn : Below w2.heap.size w2 w3 := by rw [← hw]; exact below_alloc1 (Below.refl _ _) _
  have b3 : w3.heap[w2.heap.size]? = some (.cells #[.slice none 0 0] 57 (0, 0)) := by rw [← hw]; exact heap_alloc_new _ _
  clear hw
  have k_w_w3 : Below w.heap.size w w3 := k_w_w2.trans (hbn.mono k_w_w2.size)
  clear k_w_w2
  have b2 := obj_below hbn b_r.out (obj_lt b_r.out)
  clear b_r h_r0 f_r0
  have h_r0 : w3.cell? ⟨w.heap.size, 0, none⟩ = some (.bool false) := by simp [World.cell?, b2]
  have f_r0 : w3.frozen? ⟨w.heap.size, 0, none⟩ = false := by simp [World.frozen?, b2]
  have b_r := Lib.hid b2
  clear b2
  clear hbn
  have b2 := b3
  clear b3
  have h_a0 : w3.cell? ⟨w2.heap.size, 0, none⟩ = some (.slice none 0 0) := by simp [World.cell?, b2]
  have f_a0 : w3.frozen? ⟨w2.heap.size, 0, none⟩ = false := by simp [World.frozen?, b2]
  have b_a := Lib.hid b2
  clear b2
  refine (All_calls true 0 A l.length c N _).mono ?_
  rintro e w4 ⟨he, hw4⟩
  subst he
  have hbn : Below w3.heap.size w3 w4 := by rw [hw4]; exact below_alloc1 (below_alloc1 (Below.refl _ _) _) _
  have bD : w4.heap[w3.heap.size]? = some (.cells #[.bool true, .int .u64 0, .slice A l.length c] 51 (0, 0)) := by
    rw [hw4]; exact obj_below ((Below.refl _ _).alloc (Nat.le_refl _) _) (heap_alloc_new w3 _) (obj_lt (heap_alloc_new w3 _))
  have bT : w4.heap[w3.heap.size + 1]? = some (.cells #[.int .i64 (N : Int)] 3 (0, 0)) := by
    rw [hw4]; have h := heap_alloc_new (w3.alloc (.cells #[.bool true, .int .u64 0, .slice A l.length c] 51)) (.cells #[.int .i64 (N : Int)] 3); rwa [World.size_alloc] at h
  have hz4 : w4.heap.size ≤ w3.heap.size + 2 ∧ w3.heap.size + 2 ≤ w4.heap.size := by rw [hw4]; simp
  have hz3 := obj_lt b_a.out
  have HBD := Lib.hid bD
  have HBT := Lib.hid bT
  clear hw4 bD bT
  have k_w_w4 : Below w.heap.size w w4 := k_w_w3.trans (hbn.mono k_w_w3.size)
  clear k_w_w3
  have b2 := obj_below hbn b_r.out (obj_lt b_r.out)
  clear b_r h_r0 f_r0
  have h_r0 : w4.cell? ⟨w.heap.size, 0, none⟩ = some (.bool false) := by simp [World.cell?, b2]
  have f_r0 : w4.frozen? ⟨w.heap.size, 0, none⟩ = false := by simp [World.frozen?, b2]
  have b_r := Lib.hid b2
  clear b2
  have b2 := obj_below hbn b_a.out (obj_lt b_a.out)
  clear b_a h_a0 f_a0
  have h_a0 : w4.cell? ⟨w2.heap.size, 0, none⟩ = some (.slice none 0 0) := by simp [World.cell?, b2]
  have f_a0 : w4.frozen? ⟨w2.heap.size, 0, none⟩ = false := by simp [World.frozen?, b2]
  have b_a := Lib.hid b2
  clear b2
  clear hbn
  go_wp2_with fail
  obtain ⟨sq, hsq⟩ : ∃ sq : Nat → Nat → Int, (fun j : Nat => offT true 0 l j N) = sq := ⟨_, rfl⟩
  have HSQ := Lib.hid hsq
  clear hsq
  have hI0 : SI w (w4.heap.size + 2) w2.heap.size w3.heap.size w.heap.size #[.bool true, .int .u64 0, .slice A l.length c] sq 0 (.slice none 0 0) [] (fun _ => 0) (fun _ => 0) w4 := ⟨k_w_w4, b_a.out, b_r.out, HBD.out, SR.start _ _ _ _⟩
  have HI0 := Lib.hid hI0
  clear hI0 h_a0 f_a0 h_r0 f_r0 b_a b_r
  refine (wpIn_wide (n := 5)).1 ?_
  refine wpIn_rangeD rfl (by omega) (gf := 32) (lb := #[.pointer (some ⟨w3.heap.size + 1, 0, none⟩), .pointer (some ⟨w3.heap.size, 0, none⟩)]) rfl trivial (enters_of Try.func32 (by kernel_rfl) rfl)
    (all_iter _ w3.heap.size (w3.heap.size + 1) true 0 A c l N N w w4 (by omega) (by omega) k_w_w4 KA.out HU.out (by omega) HBD.out HBT.out)
    (fun k h => h.elim) (fun h k => Only.trans h k) (fun W l o o' hl _ _ => KpB.putObj (by omega) (by omega) (by omega)) XS.putObj
    (fun xs A B h _ => h) (fun xs A B h _ => h) (fun _ => rfl)
    (fun pre W => ∃ v xs lo hi, SI w (w4.heap.size + 2) w2.heap.size w3.heap.size w.heap.size #[.bool true, .int .u64 0, .slice A l.length c] sq pre.length v xs lo hi W)
    (fun c pre W => False)
    (fun pre A B h hs => by obtain ⟨v, xs, lo, hi, h⟩ := h; exact ⟨v, xs, lo, hi, h.step hs (by omega)⟩) (fun c pre A B h hs => h) ⟨_, _, _, _, HI0.out⟩ ?a1 ?assign ?body ?done ?stop
  case assign =>
    intro l x W K hK
    gi_wp2
    exact hK
  case body =>
    clear HI0 HBD HBT k_w_w4
    rintro l2 pre ⟨x1, T, a⟩ A0 W _ hlen hsz ⟨v, xs, lo, hi, hI0⟩ hst ⟨hx1, lo', hi', hlo, hhi, hat⟩
    have hIW := hI0.step hst (by omega)
    obtain ⟨r1, r2, r3, r4, r5⟩ := hIW
    obtain ⟨q1, q2, q3, q4, q5⟩ := hI0
    simp only at hx1 hat
    subst hx1
    obtain ⟨A1, c1, rfl⟩ := r5.shape
    have hsn : sq pre.length = offT true 0 l pre.length N := by rw [← HSQ.out]
    rw [← hsn] at hat
    have hca : W.cell? ⟨w2.heap.size, 0, none⟩ = some (.slice A1 pre.length c1) := by simp [World.cell?, r2]
    have R1 := Lib.hid r1
    have R2 := Lib.hid r2
    have R3 := Lib.hid r3
    have R4 := Lib.hid r4
    have R5 := Lib.hid r5
    have Q5 := Lib.hid q5
    have HAT := Lib.hid hat
    have hpl : pre.length < 60 := by omega
    clear r1 r2 r3 r4 r5 q1 q2 q3 q4 q5 hat hsn hst
    have hne : ¬ OwnB (.slice A1 pre.length c1) w2.heap.size := fun h => by have := own_base R5.out.row _ h; omega
    have HW1 := Lib.hid (obj_below ((Below.refl W.heap.size W).alloc (Nat.le_refl _) (.cells #[.iface T (.pointer (some a))] 28)) R2.out (obj_lt R2.out))
    have hbz : w4.heap.size + 2 ≤ (W.alloc (.cells #[.iface T (.pointer (some a))] 28)).heap.size := by rw [World.size_alloc]; omega
    gi_wp2_with (gi_at_builtin; refine wpListIn_app _ rfl (.tmp 31) (.tmp 33) 57 28 rfl .nilIface 1 16 Try.underlying57 info_src rfl (by omega) (by omega) (w4.heap.size + 2) (.slice A1 pre.length c1) pre.length xs rfl (some ⟨W.heap.size, 0, none⟩) 1 1 rfl (own_alloc1 R5.out.row _) hbz [.iface T (.pointer (some a))] rfl (RdC.one _ _ _) (one_iface T a) (by omega) ?_; intro v1 W2 hrow hob hv hnil; obtain ⟨A2, c2, hv2, _⟩ := own_shape hrow; subst hv2; have HROW := Lib.hid hrow; have HOB := Lib.hid hob; have HV := Lib.hid hv; have hfz : W2.frozen? ⟨w2.heap.size, 0, none⟩ = false := free_blk (hob.obj HW1.out hne) 0; have hcw : W2.cell? ⟨w2.heap.size, 0, none⟩ = some (.slice A1 pre.length c1) := cell_blk (cs := [_]) (hob.obj HW1.out hne) 0; clear hrow hob hv hnil)
    obtain ⟨WE, hWE⟩ : ∃ WE, W2.setCell ⟨w2.heap.size, 0, none⟩ (.slice A2 (pre.length + 1) c2) = WE := ⟨_, rfl⟩
    rw [hWE]
    have hW : Only (fun _ => False) W (W.alloc (.cells #[.iface T (.pointer (some a))] 28)) := Only.of_below (below_alloc1 (Below.refl _ _) _)
    have hSR2 := SR.add R5.out Q5.out hsz.1 HAT.out hlo hhi hW HROW.out HOB.out HV.out
    have hset : Only (fun b => b = w2.heap.size) W2 WE := by rw [← hWE]; exact only_set _ _ _ _
    have hSR3 := hSR2.only hset fun b hb1 _ h => by omega
    have hall : Only (fun b => OwnB (.slice A1 pre.length c1) b ∨ b = w2.heap.size) W WE := ((hW.mono fun _ _ h => h.elim).trans (HOB.out.mono fun _ _ h => .inl h)).trans (hset.mono fun _ _ h => .inr h)
    have hkf : KeepsFrom w4.heap.size W WE := ⟨hall.size, fun k o hk hh hc => hall.obj hh fun h => by
      rcases h with h | h
      · obtain ⟨cs, t, f, hcs⟩ := own_cells R5.out.row k h
        rw [hh] at hcs
        injection hcs with hcs
        rw [hcs] at hc
        cases hc
      · omega⟩
    have hob5 : ∀ b, OwnB (.slice A1 pre.length c1) b → w4.heap.size + 2 ≤ b := fun b h => own_base R5.out.row b h
    refine ⟨hkf, hall.mono fun k _ h he => ?_, ?_⟩
    · rcases h with h | h
      · have := hob5 k h
        rcases he with he | he | he <;> omega
      · rcases he with he | he | he <;> omega
    · have hlen : (pre ++ [(((pre.length : Nat) : Int), T, a)]).length = pre.length + 1 := by simp
      show ∃ v xs lo hi, SI w _ _ _ _ _ sq (pre ++ [(((pre.length : Nat) : Int), T, a)]).length v xs lo hi WE
      rw [hlen]
      refine ⟨_, _, _, _, R1.out.trans (hall.below R1.out.size fun k hk h => ?_), ?_, hall.obj R3.out fun h => ?_, hall.obj R4.out fun h => ?_, hSR3⟩
      · rcases h with h | h
        · have := hob5 k h; omega
        · omega
      · rw [← hWE]
        exact set_blk (cs := [_]) (HOB.out.obj HW1.out hne) 0 _
      · rcases h with h | h
        · have := hob5 _ h; omega
        · omega
      · rcases h with h | h
        · have := hob5 _ h; omega
        · omega
  case done =>
    rintro _ ps W rfl hxs ⟨v, xs, lo, hi, r1, r2, r3, r4, r5⟩ hK
    clear HI0 HBD HBT k_w_w4
    rw [hxs] at r5
    obtain ⟨A1, c1, rfl⟩ := r5.shape
    have hca : W.cell? ⟨w2.heap.size, 0, none⟩ = some (.slice A1 N c1) := by simp [World.cell?, r2]
    have R1 := Lib.hid r1
    have R2 := Lib.hid r2
    have R3 := Lib.hid r3
    have R4 := Lib.hid r4
    have R5 := Lib.hid r5
    have HK := Lib.hid hK
    have hcr : W.cell? ⟨w.heap.size, 0, none⟩ = some (.bool false) := by simp [World.cell?, r3]
    have hfr : W.frozen? ⟨w.heap.size, 0, none⟩ = false := by simp [World.frozen?, r3]
    clear r1 r2 r3 r4 r5 hK hxs
    go_wp2_with fail
    have hJ0 : LJ w (w4.heap.size + 2) w2.heap.size w3.heap.size w.heap.size w4.heap.size #[.bool true, .int .u64 0, .slice A l.length c] sq (fun q => cnt 0 q N) N (.slice A1 N c1) xs lo hi W := ⟨R1.out, R2.out, R3.out, R4.out, HK.out, R5.out.congr fun q hq => cnt_zero hq⟩
    have HJ0 := Lib.hid hJ0
    clear hJ0 R1 R2 R3 R4 R5 HK hca hcr hfr
    go_loopg [8] l.length (fun kq v8 w' => kq ≤ l.length ∧ v8 = .int .i64 ((l.length - kq : Nat) : Int) ∧ LJ w (w4.heap.size + 2) w2.heap.size w3.heap.size w.heap.size w4.heap.size #[.bool true, .int .u64 0, .slice A l.length c] sq (fun q => cnt (l.length - kq) q N) N (.slice A1 N c1) xs lo hi w')
    case atStart => exact ⟨Nat.le_refl _, by simp, by rw [Nat.sub_self]; exact HJ0.out⟩
    case round =>
      clear HJ0
      obtain ⟨hk, rfl, hJ⟩ := hrel
      have HJ := Lib.hid hJ
      clear hJ
      cases gk with
      | zero =>
        simp only [Nat.sub_zero] at HJ ⊢
        have hJ1 : LJ w (w4.heap.size + 2) w2.heap.size w3.heap.size w.heap.size w4.heap.size #[.bool true, .int .u64 0, .slice A l.length c] sq (fun q => cnt l.length q N + if q < 0 then 1 else 0) N (.slice A1 N c1) xs lo hi wr := HJ.out.congr fun q hq => by simp
        have HJ1 := Lib.hid hJ1
        clear hJ1 HJ
        go_wp2_with fail
        go_loopg [9] N (fun kq v9 w' => kq ≤ N ∧ v9 = .int .i64 ((N - kq : Nat) : Int) ∧ LJ w (w4.heap.size + 2) w2.heap.size w3.heap.size w.heap.size w4.heap.size #[.bool true, .int .u64 0, .slice A l.length c] sq (fun q => cnt l.length q N + if q < N - kq then 1 else 0) N (.slice A1 N c1) xs lo hi w')
        case atStart => exact ⟨Nat.le_refl _, by simp, by rw [Nat.sub_self]; exact HJ1.out⟩
        case round =>
          clear HJ1
          obtain ⟨hk, rfl, hJ⟩ := hrel
          have HJ := Lib.hid hJ
          clear hJ
          cases gk with
          | zero =>
            simp only [Nat.sub_zero] at HJ ⊢
            have hJz := HJ.out
            have hcr : wr.cell? ⟨w.heap.size, 0, none⟩ = some (.bool false) := by have h := hJz.boxR; simp [World.cell?, h]
            have hfr : wr.frozen? ⟨w.heap.size, 0, none⟩ = false := by have h := hJz.boxR; simp [World.frozen?, h]
            have hF := set_other hJz.fin 0 (.bool true) (by omega : w4.heap.size ≠ w.heap.size)
            have hR := set_blk (cs := [_]) hJz.boxR 0 (.bool true)
            have hRB : Below w.heap.size w (wr.setCell ⟨w.heap.size, 0, none⟩ (.bool true)) := below_set hJz.bel (by omega) _ _
            have hF1 := Lib.hid hF
            have hR1 := Lib.hid hR
            clear hJz hF hR
            go_wp2_with fail
            exact ⟨by simp, .inl ⟨_, _, rfl, run_takeDeferred hF1.out, _, results_boxed rfl rfl _ _ true rfl (by
              have h := (World.putObj_heap_other (o := .deferred none) (by omega : w.heap.size ≠ w4.heap.size)).trans hR1.out
              simp only [World.cell?, h]
              rfl), rfl, below_putObj2 hRB (by omega) _⟩⟩
          | succ k1 =>
            obtain ⟨k, hi'⟩ : ∃ k, N - (k1 + 1) = k := ⟨_, rfl⟩
            have hi2 : N - k1 = k + 1 := by omega
            have hkN : k < N := by omega
            rw [hi'] at HJ ⊢
            have HI := Lib.hid hi2
            clear hi' hi2
            obtain ⟨ad, c9, T, a, hv9, hc9, hx9, hat⟩ := HJ.out.sr.read k hkN
            injection hv9 with e1 e2 e3
            subst e1 e3
            obtain ⟨T, a, e1, hT⟩ := hat.shape
            injection e1 with e1 e2
            injection e2 with e2
            injection e2 with e2
            subst e1 e2
            simp only [Nat.lt_irrefl, ↓reduceIte, Nat.add_zero] at hat
            have mt := hT.meth a
            have ct := hT.call (.pointer (some a))
            have hq : sq k (cnt l.length k N) = 0 := by rw [← HSQ.out]; exact offT_end 0 hkN
            have hkl : cnt l.length k N ≤ 500 := Nat.le_trans (cnt_le l.length k N hkN) h0
            have HQ := Lib.hid hq
            have HAT := Lib.hid hat
            have HX9 := Lib.hid hx9
            have HKL := Lib.hid hkl
            have hca : wr.cell? ⟨w2.heap.size, 0, none⟩ = some (.slice (some ad) N c1) := by have h := HJ.out.boxA; simp [World.cell?, h]
            have bk : (k : Int) < (N : Int) := by omega
            clear hq hat hx9 hkl
            go_wp2_with fail
            refine (HAT.out.draw_calls (by have := HKL.out; omega)).mono ?_
            rintro e w8 ⟨he, hat8, ho8⟩
            rw [HQ.out] at he
            subst he
            have hJ8 := HJ.out.draw (by omega) hkN HX9.out (by simp only [Nat.lt_irrefl, ↓reduceIte, Nat.add_zero]; exact hat8) ho8
            have HJ8 := Lib.hid hJ8
            clear hJ8 hat8 ho8
            go_wp2_with fail
            go_roundg k1
            case measure => omega
            case rel =>
              refine ⟨by omega, by rw [HI.out]; rfl, ?_⟩
              rw [HI.out]
              exact HJ8.out.congr fun q hq => by
                by_cases h : q = k
                · subst h; simp
                · rw [if_neg h]
                  by_cases h2 : q < k
                  · rw [if_pos h2, if_pos (by omega)]
                  · rw [if_neg h2, if_neg (by omega)]
      | succ k1 =>
        obtain ⟨i, hi'⟩ : ∃ i, l.length - (k1 + 1) = i := ⟨_, rfl⟩
        have hi2 : l.length - k1 = i + 1 := by omega
        have hlt : i < l.length := by omega
        rw [hi'] at HJ ⊢
        have HI := Lib.hid hi2
        clear hi' hi2
        obtain ⟨k, hkk⟩ : ∃ k, i % N = k := ⟨_, rfl⟩
        have hkN : k < N := by rw [← hkk]; exact Nat.mod_lt i (by omega)
        have hmod : (i : Int).tmod (N : Int) = (k : Int) := by rw [Int.tmod_eq_emod_of_nonneg (by omega), ← hkk]; rfl
        have hwk : IntKind.i64.wrap (k : Int) = (k : Int) := by rw [i64_w]; exact wrap64_id _ (by omega)
        have hN0 : ¬ (N : Int) = 0 := by omega
        have hN00 : ¬ N = 0 := by omega
        have hN01 : ((N : Int) == 0) = false := by simp; omega
        have bk0 : (0 : Int) ≤ (k : Int) := by omega
        obtain ⟨ad, c9, T, a, hv9, hc9, hx9, hat⟩ := HJ.out.sr.read k hkN
        injection hv9 with e1 e2 e3
        subst e1 e3
        obtain ⟨T, a, e1, hT⟩ := hat.shape
        injection e1 with e1 e2
        injection e2 with e2
        injection e2 with e2
        subst e1 e2
        have mt := hT.meth a
        have ct := hT.call (.pointer (some a))
        obtain ⟨adL, hAL, hcl⟩ := KA.out.2 i hlt
        subst hAL
        have hcl0 : wr.cell? (adL.add i) = _ := cell_below HJ.out.bel hcl (World.block_lt_of_cell? _ _ hcl)
        obtain ⟨x, hx⟩ : ∃ x, l.getD i 0 = x := ⟨_, rfl⟩
        rw [hx] at hcl hcl0
        have hq : sq k (cnt i k N) = x := by rw [← HSQ.out, ← hx, ← hkk]; exact offT_at 0 hlt (by omega)
        have hkl : cnt i k N ≤ 500 := Nat.le_trans (cnt_le i k N hkN) (by omega)
        have HQ := Lib.hid hq
        have HAT := Lib.hid hat
        have HX9 := Lib.hid hx9
        have HKL := Lib.hid hkl
        have HKK := Lib.hid hkk
        have HCL := Lib.hid hcl
        have hca : wr.cell? ⟨w2.heap.size, 0, none⟩ = some (.slice (some ad) N c1) := by have h := HJ.out.boxA; simp [World.cell?, h]
        have hcaB : w2.heap.size < wr.heap.size := obj_lt HJ.out.boxA
        have bk : (k : Int) < (N : Int) := by omega
        have bl : (i : Int) < (l.length : Int) := by omega
        have tqq : (x != x) = false := by simp
        have hrb : (ad.add k).block < wr.heap.size := World.block_lt_of_cell? _ _ hc9
        have hlb : (adL.add i).block < wr.heap.size := World.block_lt_of_cell? _ _ hcl0
        clear hq hat hx9 hkl hkk hcl
        go_wp2_with fail
        go_region_held3 (fun w' => w'.cell? ⟨w2.heap.size, 0, none⟩ = some (.slice (some ad) N c1) ∧ w'.cell? (ad.add k) = some (.iface T (.pointer (some a))) ∧ w'.cell? (adL.add i) = some (.int .u64 x))
          (first
            | exact ⟨cell_below (B := w8.heap.size) (w := w8) (by repeat (first | assumption | exact Below.refl _ _ | apply below_drew1 | apply below_alloc1)) hca8 (World.block_lt_of_cell? _ _ hca8), cell_below (B := w8.heap.size) (w := w8) (by repeat (first | assumption | exact Below.refl _ _ | apply below_drew1 | apply below_alloc1)) hcb8 (World.block_lt_of_cell? _ _ hcb8), cell_below (B := w8.heap.size) (w := w8) (by repeat (first | assumption | exact Below.refl _ _ | apply below_drew1 | apply below_alloc1)) hcl8 (World.block_lt_of_cell? _ _ hcl8)⟩
            | exact ⟨cell_below (B := wr.heap.size) (w := wr) (by repeat (first | assumption | exact Below.refl _ _ | apply below_drew1 | apply below_alloc1)) hca hcaB, cell_below (B := wr.heap.size) (w := wr) (by repeat (first | assumption | exact Below.refl _ _ | apply below_drew1 | apply below_alloc1)) hc9 hrb, cell_below (B := wr.heap.size) (w := wr) (by repeat (first | assumption | exact Below.refl _ _ | apply below_drew1 | apply below_alloc1)) hcl0 hlb⟩
            | go_keep)
          (first
            | (go_split_ands; (with_reducible refine ((HAT.out.below (B := wr.heap.size) (by repeat (first | assumption | exact Below.refl _ _ | apply below_drew1 | apply below_alloc1)) (HJ.out.sr.bnd k hkN).2).draw_calls (by have := HKL.out; omega)).mono ?_); rintro e w8 ⟨he, hat8, ho8⟩; rw [HQ.out] at he; subst he; have hon8 := (Only.of_below (S := Within (lo k) (hi k)) (w := wr) (by repeat (first | assumption | exact Below.refl _ _ | apply below_drew1 | apply below_alloc1))).trans ho8; have hJ8 := HJ.out.draw (by omega) hkN HX9.out hat8 hon8; have HJ8 := Lib.hid hJ8; have hca8 : w8.cell? ⟨w2.heap.size, 0, none⟩ = some (.slice (some ad) N c1) := (by have h := hJ8.boxA; simp [World.cell?, h]); have hcb8 : w8.cell? (ad.add k) = some (.iface T (.pointer (some a))) := (by obtain ⟨ad8, c8, T8, a8, hv8, hc8, hx8, _⟩ := hJ8.sr.read k hkN; injection hv8 with e1 e2 e3; injection e1 with e1; rw [← e1] at hc8; rw [HX9.out] at hx8; injection hx8 with hx8; rw [← hx8] at hc8; exact hc8); have hcl8 : w8.cell? (adL.add i) = some (.int .u64 x) := cell_below hJ8.bel HCL.out (World.block_lt_of_cell? _ _ HCL.out); clear hat8 ho8 hon8 hJ8)
          )
        go_wp2_with fail
        go_roundg k1
        case measure => omega
        case rel =>
          refine ⟨by omega, by rw [HI.out]; rfl, ?_⟩
          rw [HI.out]
          exact (HJ8.out.keep (by repeat (first | assumption | exact Below.refl _ _ | apply below_drew1 | apply below_alloc1))).congr fun q hq => by
            by_cases h : q = k
            · rw [if_pos h, h, (cnt_yes hkN HKK.out).1]
            · rw [if_neg h]
              exact cnt_no hq (by rw [HKK.out]; exact fun e => h e.symm)
  case stop =>
    rintro b cc pre W _ _ h
    exact h.elim
end Go.Proofs.Ytmcbgogeemnjnaa
