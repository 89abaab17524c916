/-
  layout.Size, record.Size. No condition.
-/
import Derived.Test.YticdmglondpgaaaGreatQ18

namespace Go.Proofs.YticdmglondpgaaaGreat
open Go.RowKit
set_option linter.unusedVariables false
set_option maxRecDepth 100000
set_option linter.unusedSimpArgs false

attribute [local go_sem] Oper.semAt_some

theorem Within_calls (n : Int) (w : World) : Calls Tryz.prog 163 #[.int .i64 n] w fun e w' => (∃ s, e = .returned (.int .i64 s)) ∧ w' = w := by
  go_enter Tryz.func163, Tryz.ntmps163
  by_cases h1 : n < 0
  · have h1' : decide (n < 0) = true := decide_eq_true h1
    go_wp2_with fail
    go_ret
    exact ⟨⟨_, rfl⟩, rfl⟩
  have h1' : decide (n < 0) = false := decide_eq_false h1
  by_cases h2 : 1073741824 < n
  · have h2' : decide (1073741824 < n) = true := decide_eq_true h2
    go_wp2_with fail
    go_ret
    exact ⟨⟨_, rfl⟩, rfl⟩
  have h2' : decide (1073741824 < n) = false := decide_eq_false h2
  go_wp2_with fail
  go_ret
  exact ⟨⟨_, rfl⟩, rfl⟩
theorem RSize_calls (n : Int) (w : World) : Calls Tryz.prog 164 #[.int .i64 n] w fun e w' => (∃ s, e = .returned (.int .i64 s)) ∧ w' = w := by
  go_enter Tryz.func164, Tryz.ntmps164
  by_cases h1 : n < 1
  · have h1' : decide (n < 1) = true := decide_eq_true h1
    go_wp2_with fail
    go_ret
    exact ⟨⟨_, rfl⟩, rfl⟩
  have h1' : decide (n < 1) = false := decide_eq_false h1
  by_cases h2 : 1024 < n
  · have h2' : decide (1024 < n) = true := decide_eq_true h2
    go_wp2_with fail
    go_ret
    exact ⟨⟨_, rfl⟩, rfl⟩
  have h2' : decide (1024 < n) = false := decide_eq_false h2
  go_wp2_with fail
  go_ret
  exact ⟨⟨_, rfl⟩, rfl⟩
theorem LSize_calls (a b c n : Int) (w : World) : Calls Tryz.prog 126 #[.int .i64 a, .int .i64 b, .int .i64 c, .int .i64 n] w fun e w' => (∃ s, e = .returned (.int .i64 s)) ∧ w' = w := by
  have HW := Lib.hid (fun n => Within_calls n w)
  have HR := Lib.hid (fun n => RSize_calls n w)
  go_enter Tryz.func126, Tryz.ntmps126
  go_wp2_with fail
  refine (HW.out _).mono ?_
  rintro e w1 ⟨⟨s1, he⟩, hw⟩
  subst he hw
  go_wp2_with fail
  refine (HW.out _).mono ?_
  rintro e w1 ⟨⟨s2, he⟩, hw⟩
  subst he hw
  go_wp2_with fail
  refine (HW.out _).mono ?_
  rintro e w1 ⟨⟨s3, he⟩, hw⟩
  subst he hw
  go_wp2_with fail
  refine (HW.out _).mono ?_
  rintro e w1 ⟨⟨s4, he⟩, hw⟩
  subst he hw
  go_wp2_with fail
  refine (HR.out _).mono ?_
  rintro e w1 ⟨⟨s5, he⟩, hw⟩
  subst he hw
  go_wp2_with fail
  go_ret
  exact ⟨⟨_, rfl⟩, rfl⟩
end Go.Proofs.YticdmglondpgaaaGreat
