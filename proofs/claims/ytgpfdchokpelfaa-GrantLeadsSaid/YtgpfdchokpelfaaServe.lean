/- Which states serve. -/
import Derived.Test.YtgpfdchokpelfaaClk
namespace Go.Proofs.Ytgpfdchokpelfaa
open Go.ChangeShapes Go.WideShapes Go.ChangeAt Go.RowKit
set_option linter.unusedVariables false

theorem is_any (s : Int) (w : World) : Calls Try.prog 35 #[.int .i64 s] w fun e w' => e = .returned (.bool (decide (0 ≤ s ∧ s ≤ 8))) ∧ w = w' := by
  go_enter Try.func35, Try.ntmps35
  go_wp2
  all_goals
    go_ret
    exact ⟨ret_bool (by grind), rfl⟩
def serveV (o : Int) : Bool := decide (1 ≤ o ∧ o ≤ 3)
theorem in14 (o : Int) (w : World) : Calls Try.prog 34 #[.int .i64 o, .int .i64 14] w fun e w' => e = .returned (.bool (serveV o)) ∧ w = w' := by
  by_cases h : 0 ≤ o ∧ o ≤ 8
  · have h9 : o = 0 ∨ o = 1 ∨ o = 2 ∨ o = 3 ∨ o = 4 ∨ o = 5 ∨ o = 6 ∨ o = 7 ∨ o = 8 := by omega
    clear h
    rcases h9 with rfl | rfl | rfl | rfl | rfl | rfl | rfl | rfl | rfl
    all_goals
      go_enter Try.func34, Try.ntmps34
      go_wp2_with (go_at_call 35; refine (is_any _ _).mono ?_; rintro e w1 ⟨rfl, rfl⟩)
      go_ret
      exact ⟨rfl, rfl⟩
  · have hv : serveV o = false := by unfold serveV; rw [decide_eq_false]; omega
    have hd : decide (0 ≤ o ∧ o ≤ 8) = false := decide_eq_false h
    rw [hv]
    clear hv h
    go_enter Try.func34, Try.ntmps34
    go_wp2_with (go_at_call 35; refine (is_any _ _).mono ?_; rintro e w1 ⟨rfl, rfl⟩)
    go_ret
    exact ⟨rfl, rfl⟩
theorem serves_any (o : Int) (w : World) : Calls Try.prog 25 #[.int .i64 o] w fun e w' => e = .returned (.bool (serveV o)) ∧ w = w' := by
  go_enter Try.func25, Try.ntmps25
  go_wp2_with (go_at_call 34; refine (in14 _ _).mono ?_; rintro e w1 ⟨rfl, rfl⟩)
  go_ret
  exact ⟨rfl, rfl⟩
theorem rserves_any (o : Int) (w : World) : Calls Try.prog 28 #[.int .i64 o] w fun e w' => e = .returned (.bool (serveV o)) ∧ w = w' := by
  by_cases h1 : o = 1
  · subst h1
    go_enter Try.func28, Try.ntmps28
    go_wp2
    go_ret
    exact ⟨rfl, rfl⟩
  by_cases h2 : o = 2
  · subst h2
    go_enter Try.func28, Try.ntmps28
    go_wp2
    go_ret
    exact ⟨rfl, rfl⟩
  · have hv : serveV o = decide (o = 3) := by unfold serveV; rw [decide_eq_decide]; omega
    go_enter Try.func28, Try.ntmps28
    go_wp2
    all_goals
      go_ret
      exact ⟨ret_bool (by rw [hv]; grind), rfl⟩

end Go.Proofs.Ytgpfdchokpelfaa
