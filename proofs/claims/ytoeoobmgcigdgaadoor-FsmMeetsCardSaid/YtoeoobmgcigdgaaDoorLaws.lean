/- The walks of the laws of fsm. -/
import Derived.Test.YtoeoobmgcigdgaaDoorName
namespace Go.Proofs.YtoeoobmgcigdgaaDoor
open Go.ChangeShapes Go.WideShapes Go.ChangeAt Go.RowKit
set_option linter.unusedVariables false

theorem walk_FsmNexts (a0 : Int) (a1 : Int) (a2 : Int) (W : World) (w0 : (Lit.int .i64 a0).wf = true) (w1 : (Lit.int .i64 a1).wf = true) (w2 : (Lit.int .i64 a2).wf = true) (hR : Ready W) :
    Calls Tryd.prog 3 #[.int .i64 a0, .int .i64 a1, .int .i64 a2] W fun e w' => e = .returned (.bool true) ∧ Below W.heap.size W w' := by
  have h0 := Ext.refl hR
  have E := next_eq a0 a1 a2
  go_enter Tryd.func3, Tryd.ntmps3
  go_wp2_with (first | (go_at_call 8; refine (awake_call (by repeat (first | assumption | refine Ext.drew ?_ | refine Ext.alloc ?_ _ | refine Ext.setCell ?_ (by simp) _))).mono ?_; rintro e' w' ⟨rfl, hx⟩) | (go_at_call 9; refine (next_call (by repeat (first | assumption | refine Ext.drew ?_ | refine Ext.alloc ?_ _ | refine Ext.setCell ?_ (by simp) _)) _ _ _).mono ?_; rintro e' w' ⟨rfl, hx⟩) | (go_at_call 10; refine (rnext_any _ _ _ _).mono ?_; rintro e w' ⟨rfl, rfl⟩))
  go_ret
  exact ⟨rfl, hx.1⟩

theorem serves_eq (s : Int) : inV s 14 = (decide (s = 1) || decide (s = 2) || decide (s = 3)) := by
  by_cases h : 0 ≤ s ∧ s ≤ 8
  · have : s = 0 ∨ s = 1 ∨ s = 2 ∨ s = 3 ∨ s = 4 ∨ s = 5 ∨ s = 6 ∨ s = 7 ∨ s = 8 := by omega
    rcases this with rfl | rfl | rfl | rfl | rfl | rfl | rfl | rfl | rfl <;> decide
  · unfold inV
    have h1 : decide (0 ≤ s ∧ s ≤ 8) = false := by rw [decide_eq_false_iff_not]; exact h
    have h2 : decide (s = 1) = false := by rw [decide_eq_false_iff_not]; omega
    have h3 : decide (s = 2) = false := by rw [decide_eq_false_iff_not]; omega
    have h4 : decide (s = 3) = false := by rw [decide_eq_false_iff_not]; omega
    rw [h1, h2, h3, h4]
    rfl

theorem walk_FsmTells (a0 : Int) (W : World) (w0 : (Lit.int .i64 a0).wf = true) (hR : Ready W) :
    Calls Tryd.prog 6 #[.int .i64 a0] W fun e w' => e = .returned (.bool true) ∧ Below W.heap.size W w' := by
  have h0 := Ext.refl hR
  have E := serves_eq a0
  go_enter Tryd.func6, Tryd.ntmps6
  go_wp2_with (first | (go_at_call 8; refine (awake_call (by repeat (first | assumption | refine Ext.drew ?_ | refine Ext.alloc ?_ _ | refine Ext.setCell ?_ (by simp) _))).mono ?_; rintro e' w' ⟨rfl, hx⟩) | (go_at_call 16; refine (name_call (by repeat (first | assumption | refine Ext.drew ?_ | refine Ext.alloc ?_ _ | refine Ext.setCell ?_ (by simp) _)) _).mono ?_; rintro e' w' ⟨rfl, rfl⟩) | (go_at_call 12; refine (serves_any _ _).mono ?_; rintro e w' ⟨rfl, rfl⟩) | (go_at_call 13; refine (rserves_any _ _).mono ?_; rintro e w' ⟨rfl, rfl⟩) | (go_at_call 14; refine (restart_any _ _).mono ?_; rintro e w' ⟨rfl, rfl⟩) | (go_at_call 15; refine (rrestart_any _ _).mono ?_; rintro e w' ⟨rfl, rfl⟩) | (go_at_call 17; refine (rname_any _ _).mono ?_; rintro e w' ⟨rfl, rfl⟩))
  all_goals
    go_ret
    exact ⟨rfl, hx.1⟩

end Go.Proofs.YtoeoobmgcigdgaaDoor
