/- What is told of an address: its version; whether it may be so. -/
import Derived.Test.YtkpgchhbeebgkaaRgr
import Derived.Test.YtkpgchhbeebgkaaClk
namespace Go.Proofs.Ytkpgchhbeebgkaa
open Go.ChangeShapes Go.WideShapes Go.ChangeAt Go.RowKit
set_option linter.unusedVariables false
set_option linter.unusedSimpArgs false

/-- The version of what is told. -/
def verV (mb mp mt : Int) : Int := if mb = 3 ∨ mb = 4 then mp else mt
def FairP (la lb : Int) (lc : ByteArray) (lu lk lt lz lv m0 ma mb : Int) (mc : ByteArray) (mp mt : Int) : Prop :=
  RightP lb lc lu lk lt lz lv ∧ m0 = 2 ∧ ma = la ∧ okT (verV mb mp mt) ∧ (((mb = 2 ∨ mb = 3 ∨ mb = 4) ∧ 1 ≤ mc.size ∧ mc.size ≤ 32) ∨ (mb = 0 ∨ mb = 1 ∨ mb = 5))
instance (la lb : Int) (lc : ByteArray) (lu lk lt lz lv m0 ma mb : Int) (mc : ByteArray) (mp mt : Int) : Decidable (FairP la lb lc lu lk lt lz lv m0 ma mb mc mp mt) := by unfold FairP; infer_instance

set_option maxRecDepth 100000 in
theorem ver_any (m0 m1 m2 m3 m4 ma mb : Int) (mc : ByteArray) (mp mt : Int) (mo : Bool) (w : World) : Calls Try.prog 15 #[.agg #[.int .i64 m0, .int .i64 m1, .int .i64 m2, .int .i64 m3, .int .i64 m4, .int .u32 ma, .int .i64 mb, .string mc, .int .i64 mp, .int .i64 mt, .bool mo]] w fun e w' => e = .returned (.int .i64 (verV mb mp mt)) ∧ Below w.heap.size w w' := by
  by_cases h3 : mb = 3
  · subst h3
    go_enter Try.func15, Try.ntmps15
    go_wp2
    go_ret
    exact ⟨rfl, low0 w _⟩
  · by_cases h4 : mb = 4
    · subst h4
      go_enter Try.func15, Try.ntmps15
      go_wp2
      go_ret
      exact ⟨rfl, low0 w _⟩
    · have k3 : (mb == 3) = false := beq_eq_false_iff_ne.2 h3
      have k4 : (mb == 4) = false := beq_eq_false_iff_ne.2 h4
      have HV := Lib.hid (show verV mb mp mt = mt by unfold verV; rw [if_neg (by omega)])
      clear h3 h4
      go_enter Try.func15, Try.ntmps15
      go_wp2
      go_ret
      exact ⟨ret_int HV.out.symm, low0 w _⟩

set_option maxRecDepth 100000 in
theorem rver_any (m0 m1 m2 m3 m4 ma mb : Int) (mc : ByteArray) (mp mt : Int) (mo : Bool) (w : World) : Calls Try.prog 28 #[.agg #[.int .i64 m0, .int .i64 m1, .int .i64 m2, .int .i64 m3, .int .i64 m4, .int .u32 ma, .int .i64 mb, .string mc, .int .i64 mp, .int .i64 mt, .bool mo]] w fun e w' => e = .returned (.int .i64 (verV mb mp mt)) ∧ Below w.heap.size w w' := by
  by_cases h3 : mb = 3
  · subst h3
    go_enter Try.func28, Try.ntmps28
    go_wp2
    go_ret
    exact ⟨rfl, low0 w _⟩
  · by_cases h4 : mb = 4
    · subst h4
      go_enter Try.func28, Try.ntmps28
      go_wp2
      go_ret
      exact ⟨rfl, low0 w _⟩
    · have k3 : (mb == 3) = false := beq_eq_false_iff_ne.2 h3
      have k4 : (mb == 4) = false := beq_eq_false_iff_ne.2 h4
      have HV := Lib.hid (show verV mb mp mt = mt by unfold verV; rw [if_neg (by omega)])
      clear h3 h4
      go_enter Try.func28, Try.ntmps28
      go_wp2
      go_ret
      exact ⟨ret_int HV.out.symm, low0 w _⟩

theorem rheld_any (x : Int) (w : World) : Calls Try.prog 29 #[.int .i64 x] w fun e w' => e = .returned (.bool (decide (2 ≤ x ∧ x ≤ 4))) ∧ w = w' := by
  go_enter Try.func29, Try.ntmps29
  go_wp2
  all_goals
    go_ret
    exact ⟨ret_bool (by grind), rfl⟩

end Go.Proofs.Ytkpgchhbeebgkaa
