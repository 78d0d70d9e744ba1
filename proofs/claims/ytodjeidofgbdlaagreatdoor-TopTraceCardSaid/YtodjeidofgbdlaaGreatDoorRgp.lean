/- Addresses as text, by the reference; which promises may be. -/
import Derived.Test.YtodjeidofgbdlaaGreatDoorTx
namespace Go.Proofs.YtodjeidofgbdlaaGreatDoor
open Go.ChangeShapes Go.WideShapes Go.ChangeAt Go.RowKit
set_option linter.unusedVariables false
set_option linter.unusedSimpArgs false

theorem str_nil_iff {s : ByteArray} : s.toList = [] ↔ s.size = 0 := by
  rw [Lib.toList_data, ← List.length_eq_zero_iff, Array.length_toList]
  exact Iff.rfl

set_option maxRecDepth 100000 in
theorem tright_any (ps pa : Int) (pc : ByteArray) (pf pu : Int) (w : World) : Calls Tryz.prog 18 #[.agg #[.int .i64 ps, .int .u32 pa, .string pc, .int .i64 pf, .int .i64 pu]] w fun e w' => e = .returned (.bool (decide (rightPr ⟨ps, pa, pc, pf, pu⟩))) ∧ Below w.heap.size w w' := by
  go_enter Tryz.func18, Tryz.ntmps18
  go_wp2
  all_goals
    go_ret
    refine ⟨ret_bool ?_, low0 w _⟩
    have hs := str_nil_iff (s := pc)
    unfold rightPr
    first | (simp; omega) | (simp_all; omega) | (simp_all; done) | grind

end Go.Proofs.YtodjeidofgbdlaaGreatDoor
