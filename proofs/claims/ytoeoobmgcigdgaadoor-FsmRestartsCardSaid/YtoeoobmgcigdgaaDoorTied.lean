/- What the listed variables' data tell: the blocks of fsm.rows and fsm.names. -/
import Derived.Test.YtoeoobmgcigdgaaDoorRows
import Derived.Test.YtoeoobmgcigdgaaDoorLaid
import Derived.Test.YtoeoobmgcigdgaaDoorIn
import Derived.LaidMore
namespace Go.Proofs.YtoeoobmgcigdgaaDoor
open Go.ChangeShapes Go.WideShapes Go.ChangeAt Go.RowKit
set_option linter.unusedVariables false

/-- The two tables lie as the program's text lays them. -/
def Ready (w : World) : Prop := (∃ t fr, w.heap[0]? = some (.cells rowsC t fr)) ∧ ∃ t fr, w.heap[1]? = some (.cells namesC t fr)

abbrev laidL : List (String × DataW Unit) := [("lessor/fsm.rows", Rows.laid_lessor_fsm_rows), ("lessor/fsm.names", Rows.laid_lessor_fsm_names)]
theorem gRows : Tryd.prog.globalNamed "lessor/fsm.rows" = some 0 := by kernel_rfl
theorem gNames : Tryd.prog.globalNamed "lessor/fsm.names" = some 1 := by kernel_rfl
theorem tRows : (Tryd.prog.globals[0]?).map (·.type) = some 34 := by kernel_rfl
theorem tNames : (Tryd.prog.globals[1]?).map (·.type) = some 37 := by kernel_rfl
theorem lRows : (leafs Tryd.prog 5 34).isSome = true := by kernel_rfl
theorem lNames : (leafs Tryd.prog 5 37).isSome = true := by kernel_rfl
theorem dRows (enc : TypeId × Value → Unit) (w : World) : DataW.trod enc Tryd.prog w 0 (fun _ => true) false 5 34 rowsC.toList = some (Rows.laid_lessor_fsm_rows, []) := by kernel_rfl
theorem dNames (enc : TypeId × Value → Unit) (w : World) : DataW.trod enc Tryd.prog w 0 (fun _ => true) false 5 37 namesC.toList = some (Rows.laid_lessor_fsm_names, []) := by kernel_rfl

theorem ready_of {W : World} (h : laidMetH Tryd.prog laidL W) : Ready W := by
  rw [MakeChecks.laidMetH_plain _ _ _ (by kernel_rfl)] at h
  obtain ⟨ps, ⟨g0, t0, cs0, f0, p0, q0, hg0, ht0, hv0, hd0, ⟨g1, t1, cs1, f1, p1, q1, hg1, ht1, hv1, hd1, _, _⟩, _⟩, _, _⟩ := h
  obtain rfl := Option.some.inj (gRows.symm.trans hg0)
  obtain rfl := Option.some.inj (gNames.symm.trans hg1)
  obtain rfl := Option.some.inj (tRows.symm.trans ht0)
  obtain rfl := Option.some.inj (tNames.symm.trans ht1)
  obtain ⟨L0, hL0⟩ := Option.isSome_iff_exists.1 lRows
  obtain ⟨L1, hL1⟩ := Option.isSome_iff_exists.1 lNames
  have e0 := trod_inj 5 _ _ _ _ _ _ _ _ _ hd0 (dRows (fun _ => ()) W) hL0
  have e1 := trod_inj 5 _ _ _ _ _ _ _ _ _ hd1 (dNames (fun _ => ()) W) hL1
  have c0 : cs0 = rowsC := Array.toList_inj.1 e0
  have c1 : cs1 = namesC := Array.toList_inj.1 e1
  rw [c0] at hv0
  rw [c1] at hv1
  exact ⟨var_block gRows hv0, var_block gNames hv1⟩

def doorSteps : Nat := 38
/-- The door's own heap meets the condition. -/
theorem door_met (os : Os) (args : Array Value) : laidMetH Tryd.prog laidL ((World.doorLaid Tryd.prog doorSteps os).forCall (fun _ _ => 0) ⟨#[], args, []⟩).memory :=
  laidMetH_of_parts3 (fuel := 8) (laidMet_of_run' 8 (by kernel_rfl) (by kernel_rfl)) (by kernel_rfl) (by kernel_rfl)
end Go.Proofs.YtoeoobmgcigdgaaDoor
