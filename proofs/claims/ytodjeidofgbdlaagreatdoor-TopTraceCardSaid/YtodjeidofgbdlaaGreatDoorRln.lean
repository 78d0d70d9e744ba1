/- A promise as a line, by the reference. -/
import Derived.Test.YtodjeidofgbdlaaGreatDoorEnv
namespace Go.Proofs.YtodjeidofgbdlaaGreatDoor
open Go.ChangeShapes Go.WideShapes Go.ChangeAt Go.RowKit
set_option linter.unusedVariables false
set_option linter.unusedSimpArgs false

theorem wu8 (n : Int) (h0 : 0 ≤ n) (h1 : n < 256) : IntKind.u8.wrap n = n := by rw [IntKind.wrap_u8]; omega

theorem conv_is {w : World} {g n cap : Nat} {l : List UInt8} (h : RowIs w g (cb l)) (hn : l.length = n) : (convert 39 9 (.slice (some ⟨g, 0, none⟩) n cap)).run Tryz.prog w = .ok (.string (bl l)) w := by
  subst hn
  exact run_convert_bytes_back (P := Tryz.prog) w 39 9 5 ⟨g, 0, none⟩ cap l Tryz.underlying39 Tryz.underlying5 Tryz.underlying9 (fun j hj => by
    rw [add_spot0, Nat.zero_add]
    exact h.at (by unfold cb; rw [List.getElem?_map, List.getElem?_eq_getElem hj]; rfl))
theorem sp_size : ({ data := #[32] } : ByteArray).size = 1 := rfl

end Go.Proofs.YtodjeidofgbdlaaGreatDoor
