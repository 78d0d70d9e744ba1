/- A line that works; lines and promises, as one value for both. -/
import Derived.Test.YtodjeidofgbdlaaGreatDoorPrs
namespace Go.Proofs.YtodjeidofgbdlaaGreatDoor
open Go.ChangeShapes Go.WideShapes Go.ChangeAt Go.RowKit
set_option linter.unusedVariables false
set_option linter.unusedSimpArgs false

theorem d10 : Lib.decDigits 10 = [49, 48] := by rw [dec_big (by decide), dec_small (by decide)]; rfl
theorem d0 : Lib.decDigits 0 = [48] := by rw [dec_small (by decide)]; rfl
theorem d1 : Lib.decDigits 1 = [49] := by rw [dec_small (by decide)]; rfl
theorem d5 : Lib.decDigits 5 = [53] := by rw [dec_small (by decide)]; rfl
theorem d9 : Lib.decDigits 9 = [57] := by rw [dec_small (by decide)]; rfl
theorem awake_line : lineB ⟨1, ((167772161 : Nat) : Int), { data := #[97] }, 5, 9⟩ = { data := #[49, 32, 49, 48, 46, 48, 46, 48, 46, 49, 32, 54, 49, 32, 53, 32, 57] } := by
  apply ba_eq
  unfold lineB lineL addrL
  have e1 : (1 : Int).toNat = 1 := rfl
  have e2 : (((167772161 : Nat) : Int)).toNat = 167772161 := rfl
  have e3 : (5 : Int).toNat = 5 := rfl
  have e4 : (9 : Int).toNat = 9 := rfl
  simp only [e1, e2, e3, e4]
  rw [show 167772161 / 16777216 = 10 by decide, show 167772161 / 65536 % 256 = 0 by decide, show 167772161 % 256 = 1 by decide, d10, d0, d1, d5, d9]
  decide
theorem awake_call (w : World) (he : Env w) : Calls Tryz.prog 10 #[.agg #[.int .i64 1, .int .u32 167772161, .string { data := #[97] }, .int .i64 5, .int .i64 9]] w fun e w' => e = .returned (.tuple #[.string { data := #[49, 32, 49, 48, 46, 48, 46, 48, 46, 49, 32, 54, 49, 32, 53, 32, 57] }, .int .i64 0]) ∧ Below w.heap.size w w' := by
  have h := line_yes 1 167772161 { data := #[97] } 5 9 (by unfold rightPr; decide) (by decide) w he
  rw [awake_line] at h
  exact h
/-- A promise as a line. -/
def lineR (p : Pr) : ByteArray × Int := if rightPr p then (lineB p, 0) else ({ data := #[] }, 1)
theorem line_any (ps : Int) (pa : Int) (pc : ByteArray) (pf pu : Int) (hp : 0 ≤ pa ∧ pa ≤ 4294967295) (w : World) (he : Env w) : Calls Tryz.prog 10 #[.agg #[.int .i64 ps, .int .u32 pa, .string pc, .int .i64 pf, .int .i64 pu]] w fun e w' => e = .returned (.tuple #[.string (lineR ⟨ps, pa, pc, pf, pu⟩).1, .int .i64 (lineR ⟨ps, pa, pc, pf, pu⟩).2]) ∧ Below w.heap.size w w' := by
  obtain ⟨n, rfl⟩ := Int.eq_ofNat_of_zero_le hp.1
  by_cases hr : rightPr ⟨ps, n, pc, pf, pu⟩
  · have h := line_yes ps n pc pf pu hr (by omega) w he
    unfold lineR
    rw [if_pos hr]
    exact h
  · have h := line_no ps n pc pf pu hr w he
    unfold lineR
    rw [if_neg hr]
    exact h
end Go.Proofs.YtodjeidofgbdlaaGreatDoor
