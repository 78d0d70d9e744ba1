/- The value of figures, by the reference. -/
import Derived.Test.YtodjeidofgbdlaaGreatDoorApa
namespace Go.Proofs.YtodjeidofgbdlaaGreatDoor
open Go.ChangeShapes Go.WideShapes Go.ChangeAt Go.RowKit
set_option linter.unusedVariables false
set_option linter.unusedSimpArgs false

/-- The value of at most so many figures; 0 where something else stands. -/
def vF : Nat → Nat → List UInt8 → Nat
  | 0, acc, _ => acc
  | _ + 1, acc, [] => acc
  | f + 1, acc, b :: l => if 48 ≤ b.toNat ∧ b.toNat ≤ 57 then vF f (acc * 10 + (b.toNat - 48)) l else 0
theorem vF_digs : ∀ (f : Nat) (ds : List UInt8) (acc : Nat), (∀ b ∈ ds, isDig b) → ds.length ≤ f → vF f acc ds = dval acc ds
  | 0, [], acc, _, _ => rfl
  | 0, _ :: _, _, _, h => by simp at h
  | f + 1, [], acc, _, _ => rfl
  | f + 1, b :: ds, acc, hd, hl => by
    have hb := hd b (.head _)
    unfold isDig at hb
    rw [vF, if_pos hb, vF_digs f ds _ (fun x hx => hd x (.tail _ hx)) (by simp only [List.length_cons] at hl; omega)]
    rfl
theorem vF_dec {n : Nat} (h : n ≤ 1099511627776) : vF 14 0 (Lib.decDigits n) = n := by
  rw [vF_digs 14 _ 0 (dec_dig n) (by have := dec_len13 h; omega), dval_dec]
theorem vF_nil (f acc : Nat) : vF f acc [] = acc := by cases f <;> rfl
end Go.Proofs.YtodjeidofgbdlaaGreatDoor
