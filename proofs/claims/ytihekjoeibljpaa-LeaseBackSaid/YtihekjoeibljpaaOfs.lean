/- The number that bytes tell, by the reference. -/
import Derived.Test.YtihekjoeibljpaaByt
namespace Go.Proofs.Ytihekjoeibljpaa
open Go.ChangeShapes Go.WideShapes Go.ChangeAt Go.RowKit
set_option linter.unusedVariables false
set_option linter.unusedSimpArgs false

set_option maxRecDepth 100000 in
theorem of_any (xs : List Int) (hx : ∀ z ∈ xs, 0 ≤ z ∧ z ≤ 255) (g o n c : Nat) (w : World) (hn : xs.length = n) (h7 : xs.length ≤ 6) (h : RowAt w g o (xs.map (Value.int .u8))) :
    Calls Try.prog 22 #[.slice (some ⟨g, o, none⟩) n c] w fun e w' => e = .returned (.int .i64 (numV xs)) ∧ w = w' := by
  subst hn
  have HR := Lib.hid h
  have HX := Lib.hid hx
  clear h hx
  go_enter Try.func22, Try.ntmps22
  go_wp2
  go_loopw [3, 4] (fun s i wr => ∃ k : Nat, k ≤ xs.length ∧ i = .int .i64 k ∧ s = .int .i64 (numV (xs.take k)) ∧ w = wr) (fun _ i _ => xs.length - (intOf i).toNat)
  case atStart => exact ⟨0, by omega, rfl, rfl, rfl⟩
  case round =>
    obtain ⟨k, hk, rfl, rfl, rfl⟩ := hrel
    have hb := numV_bound xs HX.out k hk
    have hp : (256 : Int) ^ k ≤ 281474976710656 := by
      rcases (show k = 0 ∨ k = 1 ∨ k = 2 ∨ k = 3 ∨ k = 4 ∨ k = 5 ∨ k = 6 by omega) with rfl | rfl | rfl | rfl | rfl | rfl | rfl <;> decide
    have hb1 := hb.1
    have hb2 : numV (xs.take k) < 281474976710656 := by omega
    clear hb hp
    by_cases hlt : k < xs.length
    · have hv := u8_range xs HX.out k
      have hc : w.cell? ⟨g, o + k, none⟩ = some (.int .u8 (xs.getD k 0)) := HR.out.at (by rw [List.getElem?_map, List.getElem?_eq_getElem hlt, List.getD_eq_getElem?_getD, List.getElem?_eq_getElem hlt]; rfl)
      have HT := Lib.hid (numV_take xs hlt)
      generalize xs.getD k 0 = v at *
      obtain ⟨hv1, hv2⟩ := hv
      go_wp2
      go_roundw
      case rel => exact ⟨k + 1, by omega, by go_num, congrArg (Value.int .i64) (by rw [HT.out]), trivial⟩
      case measure => simp [intOf]; omega
    · obtain rfl : k = xs.length := by omega
      have HT : Hid (xs.take xs.length = xs) := List.take_length
      go_wp2
      go_ret
      exact ⟨ret_int (by rw [HT.out]), rfl⟩

end Go.Proofs.Ytihekjoeibljpaa
