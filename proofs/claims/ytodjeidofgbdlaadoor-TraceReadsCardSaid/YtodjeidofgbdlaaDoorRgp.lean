/- Addresses as text, by the reference; which promises may be. -/
import Derived.Test.YtodjeidofgbdlaaDoorTx
namespace Go.Proofs.YtodjeidofgbdlaaDoor
open Go.ChangeShapes Go.WideShapes Go.ChangeAt Go.RowKit
set_option linter.unusedVariables false
set_option linter.unusedSimpArgs false

set_option maxRecDepth 100000 in
set_option maxHeartbeats 1000000 in
theorem rtext_any (a : Nat) (h : a < 4294967296) (w : World) : Calls Tryd.prog 26 #[.int .u32 a] w fun e w' => e = .returned (.string (bl (addrL a))) ∧ Below w.heap.size w w' := by
  have d1 := dot_size
  have D0 : ∀ w, Calls Tryd.prog 42 #[.int .i64 ((a : Int) / 16777216)] w fun e w' => e = .returned (.string (decB (a / 16777216))) ∧ Below w.heap.size w w' := fun w => by
    rw [show ((a : Int) / 16777216) = ((a / 16777216 : Nat) : Int) by omega]
    exact figures_any _ (by omega) w
  have HD0 := Lib.hid D0
  clear D0
  have s0 : (decB (a / 16777216)).size ≤ 13 := decB_size (by omega)
  have D1 : ∀ w, Calls Tryd.prog 42 #[.int .i64 ((a : Int) / 65536 % 256)] w fun e w' => e = .returned (.string (decB (a / 65536 % 256))) ∧ Below w.heap.size w w' := fun w => by
    rw [show ((a : Int) / 65536 % 256) = ((a / 65536 % 256 : Nat) : Int) by omega]
    exact figures_any _ (by omega) w
  have HD1 := Lib.hid D1
  clear D1
  have s1 : (decB (a / 65536 % 256)).size ≤ 13 := decB_size (by omega)
  have D2 : ∀ w, Calls Tryd.prog 42 #[.int .i64 ((a : Int) / 256 % 256)] w fun e w' => e = .returned (.string (decB (a / 256 % 256))) ∧ Below w.heap.size w w' := fun w => by
    rw [show ((a : Int) / 256 % 256) = ((a / 256 % 256 : Nat) : Int) by omega]
    exact figures_any _ (by omega) w
  have HD2 := Lib.hid D2
  clear D2
  have s2 : (decB (a / 256 % 256)).size ≤ 13 := decB_size (by omega)
  have D3 : ∀ w, Calls Tryd.prog 42 #[.int .i64 ((a : Int) % 256)] w fun e w' => e = .returned (.string (decB (a % 256))) ∧ Below w.heap.size w w' := fun w => by
    rw [show ((a : Int) % 256) = ((a % 256 : Nat) : Int) by omega]
    exact figures_any _ (by omega) w
  have HD3 := Lib.hid D3
  clear D3
  have s3 : (decB (a % 256)).size ≤ 13 := decB_size (by omega)
  have z1 : (decB (a / 16777216) ++ { data := #[46] } : ByteArray).size ≤ 26 := by rw [ByteArray.size_append]; omega
  have z2 : ((decB (a / 16777216) ++ { data := #[46] } : ByteArray) ++ decB (a / 65536 % 256)).size ≤ 39 := by rw [ByteArray.size_append]; omega
  have z3 : (((decB (a / 16777216) ++ { data := #[46] } : ByteArray) ++ decB (a / 65536 % 256)) ++ { data := #[46] }).size ≤ 52 := by rw [ByteArray.size_append]; omega
  have z4 : ((((decB (a / 16777216) ++ { data := #[46] } : ByteArray) ++ decB (a / 65536 % 256)) ++ { data := #[46] }) ++ decB (a / 256 % 256)).size ≤ 65 := by rw [ByteArray.size_append]; omega
  have z5 : (((((decB (a / 16777216) ++ { data := #[46] } : ByteArray) ++ decB (a / 65536 % 256)) ++ { data := #[46] }) ++ decB (a / 256 % 256)) ++ { data := #[46] }).size ≤ 78 := by rw [ByteArray.size_append]; omega
  have z6 : ((((((decB (a / 16777216) ++ { data := #[46] } : ByteArray) ++ decB (a / 65536 % 256)) ++ { data := #[46] }) ++ decB (a / 256 % 256)) ++ { data := #[46] }) ++ decB (a % 256)).size ≤ 91 := by rw [ByteArray.size_append]; omega
  go_enter Tryd.func26, Tryd.ntmps26
  go_wp2_with (first | (go_at_call 42; (with_reducible refine (HD0.out _).mono ?_); rintro e w0 ⟨rfl, hx⟩; have H0 := Lib.hid hx; clear hx) | (go_at_call 42; (with_reducible refine (HD1.out _).mono ?_); rintro e w1 ⟨rfl, hx⟩; have H1 := Lib.hid hx; clear hx) | (go_at_call 42; (with_reducible refine (HD2.out _).mono ?_); rintro e w2 ⟨rfl, hx⟩; have H2 := Lib.hid hx; clear hx) | (go_at_call 42; (with_reducible refine (HD3.out _).mono ?_); rintro e w3 ⟨rfl, hx⟩; have H3 := Lib.hid hx; clear hx))
  go_ret
  exact ⟨ret_str (atx_all a), low (low (low H0.out H1.out) H2.out) H3.out⟩

theorem str_nil_iff {s : ByteArray} : s.toList = [] ↔ s.size = 0 := by
  rw [Lib.toList_data, ← List.length_eq_zero_iff, Array.length_toList]
  exact Iff.rfl

set_option maxRecDepth 100000 in
theorem tright_any (ps pa : Int) (pc : ByteArray) (pf pu : Int) (w : World) : Calls Tryd.prog 12 #[.agg #[.int .i64 ps, .int .u32 pa, .string pc, .int .i64 pf, .int .i64 pu]] w fun e w' => e = .returned (.bool (decide (rightPr ⟨ps, pa, pc, pf, pu⟩))) ∧ Below w.heap.size w w' := by
  go_enter Tryd.func12, Tryd.ntmps12
  go_wp2
  all_goals
    go_ret
    refine ⟨ret_bool ?_, low0 w _⟩
    have hs := str_nil_iff (s := pc)
    unfold rightPr
    first | (simp; omega) | (simp_all; omega) | (simp_all; done) | grind

set_option maxRecDepth 100000 in
theorem rtright_any (ps pa : Int) (pc : ByteArray) (pf pu : Int) (w : World) : Calls Tryd.prog 13 #[.agg #[.int .i64 ps, .int .u32 pa, .string pc, .int .i64 pf, .int .i64 pu]] w fun e w' => e = .returned (.bool (decide (rightPr ⟨ps, pa, pc, pf, pu⟩))) ∧ Below w.heap.size w w' := by
  go_enter Tryd.func13, Tryd.ntmps13
  go_wp2
  all_goals
    go_ret
    refine ⟨ret_bool ?_, low0 w _⟩
    have hs := str_nil_iff (s := pc)
    unfold rightPr
    first | (simp; omega) | (simp_all; omega) | (simp_all; done) | grind

end Go.Proofs.YtodjeidofgbdlaaDoor
