/- Contracts of the other functions of ratio, of the reference and of math. -/
import Derived.Test.YtmncpcchdhieoaaPart
import Derived.Laws.BitsAllLaws
namespace Go.Proofs.Ytmncpcchdhieoaa
open Go.ChangeShapes Go.WideShapes Go.ChangeAt Go.RowKit
set_option linter.unusedVariables false

open Flo (partV nan key SC)
theorem ret_two {a b c d : Int} (h : a = c) (k : b = d) : Ending.returned (.tuple #[.int .i64 a, .int .i64 b]) = .returned (.tuple #[.int .i64 c, .int .i64 d]) := by rw [h, k]
/-- A number from 0 to 2^30. -/
def bn (n : Int) : Int := min (max n 0) 1073741824
def shareV (mine other : Int) (p : Nat) : Int := min (max (partV (bn mine + bn other) p - bn other) 0) (bn mine)
theorem bn_range (n : Int) : 0 ≤ bn n ∧ bn n ≤ 1073741824 := by unfold bn; omega

theorem bounded_any (n : Int) (w : World) :
    Calls Try.prog 61 #[.int .i64 n] w fun e w' => e = .returned (.int .i64 (bn n)) ∧ w = w' := by
  go_enter Try.func61, Try.ntmps61
  go_wp2
  all_goals
    go_ret
    exact ⟨ret_int (by unfold bn; omega), rfl⟩

theorem share_any (a b : Int) (p : Nat) (hp : p < 2 ^ 64) (w : World) :
    Calls Try.prog 37 #[.int .i64 a, .int .i64 b, .float .f64 p] w fun e w' => e = .returned (.int .i64 (shareV a b p)) ∧ w = w' := by
  have h1 := bn_range a
  have h2 := bn_range b
  have h3 := Flo.part_range (bn a + bn b) hp
  go_enter Try.func37, Try.ntmps37
  go_wp2_with (first | (go_at_call 61; refine (bounded_any _ _).mono ?_; rintro e w' ⟨rfl, rfl⟩) | (go_at_call 38; refine (ratpart_any _ _ (by assumption) _).mono ?_; rintro e w' ⟨rfl, rfl⟩))
  all_goals
    go_ret
    exact ⟨ret_int (by unfold shareV; omega), rfl⟩

theorem from_bits (n : Int) (w : World) : (callFunc 74 #[.int .u64 n]).run Try.prog w = .ok (.value (.float .f64 n.toNat)) w := by
  rw [run_callFunc_extern (e := Extern.MathFloatBits.float64frombits) Try.func74 (by kernel_rfl) (by kernel_rfl) (by kernel_rfl) (by kernel_rfl)]
  rfl
theorem to_bits (p : Nat) (w : World) : (callFunc 75 #[.float .f64 p]).run Try.prog w = .ok (.value (.int .u64 p)) w := by
  rw [run_callFunc_extern (e := Extern.MathFloatBits.float64bits) Try.func75 (by kernel_rfl) (by kernel_rfl) (by kernel_rfl) (by kernel_rfl)]
  rfl
theorem ret_float {k : FloatKind} {a b : Nat} (h : a = b) : Ending.returned (.float k a) = .returned (.float k b) := by rw [h]
theorem andNot_top {p : Nat} (hp : p < 2 ^ 64) : (bits .andNot .u64 (p : Int) 9223372036854775808).toNat = p % 9223372036854775808 := by
  have h := u64_andNot_nat p 9223372036854775808 hp (by decide)
  have e : ((9223372036854775808 : Nat) : Int) = 9223372036854775808 := rfl
  rw [e] at h
  rw [h, Int.toNat_natCast]
  exact Nat.and_two_pow_sub_one_eq_mod p 63
theorem abs_call (p : Nat) (hp : p < 2 ^ 64) (w : World) :
    Calls Try.prog 63 #[.float .f64 p] w fun e w' => e = .returned (.float .f64 (p % 9223372036854775808)) ∧ w = w' := by
  have F := from_bits
  have T := to_bits
  go_enter Try.func63, Try.ntmps63
  go_wp2
  go_ret
  exact ⟨ret_float (andNot_top hp), rfl⟩

theorem part7 : partV 7 4602678819172646912 = 3 := by decide +kernel
theorem share10 : shareV 10 0 4602678819172646912 = 5 := by decide +kernel

end Go.Proofs.Ytmncpcchdhieoaa
