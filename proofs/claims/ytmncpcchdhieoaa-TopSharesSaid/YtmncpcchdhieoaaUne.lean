/- Contracts of ratio.Uneven and of the reference's. -/
import Derived.Test.YtmncpcchdhieoaaCon
import Derived.Test.YtmncpcchdhieoaaFlq
namespace Go.Proofs.Ytmncpcchdhieoaa
open Go.ChangeShapes Go.WideShapes Go.ChangeAt Go.RowKit
set_option linter.unusedVariables false

open Flo (nan key SC minOne ONE)
def diff (a b : Int) (p : Nat) : Nat := ((floatBits .quo .f64 (floatOfInt .f64 (bn b)) (floatOfInt .f64 (bn a + bn b))).bind fun q => floatBits .sub .f64 q p).getD 0
def unevV (a b : Int) (p : Nat) : Nat := if bn a + bn b = 0 then 0 else if nan p = true then ONE else minOne (diff a b p % 9223372036854775808)
/-- What the reference makes of a difference. -/
def refOne (d : Nat) : Nat := minOne (if key d < 0 then d % 9223372036854775808 else d)
def unevR (a b : Int) (p : Nat) : Nat := if bn a + bn b = 0 then 0 else if nan p = true then ONE else refOne (diff a b p)

theorem diff_ok {a b : Int} {p : Nat} (h : ¬ bn a + bn b = 0) (hp : nan p = false) : ∃ q d, floatBits .quo .f64 (floatOfInt .f64 (bn b)) (floatOfInt .f64 (bn a + bn b)) = some q ∧ floatBits .sub .f64 q p = some d ∧ diff a b p = d ∧ nan d = false ∧ d < 2 ^ 64 := by
  have h1 := bn_range a
  have h2 := bn_range b
  obtain ⟨x, hx⟩ := Int.eq_ofNat_of_zero_le h2.1
  obtain ⟨y, hy⟩ := Int.eq_ofNat_of_zero_le (show 0 ≤ bn a + bn b by omega)
  unfold diff
  rw [hy] at h ⊢
  rw [hx] at h2 ⊢
  obtain ⟨q, hq, hqi⟩ := Flo.quo_ok (b := x) (n := y) (by omega) (by omega) (by omega)
  obtain ⟨d, hd, hn, hw⟩ := Flo.sub_ok hqi hp
  exact ⟨q, d, hq, hd, by rw [hq, Option.bind_some, hd]; rfl, hn, hw⟩
theorem neg_law (d : Nat) (w : World) : (Op.unary .neg (.float .f64 d)).run Try.prog w = .ok (.float .f64 (d ^^^ 2 ^ 63)) w := rfl

theorem uneven_any (a b : Int) (p : Nat) (w : World) :
    Calls Try.prog 36 #[.int .i64 a, .int .i64 b, .float .f64 p] w fun e w' => e = .returned (.float .f64 (unevV a b p)) ∧ w = w' := by
  have h1 := bn_range a
  have h2 := bn_range b
  by_cases h0 : bn a + bn b = 0
  · have V : Hid (unevV a b p = 0) := by unfold unevV; rw [if_pos h0]; rfl
    have z : (bn a + bn b == 0) = true := by rw [h0]; rfl
    clear h0
    go_enter Try.func36, Try.ntmps36
    go_wp2_with (first | (go_at_call 61; refine (bounded_any _ _).mono ?_; rintro e w' ⟨rfl, rfl⟩) | (go_at_call 62; refine (nan_any _ _).mono ?_; rintro e w' ⟨rfl, rfl⟩) | (go_at_call 63; refine (abs_call _ (by assumption) _).mono ?_; rintro e w' ⟨rfl, rfl⟩))
    go_ret
    exact ⟨ret_float (by rw [V.out]), rfl⟩
  · have z : (bn a + bn b == 0) = false := beq_eq_false_iff_ne.2 h0
    cases hn : nan p
    · obtain ⟨q, d, hq, hd, he, hnd, hw⟩ := diff_ok h0 hn
      have V : Hid (unevV a b p = minOne (d % 9223372036854775808)) := by unfold unevV; rw [if_neg h0, hn, he, if_neg (by simp)]; rfl
      have X1 := fun w => run_float_arith (P := Try.prog) w .quo 22 .f64 _ _ q hq
      have X2 := fun w => run_float_arith (P := Try.prog) w .sub 22 .f64 _ _ d hd
      have hx : d % 9223372036854775808 < 9223372036854775808 := Nat.mod_lt _ (by decide)
      have hnx : nan (d % 9223372036854775808) = false := by unfold nan at hnd ⊢; rw [Flo.sw_eq] at hnd ⊢; rw [Nat.mod_mod]; exact hnd
      have X3 := fun w ts t => Flo.min_law (P := Try.prog) w ts t hx hnx
      clear h0 hq hd he hx hnx
      go_enter Try.func36, Try.ntmps36
      go_wp2_with (first | (go_at_call 61; refine (bounded_any _ _).mono ?_; rintro e w' ⟨rfl, rfl⟩) | (go_at_call 62; refine (nan_any _ _).mono ?_; rintro e w' ⟨rfl, rfl⟩) | (go_at_call 63; refine (abs_call _ (by assumption) _).mono ?_; rintro e w' ⟨rfl, rfl⟩))
      go_ret
      exact ⟨ret_float (by rw [V.out]), rfl⟩
    · have V : Hid (unevV a b p = 4607182418800017408) := by unfold unevV; rw [if_neg h0, hn, if_pos rfl]; rfl
      clear h0
      go_enter Try.func36, Try.ntmps36
      go_wp2_with (first | (go_at_call 61; refine (bounded_any _ _).mono ?_; rintro e w' ⟨rfl, rfl⟩) | (go_at_call 62; refine (nan_any _ _).mono ?_; rintro e w' ⟨rfl, rfl⟩) | (go_at_call 63; refine (abs_call _ (by assumption) _).mono ?_; rintro e w' ⟨rfl, rfl⟩))
      go_ret
      exact ⟨ret_float (by rw [V.out]), rfl⟩

/-- The two differ by the sign of a zero alone. -/
theorem uneven_same (a b : Int) (p : Nat) : ∃ x y r, unevV a b p = x ∧ unevR a b p = y ∧ floatBits .add .f64 x 0 = some r ∧ floatBits .add .f64 y 0 = some r := by
  have one : nan ONE = false := by decide
  have same : ∀ x, nan x = false → unevV a b p = x → unevR a b p = x → ∃ x y r, unevV a b p = x ∧ unevR a b p = y ∧ floatBits .add .f64 x 0 = some r ∧ floatBits .add .f64 y 0 = some r := by
    intro x hx h1 h2
    obtain ⟨r, hr⟩ := Flo.add_zero_ok hx
    exact ⟨x, x, r, h1, h2, hr, hr⟩
  by_cases h0 : bn a + bn b = 0
  · exact same 0 (by decide) (by unfold unevV; rw [if_pos h0]) (by unfold unevR; rw [if_pos h0])
  · cases hn : nan p
    · obtain ⟨q, d, _, _, he, hnd, hw⟩ := diff_ok h0 hn
      have e1 : unevV a b p = minOne (d % 9223372036854775808) := by unfold unevV; rw [if_neg h0, hn, he, if_neg (by simp)]
      have e2 : unevR a b p = refOne d := by unfold unevR; rw [if_neg h0, hn, he, if_neg (by simp)]
      have hnx : nan (d % 9223372036854775808) = false := by unfold nan at hnd ⊢; rw [Flo.sw_eq] at hnd ⊢; rw [Nat.mod_mod]; exact hnd
      have hm : ∀ x, nan x = false → nan (minOne x) = false := by
        intro x hx
        unfold minOne
        split
        · exact one
        · exact hx
      rcases Flo.sign_ways hw with k | k | k
      · have e3 : d % 9223372036854775808 = d := Nat.mod_eq_of_lt k.1
        rw [e3] at e1
        have e4 : refOne d = minOne d := by unfold refOne; rw [if_neg (by omega)]
        exact same _ (hm _ hnd) e1 (e2.trans e4)
      · have e3 : d % 9223372036854775808 = 0 := by omega
        rw [e3] at e1
        have hS := Flo.SC_pos
        have e4 : refOne d = 9223372036854775808 := by
          unfold refOne
          rw [if_neg (by omega)]
          unfold minOne
          rw [if_neg (by omega)]
          exact k.1
        have e5 : minOne 0 = 0 := by
          unfold minOne
          rw [if_neg (by rw [Flo.key_zero]; omega)]
        exact ⟨_, _, 0, e1.trans e5, e2.trans e4, by decide, by decide⟩
      · have e4 : refOne d = minOne (d % 9223372036854775808) := by unfold refOne; rw [if_pos k.2.1]
        exact same _ (hm _ hnx) e1 (e2.trans e4)
    · exact same ONE one (by unfold unevV; rw [if_neg h0, hn, if_pos rfl]) (by unfold unevR; rw [if_neg h0, hn, if_pos rfl])

end Go.Proofs.Ytmncpcchdhieoaa
