/- Contracts of the clock functions and of the reference's. -/
import Derived.Test.YtkpgchhbeebgkaaChecked
import Derived.WalkKit
import Derived.ProofKit
import Derived.WalkLawsBesides
namespace Go.Proofs.Ytkpgchhbeebgkaa
set_option linter.unusedVariables false
open Go.ChangeShapes Go.WideShapes Go.ChangeAt Go.RowKit

theorem ret_int {k : IntKind} {a b : Int} (h : a = b) : Ending.returned (.int k a) = .returned (.int k b) := by rw [h]
theorem ret_bool {a b : Bool} (h : a = b) : Ending.returned (.bool a) = .returned (.bool b) := by rw [h]

/-- A number between two. -/
def bnd (x lo hi : Int) : Int := min (max x lo) hi
/-- A number as a moment. -/
def mom (n : Int) : Int := bnd n 0 1099511627776
def clkAdd (t d : Int) : Int := mom (mom t + bnd d (-1099511627776) 1099511627776)
def clkLeft (now until_ : Int) : Int := mom (mom until_ - mom now)
def clkPast (now until_ guard : Int) : Bool := decide (mom until_ + mom guard < mom now)
theorem mom_range (n : Int) : 0 ≤ mom n ∧ mom n ≤ 1099511627776 := by unfold mom bnd; omega
theorem bnd_range (d : Int) : -1099511627776 ≤ bnd d (-1099511627776) 1099511627776 ∧ bnd d (-1099511627776) 1099511627776 ≤ 1099511627776 := by unfold bnd; omega

theorem bounded_any (x low high : Int) (w : World) :
    Calls Try.prog 27 #[.int .i64 x, .int .i64 low, .int .i64 high] w fun e w' => e = .returned (.int .i64 (bnd x low high)) ∧ w = w' := by
  go_enter Try.func27, Try.ntmps27
  go_wp2
  all_goals
    go_ret
    exact ⟨ret_int (by unfold bnd; omega), rfl⟩

theorem rbounded_any (x low high : Int) (w : World) (h : low ≤ high) :
    Calls Try.prog 23 #[.int .i64 x, .int .i64 low, .int .i64 high] w fun e w' => e = .returned (.int .i64 (bnd x low high)) ∧ w = w' := by
  go_enter Try.func23, Try.ntmps23
  go_wp2
  all_goals
    go_ret
    exact ⟨ret_int (by unfold bnd; omega), rfl⟩

theorem moment_any (n : Int) (w : World) :
    Calls Try.prog 26 #[.int .i64 n] w fun e w' => e = .returned (.int .i64 (mom n)) ∧ w = w' := by
  go_enter Try.func26, Try.ntmps26
  go_wp2_with (go_at_call 27; refine (bounded_any _ _ _ _).mono ?_; rintro e w' ⟨rfl, rfl⟩)
  go_ret
  exact ⟨rfl, rfl⟩

theorem add_any (t d : Int) (w : World) :
    Calls Try.prog 16 #[.int .i64 t, .int .i64 d] w fun e w' => e = .returned (.int .i64 (clkAdd t d)) ∧ w = w' := by
  have h1 := mom_range t
  have h2 := bnd_range d
  go_enter Try.func16, Try.ntmps16
  go_wp2_with (first | (go_at_call 26; refine (moment_any _ _).mono ?_; rintro e w' ⟨rfl, rfl⟩) | (go_at_call 27; refine (bounded_any _ _ _ _).mono ?_; rintro e w' ⟨rfl, rfl⟩))
  go_ret
  exact ⟨rfl, rfl⟩

theorem past_any (t d g : Int) (w : World) :
    Calls Try.prog 14 #[.int .i64 t, .int .i64 d, .int .i64 g] w fun e w' => e = .returned (.bool (clkPast t d g)) ∧ w = w' := by
  have h1 := mom_range t
  have h2 := mom_range d
  have h3 := mom_range g
  go_enter Try.func14, Try.ntmps14
  go_wp2_with (first | (go_at_call 26; refine (moment_any _ _).mono ?_; rintro e w' ⟨rfl, rfl⟩) | (go_at_call 27; refine (bounded_any _ _ _ _).mono ?_; rintro e w' ⟨rfl, rfl⟩) | (go_at_call 23; refine (rbounded_any _ _ _ _ (by omega)).mono ?_; rintro e w' ⟨rfl, rfl⟩))
  go_ret
  exact ⟨rfl, rfl⟩

theorem radd_any (t d : Int) (w : World) :
    Calls Try.prog 30 #[.int .i64 t, .int .i64 d] w fun e w' => e = .returned (.int .i64 (clkAdd t d)) ∧ w = w' := by
  have h1 : 0 ≤ bnd t 0 1099511627776 ∧ bnd t 0 1099511627776 ≤ 1099511627776 := mom_range t
  have h2 := bnd_range d
  go_enter Try.func30, Try.ntmps30
  go_wp2_with (first | (go_at_call 26; refine (moment_any _ _).mono ?_; rintro e w' ⟨rfl, rfl⟩) | (go_at_call 27; refine (bounded_any _ _ _ _).mono ?_; rintro e w' ⟨rfl, rfl⟩) | (go_at_call 23; refine (rbounded_any _ _ _ _ (by omega)).mono ?_; rintro e w' ⟨rfl, rfl⟩))
  go_ret
  exact ⟨rfl, rfl⟩

theorem rpast_any (t d g : Int) (w : World) :
    Calls Try.prog 11 #[.int .i64 t, .int .i64 d, .int .i64 g] w fun e w' => e = .returned (.bool (clkPast t d g)) ∧ w = w' := by
  have h1 : 0 ≤ bnd t 0 1099511627776 ∧ bnd t 0 1099511627776 ≤ 1099511627776 := mom_range t
  have h2 : 0 ≤ bnd d 0 1099511627776 ∧ bnd d 0 1099511627776 ≤ 1099511627776 := mom_range d
  have h3 : 0 ≤ bnd g 0 1099511627776 ∧ bnd g 0 1099511627776 ≤ 1099511627776 := mom_range g
  go_enter Try.func11, Try.ntmps11
  go_wp2_with (first | (go_at_call 26; refine (moment_any _ _).mono ?_; rintro e w' ⟨rfl, rfl⟩) | (go_at_call 27; refine (bounded_any _ _ _ _).mono ?_; rintro e w' ⟨rfl, rfl⟩) | (go_at_call 23; refine (rbounded_any _ _ _ _ (by omega)).mono ?_; rintro e w' ⟨rfl, rfl⟩))
  go_ret
  exact ⟨rfl, rfl⟩

end Go.Proofs.Ytkpgchhbeebgkaa
