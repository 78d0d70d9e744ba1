/- Contracts of the small functions of fsm. -/
import Derived.Test.YtoeoobmgcigdgaaDoorChecked
import Derived.WalkKit
import Derived.ProofKit
import Derived.WalkLawsBesides
import Derived.Outline
import Derived.Lib.Hide
namespace Go.Proofs.YtoeoobmgcigdgaaDoor
open Go.ChangeShapes Go.WideShapes Go.ChangeAt Go.RowKit
set_option linter.unusedVariables false

theorem ret_int {k : IntKind} {a b : Int} (h : a = b) : Ending.returned (.int k a) = .returned (.int k b) := by rw [h]
theorem ret_bool {a b : Bool} (h : a = b) : Ending.returned (.bool a) = .returned (.bool b) := by rw [h]
theorem ret_str {a b : ByteArray} (h : a = b) : Ending.returned (.string a) = .returned (.string b) := by rw [h]

/-- The table's rows: in which state, at what, the other one being in one of some, which state follows. -/
def tab : List (Int × Int × Int × Int) := [(0, 0, 8, 6), (0, 0, 48, 4), (0, 0, 263, 1), (0, 2, (-1), 3), (1, 0, 56, 4), (1, 1, (-1), 2), (2, 0, 56, 4), (2, 0, 263, 1), (2, 2, (-1), 3), (3, 0, 62, 4), (3, 3, 256, 1), (4, 3, 18, 1), (4, 1, (-1), 5), (5, 0, (-1), 4), (5, 2, (-1), 3), (6, 3, (-1), 7), (7, 4, (-1), 8), (8, 0, 2, 1), (8, 0, 48, 4)]
def rowsC : Array Value := #[.int .i64 0, .int .i64 0, .int .i64 8, .int .i64 6, .int .i64 0, .int .i64 0, .int .i64 48, .int .i64 4, .int .i64 0, .int .i64 0, .int .i64 263, .int .i64 1, .int .i64 0, .int .i64 2, .int .i64 (-1), .int .i64 3, .int .i64 1, .int .i64 0, .int .i64 56, .int .i64 4, .int .i64 1, .int .i64 1, .int .i64 (-1), .int .i64 2, .int .i64 2, .int .i64 0, .int .i64 56, .int .i64 4, .int .i64 2, .int .i64 0, .int .i64 263, .int .i64 1, .int .i64 2, .int .i64 2, .int .i64 (-1), .int .i64 3, .int .i64 3, .int .i64 0, .int .i64 62, .int .i64 4, .int .i64 3, .int .i64 3, .int .i64 256, .int .i64 1, .int .i64 4, .int .i64 3, .int .i64 18, .int .i64 1, .int .i64 4, .int .i64 1, .int .i64 (-1), .int .i64 5, .int .i64 5, .int .i64 0, .int .i64 (-1), .int .i64 4, .int .i64 5, .int .i64 2, .int .i64 (-1), .int .i64 3, .int .i64 6, .int .i64 3, .int .i64 (-1), .int .i64 7, .int .i64 7, .int .i64 4, .int .i64 (-1), .int .i64 8, .int .i64 8, .int .i64 0, .int .i64 2, .int .i64 1, .int .i64 8, .int .i64 0, .int .i64 48, .int .i64 4]
def namesC : Array Value := #[.string ⟨#[83, 116, 97, 114, 116, 117, 112]⟩, .string ⟨#[78, 111, 114, 109, 97, 108]⟩, .string ⟨#[73, 110, 116, 101, 114, 114, 117, 112, 116, 101, 100]⟩, .string ⟨#[80, 97, 114, 116, 110, 101, 114, 68, 111, 119, 110]⟩, .string ⟨#[67, 111, 110, 102, 108, 105, 99, 116]⟩, .string ⟨#[82, 101, 115, 73, 110, 116, 101, 114, 114, 117, 112, 116, 101, 100]⟩, .string ⟨#[82, 101, 99, 111, 118, 101, 114]⟩, .string ⟨#[82, 101, 99, 111, 118, 101, 114, 87, 97, 105, 116]⟩, .string ⟨#[82, 101, 99, 111, 118, 101, 114, 68, 111, 110, 101]⟩]

def inV (other set : Int) : Bool := decide (set = -1) || (decide (0 ≤ other ∧ other ≤ 8) && decide (set / 2 ^ other.toNat % 2 = 1))

theorem is_any (s : Int) (w : World) : Calls Tryd.prog 21 #[.int .i64 s] w fun e w' => e = .returned (.bool (decide (0 ≤ s ∧ s ≤ 8))) ∧ w = w' := by
  go_enter Tryd.func21, Tryd.ntmps21
  go_wp2
  all_goals
    go_ret
    exact ⟨ret_bool (by grind), rfl⟩

theorem in_all (o : Int) (w : World) : Calls Tryd.prog 18 #[.int .i64 o, .int .i64 (-1)] w fun e w' => e = .returned (.bool (inV o (-1))) ∧ w = w' := by
  go_enter Tryd.func18, Tryd.ntmps18
  go_wp2_with (go_at_call 21; refine (is_any _ _).mono ?_; rintro e w' ⟨rfl, rfl⟩)
  all_goals
    go_ret
    exact ⟨ret_bool (by unfold inV; simp), rfl⟩

theorem in_out (o s : Int) (w : World) (h : ¬ (0 ≤ o ∧ o ≤ 8)) (hs : 0 ≤ s) : Calls Tryd.prog 18 #[.int .i64 o, .int .i64 s] w fun e w' => e = .returned (.bool (inV o s)) ∧ w = w' := by
  have V : Hid (inV o s = false) := by
    show inV o s = false
    unfold inV
    have h1 : decide (s = -1) = false := by rw [decide_eq_false_iff_not]; omega
    have h2 : decide (0 ≤ o ∧ o ≤ 8) = false := by rw [decide_eq_false_iff_not]; exact h
    rw [h1, h2]
    rfl
  have z : (s == -1) = false := by rw [beq_eq_false_iff_ne]; omega
  have h2 : decide (0 ≤ o ∧ o ≤ 8) = false := by rw [decide_eq_false_iff_not]; exact h
  go_enter Tryd.func18, Tryd.ntmps18
  go_wp2_with (go_at_call 21; refine (is_any _ _).mono ?_; rintro e w' ⟨rfl, rfl⟩)
  all_goals
    go_ret
    exact ⟨ret_bool (by rw [V.out]), rfl⟩

theorem and_one_i64 (x : Int) (h0 : 0 ≤ x) (h : x < 9223372036854775808) : bits .and .i64 x 1 = x % 2 := by
  obtain ⟨i, rfl⟩ := Int.eq_ofNat_of_zero_le h0
  have hi : i < 9223372036854775808 := by omega
  show IntKind.i64.wrap ((BitVec.ofInt 64 (i : Int) &&& BitVec.ofInt 64 1).toNat : Int) = _
  have e1 : (BitVec.ofInt 64 (i : Int)).toNat = i := by simp; omega
  have e2 : (BitVec.ofInt 64 1).toNat = 1 := by decide
  rw [BitVec.toNat_and, e1, e2, Nat.and_one_is_mod]
  have : IntKind.i64.wrap ((i % 2 : Nat) : Int) = ((i % 2 : Nat) : Int) := IntWalk.i64_in _ (by omega)
  rw [this]
  omega
/-- The bit of a state in a set. -/
theorem in_bit (k : Nat) {s : Int} (hk : k ≤ 8) (hs : 0 ≤ s) {d : Int} (hd : d = 2 ^ k) : (s / d % 2 == 1) = inV k s := by
  unfold inV
  have h1 : decide (s = -1) = false := by rw [decide_eq_false_iff_not]; omega
  have h2 : decide ((0 : Int) ≤ (k : Int) ∧ (k : Int) ≤ 8) = true := by rw [decide_eq_true_iff]; omega
  rw [h1, h2, hd, Int.toNat_natCast, Bool.eq_iff_iff]
  simp

theorem in_0 (s : Int) (w : World) (hs : 0 ≤ s) (hs2 : s ≤ 1023) : Calls Tryd.prog 18 #[.int .i64 0, .int .i64 s] w fun e w' => e = .returned (.bool (inV 0 s)) ∧ w = w' := by
  have z : (s == -1) = false := by rw [beq_eq_false_iff_ne]; omega
  have h2 : decide ((0 : Int) ≤ 0 ∧ (0 : Int) ≤ 8) = true := by decide
  have h3 : bits .and .i64 (s) 1 = s % 2 := and_one_i64 _ (by omega) (by omega)
  go_enter Tryd.func18, Tryd.ntmps18
  go_wp2_with (go_at_call 21; refine (is_any _ _).mono ?_; rintro e w' ⟨rfl, rfl⟩)
  go_ret
  exact ⟨ret_bool (by have h := in_bit 0 (d := 1) (by decide) hs (by decide); rw [Int.ediv_one] at h; exact h), rfl⟩

theorem in_1 (s : Int) (w : World) (hs : 0 ≤ s) (hs2 : s ≤ 1023) : Calls Tryd.prog 18 #[.int .i64 1, .int .i64 s] w fun e w' => e = .returned (.bool (inV 1 s)) ∧ w = w' := by
  have z : (s == -1) = false := by rw [beq_eq_false_iff_ne]; omega
  have h2 : decide ((0 : Int) ≤ 1 ∧ (1 : Int) ≤ 8) = true := by decide
  have h3 : bits .and .i64 (s / 2) 1 = s / 2 % 2 := and_one_i64 _ (by omega) (by omega)
  go_enter Tryd.func18, Tryd.ntmps18
  go_wp2_with (go_at_call 21; refine (is_any _ _).mono ?_; rintro e w' ⟨rfl, rfl⟩)
  go_ret
  exact ⟨ret_bool (in_bit 1 (d := 2) (by decide) hs (by decide)), rfl⟩

theorem in_2 (s : Int) (w : World) (hs : 0 ≤ s) (hs2 : s ≤ 1023) : Calls Tryd.prog 18 #[.int .i64 2, .int .i64 s] w fun e w' => e = .returned (.bool (inV 2 s)) ∧ w = w' := by
  have z : (s == -1) = false := by rw [beq_eq_false_iff_ne]; omega
  have h2 : decide ((0 : Int) ≤ 2 ∧ (2 : Int) ≤ 8) = true := by decide
  have h3 : bits .and .i64 (s / 4) 1 = s / 4 % 2 := and_one_i64 _ (by omega) (by omega)
  go_enter Tryd.func18, Tryd.ntmps18
  go_wp2_with (go_at_call 21; refine (is_any _ _).mono ?_; rintro e w' ⟨rfl, rfl⟩)
  go_ret
  exact ⟨ret_bool (in_bit 2 (d := 4) (by decide) hs (by decide)), rfl⟩

theorem in_3 (s : Int) (w : World) (hs : 0 ≤ s) (hs2 : s ≤ 1023) : Calls Tryd.prog 18 #[.int .i64 3, .int .i64 s] w fun e w' => e = .returned (.bool (inV 3 s)) ∧ w = w' := by
  have z : (s == -1) = false := by rw [beq_eq_false_iff_ne]; omega
  have h2 : decide ((0 : Int) ≤ 3 ∧ (3 : Int) ≤ 8) = true := by decide
  have h3 : bits .and .i64 (s / 8) 1 = s / 8 % 2 := and_one_i64 _ (by omega) (by omega)
  go_enter Tryd.func18, Tryd.ntmps18
  go_wp2_with (go_at_call 21; refine (is_any _ _).mono ?_; rintro e w' ⟨rfl, rfl⟩)
  go_ret
  exact ⟨ret_bool (in_bit 3 (d := 8) (by decide) hs (by decide)), rfl⟩

theorem in_4 (s : Int) (w : World) (hs : 0 ≤ s) (hs2 : s ≤ 1023) : Calls Tryd.prog 18 #[.int .i64 4, .int .i64 s] w fun e w' => e = .returned (.bool (inV 4 s)) ∧ w = w' := by
  have z : (s == -1) = false := by rw [beq_eq_false_iff_ne]; omega
  have h2 : decide ((0 : Int) ≤ 4 ∧ (4 : Int) ≤ 8) = true := by decide
  have h3 : bits .and .i64 (s / 16) 1 = s / 16 % 2 := and_one_i64 _ (by omega) (by omega)
  go_enter Tryd.func18, Tryd.ntmps18
  go_wp2_with (go_at_call 21; refine (is_any _ _).mono ?_; rintro e w' ⟨rfl, rfl⟩)
  go_ret
  exact ⟨ret_bool (in_bit 4 (d := 16) (by decide) hs (by decide)), rfl⟩

theorem in_5 (s : Int) (w : World) (hs : 0 ≤ s) (hs2 : s ≤ 1023) : Calls Tryd.prog 18 #[.int .i64 5, .int .i64 s] w fun e w' => e = .returned (.bool (inV 5 s)) ∧ w = w' := by
  have z : (s == -1) = false := by rw [beq_eq_false_iff_ne]; omega
  have h2 : decide ((0 : Int) ≤ 5 ∧ (5 : Int) ≤ 8) = true := by decide
  have h3 : bits .and .i64 (s / 32) 1 = s / 32 % 2 := and_one_i64 _ (by omega) (by omega)
  go_enter Tryd.func18, Tryd.ntmps18
  go_wp2_with (go_at_call 21; refine (is_any _ _).mono ?_; rintro e w' ⟨rfl, rfl⟩)
  go_ret
  exact ⟨ret_bool (in_bit 5 (d := 32) (by decide) hs (by decide)), rfl⟩

theorem in_6 (s : Int) (w : World) (hs : 0 ≤ s) (hs2 : s ≤ 1023) : Calls Tryd.prog 18 #[.int .i64 6, .int .i64 s] w fun e w' => e = .returned (.bool (inV 6 s)) ∧ w = w' := by
  have z : (s == -1) = false := by rw [beq_eq_false_iff_ne]; omega
  have h2 : decide ((0 : Int) ≤ 6 ∧ (6 : Int) ≤ 8) = true := by decide
  have h3 : bits .and .i64 (s / 64) 1 = s / 64 % 2 := and_one_i64 _ (by omega) (by omega)
  go_enter Tryd.func18, Tryd.ntmps18
  go_wp2_with (go_at_call 21; refine (is_any _ _).mono ?_; rintro e w' ⟨rfl, rfl⟩)
  go_ret
  exact ⟨ret_bool (in_bit 6 (d := 64) (by decide) hs (by decide)), rfl⟩

theorem in_7 (s : Int) (w : World) (hs : 0 ≤ s) (hs2 : s ≤ 1023) : Calls Tryd.prog 18 #[.int .i64 7, .int .i64 s] w fun e w' => e = .returned (.bool (inV 7 s)) ∧ w = w' := by
  have z : (s == -1) = false := by rw [beq_eq_false_iff_ne]; omega
  have h2 : decide ((0 : Int) ≤ 7 ∧ (7 : Int) ≤ 8) = true := by decide
  have h3 : bits .and .i64 (s / 128) 1 = s / 128 % 2 := and_one_i64 _ (by omega) (by omega)
  go_enter Tryd.func18, Tryd.ntmps18
  go_wp2_with (go_at_call 21; refine (is_any _ _).mono ?_; rintro e w' ⟨rfl, rfl⟩)
  go_ret
  exact ⟨ret_bool (in_bit 7 (d := 128) (by decide) hs (by decide)), rfl⟩

theorem in_8 (s : Int) (w : World) (hs : 0 ≤ s) (hs2 : s ≤ 1023) : Calls Tryd.prog 18 #[.int .i64 8, .int .i64 s] w fun e w' => e = .returned (.bool (inV 8 s)) ∧ w = w' := by
  have z : (s == -1) = false := by rw [beq_eq_false_iff_ne]; omega
  have h2 : decide ((0 : Int) ≤ 8 ∧ (8 : Int) ≤ 8) = true := by decide
  have h3 : bits .and .i64 (s / 256) 1 = s / 256 % 2 := and_one_i64 _ (by omega) (by omega)
  go_enter Tryd.func18, Tryd.ntmps18
  go_wp2_with (go_at_call 21; refine (is_any _ _).mono ?_; rintro e w' ⟨rfl, rfl⟩)
  go_ret
  exact ⟨ret_bool (in_bit 8 (d := 256) (by decide) hs (by decide)), rfl⟩

/-- Whether a state is one of a set. -/
theorem in_any (o s : Int) (w : World) (h : s = -1 ∨ 0 ≤ s ∧ s ≤ 1023) : Calls Tryd.prog 18 #[.int .i64 o, .int .i64 s] w fun e w' => e = .returned (.bool (inV o s)) ∧ w = w' := by
  rcases h with rfl | ⟨h0, h1⟩
  · exact in_all o w
  · by_cases ho : 0 ≤ o ∧ o ≤ 8
    · obtain ⟨o1, o2⟩ := ho
      have : o = 0 ∨ o = 1 ∨ o = 2 ∨ o = 3 ∨ o = 4 ∨ o = 5 ∨ o = 6 ∨ o = 7 ∨ o = 8 := by omega
      rcases this with rfl | rfl | rfl | rfl | rfl | rfl | rfl | rfl | rfl
      · exact in_0 s w h0 h1
      · exact in_1 s w h0 h1
      · exact in_2 s w h0 h1
      · exact in_3 s w h0 h1
      · exact in_4 s w h0 h1
      · exact in_5 s w h0 h1
      · exact in_6 s w h0 h1
      · exact in_7 s w h0 h1
      · exact in_8 s w h0 h1
    · exact in_out o s w ho h0

/-- The row at a place of the table. -/
def rowAt (k : Nat) : Int × Int × Int × Int := tab.getD k (0, 0, 0, 0)
def rowA (k : Nat) : Int := (rowAt k).1
def rowB (k : Nat) : Int := (rowAt k).2.1
def rowC (k : Nat) : Int := (rowAt k).2.2.1
def rowD (k : Nat) : Int := (rowAt k).2.2.2
def fits (k : Nat) (s e o : Int) : Bool := decide (rowA k = s) && (decide (rowB k = e) && inV o (rowC k))
/-- The first row from a place on that fits. -/
def nextFrom (s e o : Int) : (many k : Nat) → Int
  | 0, _ => s
  | m + 1, k => if fits k s e o = true then rowD k else nextFrom s e o m (k + 1)
def nextV (s e o : Int) : Int := nextFrom s e o 19 0

theorem idx_row (k : Nat) (hk : k < 19) (w : World) : (Instr.index 34 (.agg rowsC) (.int .i64 k)).run Tryd.prog w = .ok (.agg #[.int .i64 (rowA k), .int .i64 (rowB k), .int .i64 (rowC k), .int .i64 (rowD k)]) w := by
  have : k = 0 ∨ k = 1 ∨ k = 2 ∨ k = 3 ∨ k = 4 ∨ k = 5 ∨ k = 6 ∨ k = 7 ∨ k = 8 ∨ k = 9 ∨ k = 10 ∨ k = 11 ∨ k = 12 ∨ k = 13 ∨ k = 14 ∨ k = 15 ∨ k = 16 ∨ k = 17 ∨ k = 18 := by omega
  rcases this with rfl | rfl | rfl | rfl | rfl | rfl | rfl | rfl | rfl | rfl | rfl | rfl | rfl | rfl | rfl | rfl | rfl | rfl | rfl
  · show _ = _
    kernel_rfl
  · show _ = _
    kernel_rfl
  · show _ = _
    kernel_rfl
  · show _ = _
    kernel_rfl
  · show _ = _
    kernel_rfl
  · show _ = _
    kernel_rfl
  · show _ = _
    kernel_rfl
  · show _ = _
    kernel_rfl
  · show _ = _
    kernel_rfl
  · show _ = _
    kernel_rfl
  · show _ = _
    kernel_rfl
  · show _ = _
    kernel_rfl
  · show _ = _
    kernel_rfl
  · show _ = _
    kernel_rfl
  · show _ = _
    kernel_rfl
  · show _ = _
    kernel_rfl
  · show _ = _
    kernel_rfl
  · show _ = _
    kernel_rfl
  · show _ = _
    kernel_rfl
theorem row_set (k : Nat) (hk : k < 19) : rowC k = -1 ∨ 0 ≤ rowC k ∧ rowC k ≤ 1023 := by
  have : k = 0 ∨ k = 1 ∨ k = 2 ∨ k = 3 ∨ k = 4 ∨ k = 5 ∨ k = 6 ∨ k = 7 ∨ k = 8 ∨ k = 9 ∨ k = 10 ∨ k = 11 ∨ k = 12 ∨ k = 13 ∨ k = 14 ∨ k = 15 ∨ k = 16 ∨ k = 17 ∨ k = 18 := by omega
  rcases this with rfl | rfl | rfl | rfl | rfl | rfl | rfl | rfl | rfl | rfl | rfl | rfl | rfl | rfl | rfl | rfl | rfl | rfl | rfl
  · decide
  · decide
  · decide
  · decide
  · decide
  · decide
  · decide
  · decide
  · decide
  · decide
  · decide
  · decide
  · decide
  · decide
  · decide
  · decide
  · decide
  · decide
  · decide

end Go.Proofs.YtoeoobmgcigdgaaDoor
