/- Contracts of the reference of fsm; that the table tells the same. -/
import Derived.Test.YtoeoobmgcigdgaaDoorNext
namespace Go.Proofs.YtoeoobmgcigdgaaDoor
open Go.ChangeShapes Go.WideShapes Go.ChangeAt Go.RowKit
set_option linter.unusedVariables false

def tornB (s : Int) : Bool := decide (s = 4) || decide (s = 5)
def calmB (s : Int) : Bool := decide (s = 0) || decide (s = 1) || decide (s = 2) || decide (s = 8)
def heardV (s o : Int) : Int :=
  if s = 0 then (if o = 3 then 6 else if tornB o = true then 4 else if calmB o = true then 1 else s)
  else if s = 1 then (if o = 3 ∨ tornB o = true then 4 else s)
  else if s = 2 then (if o = 3 ∨ tornB o = true then 4 else if calmB o = true then 1 else s)
  else if s = 3 then (if o = 1 ∨ o = 2 ∨ o = 3 ∨ tornB o = true then 4 else s)
  else if s = 5 then 4
  else if s = 8 then (if o = 1 then 1 else if tornB o = true then 4 else s)
  else s
def syncedV (s o : Int) : Int :=
  if s = 3 then (if o = 8 then 1 else s)
  else if s = 4 then (if o = 1 ∨ o = 4 then 1 else s)
  else if s = 6 then 7 else s
def refV (s e o : Int) : Int :=
  if e = 0 then heardV s o
  else if e = 3 then syncedV s o
  else if e = 1 then (if s = 1 then 2 else if s = 4 then 5 else s)
  else if e = 2 then (if s = 0 ∨ s = 2 ∨ s = 5 then 3 else s)
  else if e = 4 then (if s = 7 then 8 else s)
  else s

theorem torn_any (s : Int) (w : World) : Calls Tryd.prog 22 #[.int .i64 s] w fun e' w' => e' = .returned (.bool (tornB s)) ∧ w = w' := by
  go_enter Tryd.func22, Tryd.ntmps22
  go_wp2
  all_goals
    go_ret
    exact ⟨ret_bool (by unfold tornB; grind), rfl⟩

theorem calm_any (s : Int) (w : World) : Calls Tryd.prog 23 #[.int .i64 s] w fun e' w' => e' = .returned (.bool (calmB s)) ∧ w = w' := by
  go_enter Tryd.func23, Tryd.ntmps23
  go_wp2
  all_goals
    go_ret
    exact ⟨ret_bool (by unfold calmB; grind), rfl⟩

theorem lcalm_any (s : Int) (w : World) : Calls Tryd.prog 11 #[.int .i64 s] w fun e' w' => e' = .returned (.bool (decide (s = 0) || decide (s = 1) || decide (s = 2))) ∧ w = w' := by
  go_enter Tryd.func11, Tryd.ntmps11
  go_wp2
  all_goals
    go_ret
    exact ⟨ret_bool (by grind), rfl⟩

theorem heard_any (s o : Int) (w : World) : Calls Tryd.prog 19 #[.int .i64 s, .int .i64 o] w fun e' w' => e' = .returned (.int .i64 (heardV s o)) ∧ w = w' := by
  go_enter Tryd.func19, Tryd.ntmps19
  go_wp2_with (first | (go_at_call 22; refine (torn_any _ _).mono ?_; rintro e w' ⟨rfl, rfl⟩) | (go_at_call 23; refine (calm_any _ _).mono ?_; rintro e w' ⟨rfl, rfl⟩))
  all_goals
    go_ret
    exact ⟨ret_int (by unfold heardV; grind), rfl⟩

theorem synced_any (s o : Int) (w : World) : Calls Tryd.prog 20 #[.int .i64 s, .int .i64 o] w fun e' w' => e' = .returned (.int .i64 (syncedV s o)) ∧ w = w' := by
  go_enter Tryd.func20, Tryd.ntmps20
  go_wp2
  all_goals
    go_ret
    exact ⟨ret_int (by unfold syncedV; grind), rfl⟩

theorem rnext_any (s e o : Int) (w : World) : Calls Tryd.prog 10 #[.int .i64 s, .int .i64 e, .int .i64 o] w fun e' w' => e' = .returned (.int .i64 (refV s e o)) ∧ w = w' := by
  go_enter Tryd.func10, Tryd.ntmps10
  go_wp2_with (first | (go_at_call 19; refine (heard_any _ _ _).mono ?_; rintro e w' ⟨rfl, rfl⟩) | (go_at_call 20; refine (synced_any _ _ _).mono ?_; rintro e w' ⟨rfl, rfl⟩))
  all_goals
    go_ret
    exact ⟨ret_int (by unfold refV; grind), rfl⟩

theorem serves_any (s : Int) (w : World) : Calls Tryd.prog 12 #[.int .i64 s] w fun e' w' => e' = .returned (.bool (inV s 14)) ∧ w = w' := by
  go_enter Tryd.func12, Tryd.ntmps12
  go_wp2_with (go_at_call 18; refine (in_any _ _ _ (by omega)).mono ?_; rintro e' w' ⟨rfl, rfl⟩)
  all_goals
    go_ret
    exact ⟨rfl, rfl⟩

theorem rserves_any (s : Int) (w : World) : Calls Tryd.prog 13 #[.int .i64 s] w fun e' w' => e' = .returned (.bool (decide (s = 1) || decide (s = 2) || decide (s = 3))) ∧ w = w' := by
  go_enter Tryd.func13, Tryd.ntmps13
  go_wp2
  all_goals
    go_ret
    exact ⟨ret_bool (by grind), rfl⟩

theorem restart_any (s : Int) (w : World) : Calls Tryd.prog 14 #[.int .i64 s] w fun e' w' => e' = .returned (.int .i64 (if s = 3 then 3 else 0)) ∧ w = w' := by
  go_enter Tryd.func14, Tryd.ntmps14
  go_wp2
  all_goals
    go_ret
    exact ⟨ret_int (by grind), rfl⟩

theorem rrestart_any (s : Int) (w : World) : Calls Tryd.prog 15 #[.int .i64 s] w fun e' w' => e' = .returned (.int .i64 (if s = 3 then 3 else 0)) ∧ w = w' := by
  go_enter Tryd.func15, Tryd.ntmps15
  go_wp2
  all_goals
    go_ret
    exact ⟨ret_int (by grind), rfl⟩

/-- A number of a state; 9 stands for all others. -/
def cl (x : Int) : Int := if 0 ≤ x ∧ x ≤ 8 then x else 9
theorem cl_iff (x : Int) {c : Int} (h0 : 0 ≤ c) (h : c ≤ 8) : (x = c) ↔ (cl x = c) := by unfold cl; split <;> omega
theorem cl_range (x : Int) : ∃ n : Nat, n < 10 ∧ cl x = n := by
  unfold cl
  split
  · exact ⟨x.toNat, by omega, by omega⟩
  · exact ⟨9, by omega, rfl⟩
/-- Which row's state follows, if any. -/
def nextO (s e o : Int) : (many k : Nat) → Option Int
  | 0, _ => none
  | m + 1, k => if fits k s e o = true then some (rowD k) else nextO s e o m (k + 1)
theorem nextFrom_eq (s e o : Int) : ∀ m k, nextFrom s e o m k = (nextO s e o m k).getD s
  | 0, _ => rfl
  | m + 1, k => by
    unfold nextFrom nextO
    split
    · rfl
    · exact nextFrom_eq s e o m (k + 1)
theorem row_ab (k : Nat) : (0 ≤ rowA k ∧ rowA k ≤ 8) ∧ 0 ≤ rowB k ∧ rowB k ≤ 8 := by
  by_cases h : k < 19
  · have : k = 0 ∨ k = 1 ∨ k = 2 ∨ k = 3 ∨ k = 4 ∨ k = 5 ∨ k = 6 ∨ k = 7 ∨ k = 8 ∨ k = 9 ∨ k = 10 ∨ k = 11 ∨ k = 12 ∨ k = 13 ∨ k = 14 ∨ k = 15 ∨ k = 16 ∨ k = 17 ∨ k = 18 := by omega
    rcases this with rfl | rfl | rfl | rfl | rfl | rfl | rfl | rfl | rfl | rfl | rfl | rfl | rfl | rfl | rfl | rfl | rfl | rfl | rfl <;> decide
  · have e : rowAt k = (0, 0, 0, 0) := by
      unfold rowAt
      rw [List.getD_eq_getElem?_getD, List.getElem?_eq_none (by show 19 ≤ k; omega)]
      rfl
    unfold rowA rowB
    rw [e]
    decide
theorem inV_cl (o c : Int) : inV (cl o) c = inV o c := by
  unfold cl
  split
  · rfl
  · next h =>
    unfold inV
    have h1 : decide (0 ≤ o ∧ o ≤ 8) = false := by rw [decide_eq_false_iff_not]; exact h
    rw [h1]
    simp
theorem fits_cl (k : Nat) (s e o : Int) : fits k (cl s) (cl e) (cl o) = fits k s e o := by
  unfold fits
  obtain ⟨⟨a1, a2⟩, b1, b2⟩ := row_ab k
  have h1 := cl_iff s a1 a2
  have h2 := cl_iff e b1 b2
  have e1 : decide (rowA k = cl s) = decide (rowA k = s) := decide_eq_decide.2 ⟨fun h => (h1.2 h.symm).symm, fun h => (h1.1 h.symm).symm⟩
  have e2 : decide (rowB k = cl e) = decide (rowB k = e) := decide_eq_decide.2 ⟨fun h => (h2.2 h.symm).symm, fun h => (h2.1 h.symm).symm⟩
  rw [e1, e2, inV_cl]
theorem nextO_cl (s e o : Int) : ∀ m k, nextO (cl s) (cl e) (cl o) m k = nextO s e o m k
  | 0, _ => rfl
  | m + 1, k => by
    unfold nextO
    rw [fits_cl, nextO_cl s e o m (k + 1)]

def heardO (s o : Int) : Option Int :=
  if s = 0 then (if o = 3 then some 6 else if tornB o = true then some 4 else if calmB o = true then some 1 else none)
  else if s = 1 then (if o = 3 ∨ tornB o = true then some 4 else none)
  else if s = 2 then (if o = 3 ∨ tornB o = true then some 4 else if calmB o = true then some 1 else none)
  else if s = 3 then (if o = 1 ∨ o = 2 ∨ o = 3 ∨ tornB o = true then some 4 else none)
  else if s = 5 then some 4
  else if s = 8 then (if o = 1 then some 1 else if tornB o = true then some 4 else none)
  else none
def syncedO (s o : Int) : Option Int :=
  if s = 3 then (if o = 8 then some 1 else none)
  else if s = 4 then (if o = 1 ∨ o = 4 then some 1 else none)
  else if s = 6 then some 7 else none
def refO (s e o : Int) : Option Int :=
  if e = 0 then heardO s o
  else if e = 3 then syncedO s o
  else if e = 1 then (if s = 1 then some 2 else if s = 4 then some 5 else none)
  else if e = 2 then (if s = 0 ∨ s = 2 ∨ s = 5 then some 3 else none)
  else if e = 4 then (if s = 7 then some 8 else none)
  else none
theorem ite_getD {c : Prop} [Decidable c] (x y : Option Int) (s : Int) : (if c then x else y).getD s = if c then x.getD s else y.getD s := by split <;> rfl
theorem ref_eq (s e o : Int) : refV s e o = (refO s e o).getD s := by
  unfold refV refO heardV heardO syncedV syncedO
  simp only [ite_getD, Option.getD_some, Option.getD_none]
theorem torn_cl (o : Int) : tornB (cl o) = tornB o := by
  unfold tornB
  rw [decide_eq_decide.2 (cl_iff o (c := 4) (by omega) (by omega)), decide_eq_decide.2 (cl_iff o (c := 5) (by omega) (by omega))]
theorem calm_cl (o : Int) : calmB (cl o) = calmB o := by
  unfold calmB
  rw [decide_eq_decide.2 (cl_iff o (c := 0) (by omega) (by omega)), decide_eq_decide.2 (cl_iff o (c := 1) (by omega) (by omega)), decide_eq_decide.2 (cl_iff o (c := 2) (by omega) (by omega)), decide_eq_decide.2 (cl_iff o (c := 8) (by omega) (by omega))]
theorem refO_cl (s e o : Int) : refO (cl s) (cl e) (cl o) = refO s e o := by
  unfold refO heardO syncedO
  rw [torn_cl, calm_cl]
  simp only [← cl_iff s (c := 0) (by omega) (by omega), ← cl_iff s (c := 1) (by omega) (by omega), ← cl_iff s (c := 2) (by omega) (by omega), ← cl_iff s (c := 3) (by omega) (by omega), ← cl_iff s (c := 4) (by omega) (by omega), ← cl_iff s (c := 5) (by omega) (by omega), ← cl_iff s (c := 6) (by omega) (by omega), ← cl_iff s (c := 7) (by omega) (by omega), ← cl_iff s (c := 8) (by omega) (by omega),
    ← cl_iff e (c := 0) (by omega) (by omega), ← cl_iff e (c := 1) (by omega) (by omega), ← cl_iff e (c := 2) (by omega) (by omega), ← cl_iff e (c := 3) (by omega) (by omega), ← cl_iff e (c := 4) (by omega) (by omega),
    ← cl_iff o (c := 1) (by omega) (by omega), ← cl_iff o (c := 2) (by omega) (by omega), ← cl_iff o (c := 3) (by omega) (by omega), ← cl_iff o (c := 4) (by omega) (by omega), ← cl_iff o (c := 8) (by omega) (by omega)]
theorem all_same : ∀ a, a < 10 → ∀ b, b < 10 → ∀ c, c < 10 → nextO ((a : Nat) : Int) ((b : Nat) : Int) ((c : Nat) : Int) 19 0 = refO a b c := by decide +kernel
/-- The table tells what the reference does. -/
theorem next_eq (s e o : Int) : nextV s e o = refV s e o := by
  unfold nextV
  rw [nextFrom_eq, ref_eq, ← nextO_cl, ← refO_cl]
  obtain ⟨a, ha, ea⟩ := cl_range s
  obtain ⟨b, hb, eb⟩ := cl_range e
  obtain ⟨c, hc, ec⟩ := cl_range o
  rw [ea, eb, ec, all_same a ha b hb c hc]

end Go.Proofs.YtoeoobmgcigdgaaDoor
