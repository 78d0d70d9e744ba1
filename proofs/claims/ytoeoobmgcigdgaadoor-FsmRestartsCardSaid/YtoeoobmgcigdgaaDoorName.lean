/- Contracts of fsm.Name and of awake; what a world keeps. -/
import Derived.Test.YtoeoobmgcigdgaaDoorRef
import Derived.Test.YtoeoobmgcigdgaaDoorTied
namespace Go.Proofs.YtoeoobmgcigdgaaDoor
open Go.ChangeShapes Go.WideShapes Go.ChangeAt Go.RowKit
set_option linter.unusedVariables false

/-- From a world W on: nothing that was there has turned. -/
def Ext (W w : World) : Prop := Below W.heap.size W w ∧ Ready W ∧ 2 ≤ W.heap.size
theorem Ext.refl {W : World} (h : Ready W) : Ext W W := by
  refine ⟨Below.refl _ _, h, ?_⟩
  obtain ⟨_, t, fr, e⟩ := h
  rcases Nat.lt_or_ge 1 W.heap.size with hl | hl
  · omega
  · rw [Array.getElem?_eq_none hl] at e; cases e
theorem Ext.ready {W w : World} (h : Ext W w) : Ready w := by
  obtain ⟨hb, ⟨⟨t, fr, e⟩, t', fr', e'⟩, hs⟩ := h
  exact ⟨⟨t, fr, (hb.block 0 (by omega)).trans e⟩, t', fr', (hb.block 1 (by omega)).trans e'⟩
theorem Ext.step {W w w' : World} (h : Ext W w) (hb : Below w.heap.size w w') : Ext W w' := ⟨h.1.trans (hb.mono h.1.size), h.2⟩
theorem Ext.alloc {W w : World} (h : Ext W w) (o : Obj) : Ext W (w.alloc o) := ⟨h.1.alloc h.1.size o, h.2⟩
theorem Ext.setCell {W w : World} (h : Ext W w) {p : Addr} (hp : W.heap.size ≤ p.block) (v : Value) : Ext W (w.setCell p v) := ⟨h.1.setCell hp v, h.2⟩
theorem Ext.drew {W w : World} (h : Ext W w) : Ext W w.drew := ⟨h.1.drew, h.2⟩
theorem Ext.drewN {W w : World} (h : Ext W w) (n : Nat) : Ext W (w.drewN n) := h.step (by exact ⟨rfl, rfl, rfl, Nat.le_refl _, fun _ _ => rfl⟩)

theorem next_call {W w : World} (h : Ext W w) (s e o : Int) : Calls Tryd.prog 9 #[.int .i64 s, .int .i64 e, .int .i64 o] w fun e' w' => e' = .returned (.int .i64 (nextV s e o)) ∧ Ext W w' := by
  obtain ⟨⟨t, fr, hg⟩, _⟩ := h.ready
  exact (next_any s e o w t fr hg).mono fun _ _ ⟨a, b⟩ => ⟨a, h.step b⟩

def nameV (s : Int) : ByteArray := if s = 0 then ⟨#[83, 116, 97, 114, 116, 117, 112]⟩ else if s = 1 then ⟨#[78, 111, 114, 109, 97, 108]⟩ else if s = 2 then ⟨#[73, 110, 116, 101, 114, 114, 117, 112, 116, 101, 100]⟩ else if s = 3 then ⟨#[80, 97, 114, 116, 110, 101, 114, 68, 111, 119, 110]⟩ else if s = 4 then ⟨#[67, 111, 110, 102, 108, 105, 99, 116]⟩ else if s = 5 then ⟨#[82, 101, 115, 73, 110, 116, 101, 114, 114, 117, 112, 116, 101, 100]⟩ else if s = 6 then ⟨#[82, 101, 99, 111, 118, 101, 114]⟩ else if s = 7 then ⟨#[82, 101, 99, 111, 118, 101, 114, 87, 97, 105, 116]⟩ else if s = 8 then ⟨#[82, 101, 99, 111, 118, 101, 114, 68, 111, 110, 101]⟩ else ByteArray.empty
theorem name_out (s : Int) (h : ¬ (0 ≤ s ∧ s ≤ 8)) : nameV s = ByteArray.empty := by
  unfold nameV
  rw [if_neg (by omega), if_neg (by omega), if_neg (by omega), if_neg (by omega), if_neg (by omega), if_neg (by omega), if_neg (by omega), if_neg (by omega), if_neg (by omega)]
theorem name_other (s : Int) (w : World) (h : ¬ (0 ≤ s ∧ s ≤ 8)) : Calls Tryd.prog 16 #[.int .i64 s] w fun e' w' => e' = .returned (.string (nameV s)) ∧ w = w' := by
  have V := Lib.hid (name_out s h)
  have z : decide (0 ≤ s ∧ s ≤ 8) = false := by rw [decide_eq_false_iff_not]; exact h
  clear h
  go_enter Tryd.func16, Tryd.ntmps16
  go_wp2_with (go_at_call 21; refine (is_any _ _).mono ?_; rintro e w' ⟨rfl, rfl⟩)
  go_ret
  exact ⟨ret_str V.out.symm, rfl⟩
theorem rname_other (s : Int) (w : World) (h : ¬ (0 ≤ s ∧ s ≤ 8)) : Calls Tryd.prog 17 #[.int .i64 s] w fun e' w' => e' = .returned (.string (nameV s)) ∧ w = w' := by
  have V := Lib.hid (name_out s h)
  go_enter Tryd.func17, Tryd.ntmps17
  go_wp2
  all_goals
    go_ret
    exact ⟨ret_str V.out.symm, rfl⟩

theorem name_0 (w : World) (t : TypeId) (fr : Nat × Nat) (hg : w.heap[1]? = some (.cells namesC t fr)) : Calls Tryd.prog 16 #[.int .i64 0] w fun e' w' => e' = .returned (.string (nameV 0)) ∧ w = w' := by
  have V : Hid (nameV 0 = ⟨#[83, 116, 97, 114, 116, 117, 112]⟩) := rfl
  have hc : w.cell? ⟨1, 0, none⟩ = some (.string ⟨#[83, 116, 97, 114, 116, 117, 112]⟩) := by simp [World.cell?, hg, namesC]
  have z : decide ((0 : Int) ≤ 0 ∧ (0 : Int) ≤ 8) = true := by decide
  clear hg
  go_enter Tryd.func16, Tryd.ntmps16
  go_wp2_with (go_at_call 21; refine (is_any _ _).mono ?_; rintro e w' ⟨rfl, rfl⟩)
  go_ret
  exact ⟨ret_str V.out.symm, rfl⟩
theorem rname_0 (w : World) : Calls Tryd.prog 17 #[.int .i64 0] w fun e' w' => e' = .returned (.string (nameV 0)) ∧ w = w' := by
  have V : Hid (nameV 0 = ⟨#[83, 116, 97, 114, 116, 117, 112]⟩) := rfl
  have X : ∀ w, (Instr.index 37 (.agg #[.string ⟨#[83, 116, 97, 114, 116, 117, 112]⟩, .string ⟨#[78, 111, 114, 109, 97, 108]⟩, .string ⟨#[73, 110, 116, 101, 114, 114, 117, 112, 116, 101, 100]⟩, .string ⟨#[80, 97, 114, 116, 110, 101, 114, 68, 111, 119, 110]⟩, .string ⟨#[67, 111, 110, 102, 108, 105, 99, 116]⟩, .string ⟨#[82, 101, 115, 73, 110, 116, 101, 114, 114, 117, 112, 116, 101, 100]⟩, .string ⟨#[82, 101, 99, 111, 118, 101, 114]⟩, .string ⟨#[82, 101, 99, 111, 118, 101, 114, 87, 97, 105, 116]⟩, .string ⟨#[82, 101, 99, 111, 118, 101, 114, 68, 111, 110, 101]⟩]) (.int .i64 0)).run Tryd.prog w = .ok (.string ⟨#[83, 116, 97, 114, 116, 117, 112]⟩) w := fun _ => by kernel_rfl
  go_enter Tryd.func17, Tryd.ntmps17
  go_wp2
  go_ret
  exact ⟨ret_str V.out.symm, rfl⟩

theorem name_1 (w : World) (t : TypeId) (fr : Nat × Nat) (hg : w.heap[1]? = some (.cells namesC t fr)) : Calls Tryd.prog 16 #[.int .i64 1] w fun e' w' => e' = .returned (.string (nameV 1)) ∧ w = w' := by
  have V : Hid (nameV 1 = ⟨#[78, 111, 114, 109, 97, 108]⟩) := rfl
  have hc : w.cell? ⟨1, 1, none⟩ = some (.string ⟨#[78, 111, 114, 109, 97, 108]⟩) := by simp [World.cell?, hg, namesC]
  have z : decide ((0 : Int) ≤ 1 ∧ (1 : Int) ≤ 8) = true := by decide
  clear hg
  go_enter Tryd.func16, Tryd.ntmps16
  go_wp2_with (go_at_call 21; refine (is_any _ _).mono ?_; rintro e w' ⟨rfl, rfl⟩)
  go_ret
  exact ⟨ret_str V.out.symm, rfl⟩
theorem rname_1 (w : World) : Calls Tryd.prog 17 #[.int .i64 1] w fun e' w' => e' = .returned (.string (nameV 1)) ∧ w = w' := by
  have V : Hid (nameV 1 = ⟨#[78, 111, 114, 109, 97, 108]⟩) := rfl
  have X : ∀ w, (Instr.index 37 (.agg #[.string ⟨#[83, 116, 97, 114, 116, 117, 112]⟩, .string ⟨#[78, 111, 114, 109, 97, 108]⟩, .string ⟨#[73, 110, 116, 101, 114, 114, 117, 112, 116, 101, 100]⟩, .string ⟨#[80, 97, 114, 116, 110, 101, 114, 68, 111, 119, 110]⟩, .string ⟨#[67, 111, 110, 102, 108, 105, 99, 116]⟩, .string ⟨#[82, 101, 115, 73, 110, 116, 101, 114, 114, 117, 112, 116, 101, 100]⟩, .string ⟨#[82, 101, 99, 111, 118, 101, 114]⟩, .string ⟨#[82, 101, 99, 111, 118, 101, 114, 87, 97, 105, 116]⟩, .string ⟨#[82, 101, 99, 111, 118, 101, 114, 68, 111, 110, 101]⟩]) (.int .i64 1)).run Tryd.prog w = .ok (.string ⟨#[78, 111, 114, 109, 97, 108]⟩) w := fun _ => by kernel_rfl
  go_enter Tryd.func17, Tryd.ntmps17
  go_wp2
  go_ret
  exact ⟨ret_str V.out.symm, rfl⟩

theorem name_2 (w : World) (t : TypeId) (fr : Nat × Nat) (hg : w.heap[1]? = some (.cells namesC t fr)) : Calls Tryd.prog 16 #[.int .i64 2] w fun e' w' => e' = .returned (.string (nameV 2)) ∧ w = w' := by
  have V : Hid (nameV 2 = ⟨#[73, 110, 116, 101, 114, 114, 117, 112, 116, 101, 100]⟩) := rfl
  have hc : w.cell? ⟨1, 2, none⟩ = some (.string ⟨#[73, 110, 116, 101, 114, 114, 117, 112, 116, 101, 100]⟩) := by simp [World.cell?, hg, namesC]
  have z : decide ((0 : Int) ≤ 2 ∧ (2 : Int) ≤ 8) = true := by decide
  clear hg
  go_enter Tryd.func16, Tryd.ntmps16
  go_wp2_with (go_at_call 21; refine (is_any _ _).mono ?_; rintro e w' ⟨rfl, rfl⟩)
  go_ret
  exact ⟨ret_str V.out.symm, rfl⟩
theorem rname_2 (w : World) : Calls Tryd.prog 17 #[.int .i64 2] w fun e' w' => e' = .returned (.string (nameV 2)) ∧ w = w' := by
  have V : Hid (nameV 2 = ⟨#[73, 110, 116, 101, 114, 114, 117, 112, 116, 101, 100]⟩) := rfl
  have X : ∀ w, (Instr.index 37 (.agg #[.string ⟨#[83, 116, 97, 114, 116, 117, 112]⟩, .string ⟨#[78, 111, 114, 109, 97, 108]⟩, .string ⟨#[73, 110, 116, 101, 114, 114, 117, 112, 116, 101, 100]⟩, .string ⟨#[80, 97, 114, 116, 110, 101, 114, 68, 111, 119, 110]⟩, .string ⟨#[67, 111, 110, 102, 108, 105, 99, 116]⟩, .string ⟨#[82, 101, 115, 73, 110, 116, 101, 114, 114, 117, 112, 116, 101, 100]⟩, .string ⟨#[82, 101, 99, 111, 118, 101, 114]⟩, .string ⟨#[82, 101, 99, 111, 118, 101, 114, 87, 97, 105, 116]⟩, .string ⟨#[82, 101, 99, 111, 118, 101, 114, 68, 111, 110, 101]⟩]) (.int .i64 2)).run Tryd.prog w = .ok (.string ⟨#[73, 110, 116, 101, 114, 114, 117, 112, 116, 101, 100]⟩) w := fun _ => by kernel_rfl
  go_enter Tryd.func17, Tryd.ntmps17
  go_wp2
  go_ret
  exact ⟨ret_str V.out.symm, rfl⟩

theorem name_3 (w : World) (t : TypeId) (fr : Nat × Nat) (hg : w.heap[1]? = some (.cells namesC t fr)) : Calls Tryd.prog 16 #[.int .i64 3] w fun e' w' => e' = .returned (.string (nameV 3)) ∧ w = w' := by
  have V : Hid (nameV 3 = ⟨#[80, 97, 114, 116, 110, 101, 114, 68, 111, 119, 110]⟩) := rfl
  have hc : w.cell? ⟨1, 3, none⟩ = some (.string ⟨#[80, 97, 114, 116, 110, 101, 114, 68, 111, 119, 110]⟩) := by simp [World.cell?, hg, namesC]
  have z : decide ((0 : Int) ≤ 3 ∧ (3 : Int) ≤ 8) = true := by decide
  clear hg
  go_enter Tryd.func16, Tryd.ntmps16
  go_wp2_with (go_at_call 21; refine (is_any _ _).mono ?_; rintro e w' ⟨rfl, rfl⟩)
  go_ret
  exact ⟨ret_str V.out.symm, rfl⟩
theorem rname_3 (w : World) : Calls Tryd.prog 17 #[.int .i64 3] w fun e' w' => e' = .returned (.string (nameV 3)) ∧ w = w' := by
  have V : Hid (nameV 3 = ⟨#[80, 97, 114, 116, 110, 101, 114, 68, 111, 119, 110]⟩) := rfl
  have X : ∀ w, (Instr.index 37 (.agg #[.string ⟨#[83, 116, 97, 114, 116, 117, 112]⟩, .string ⟨#[78, 111, 114, 109, 97, 108]⟩, .string ⟨#[73, 110, 116, 101, 114, 114, 117, 112, 116, 101, 100]⟩, .string ⟨#[80, 97, 114, 116, 110, 101, 114, 68, 111, 119, 110]⟩, .string ⟨#[67, 111, 110, 102, 108, 105, 99, 116]⟩, .string ⟨#[82, 101, 115, 73, 110, 116, 101, 114, 114, 117, 112, 116, 101, 100]⟩, .string ⟨#[82, 101, 99, 111, 118, 101, 114]⟩, .string ⟨#[82, 101, 99, 111, 118, 101, 114, 87, 97, 105, 116]⟩, .string ⟨#[82, 101, 99, 111, 118, 101, 114, 68, 111, 110, 101]⟩]) (.int .i64 3)).run Tryd.prog w = .ok (.string ⟨#[80, 97, 114, 116, 110, 101, 114, 68, 111, 119, 110]⟩) w := fun _ => by kernel_rfl
  go_enter Tryd.func17, Tryd.ntmps17
  go_wp2
  go_ret
  exact ⟨ret_str V.out.symm, rfl⟩

theorem name_4 (w : World) (t : TypeId) (fr : Nat × Nat) (hg : w.heap[1]? = some (.cells namesC t fr)) : Calls Tryd.prog 16 #[.int .i64 4] w fun e' w' => e' = .returned (.string (nameV 4)) ∧ w = w' := by
  have V : Hid (nameV 4 = ⟨#[67, 111, 110, 102, 108, 105, 99, 116]⟩) := rfl
  have hc : w.cell? ⟨1, 4, none⟩ = some (.string ⟨#[67, 111, 110, 102, 108, 105, 99, 116]⟩) := by simp [World.cell?, hg, namesC]
  have z : decide ((0 : Int) ≤ 4 ∧ (4 : Int) ≤ 8) = true := by decide
  clear hg
  go_enter Tryd.func16, Tryd.ntmps16
  go_wp2_with (go_at_call 21; refine (is_any _ _).mono ?_; rintro e w' ⟨rfl, rfl⟩)
  go_ret
  exact ⟨ret_str V.out.symm, rfl⟩
theorem rname_4 (w : World) : Calls Tryd.prog 17 #[.int .i64 4] w fun e' w' => e' = .returned (.string (nameV 4)) ∧ w = w' := by
  have V : Hid (nameV 4 = ⟨#[67, 111, 110, 102, 108, 105, 99, 116]⟩) := rfl
  have X : ∀ w, (Instr.index 37 (.agg #[.string ⟨#[83, 116, 97, 114, 116, 117, 112]⟩, .string ⟨#[78, 111, 114, 109, 97, 108]⟩, .string ⟨#[73, 110, 116, 101, 114, 114, 117, 112, 116, 101, 100]⟩, .string ⟨#[80, 97, 114, 116, 110, 101, 114, 68, 111, 119, 110]⟩, .string ⟨#[67, 111, 110, 102, 108, 105, 99, 116]⟩, .string ⟨#[82, 101, 115, 73, 110, 116, 101, 114, 114, 117, 112, 116, 101, 100]⟩, .string ⟨#[82, 101, 99, 111, 118, 101, 114]⟩, .string ⟨#[82, 101, 99, 111, 118, 101, 114, 87, 97, 105, 116]⟩, .string ⟨#[82, 101, 99, 111, 118, 101, 114, 68, 111, 110, 101]⟩]) (.int .i64 4)).run Tryd.prog w = .ok (.string ⟨#[67, 111, 110, 102, 108, 105, 99, 116]⟩) w := fun _ => by kernel_rfl
  go_enter Tryd.func17, Tryd.ntmps17
  go_wp2
  go_ret
  exact ⟨ret_str V.out.symm, rfl⟩

theorem name_5 (w : World) (t : TypeId) (fr : Nat × Nat) (hg : w.heap[1]? = some (.cells namesC t fr)) : Calls Tryd.prog 16 #[.int .i64 5] w fun e' w' => e' = .returned (.string (nameV 5)) ∧ w = w' := by
  have V : Hid (nameV 5 = ⟨#[82, 101, 115, 73, 110, 116, 101, 114, 114, 117, 112, 116, 101, 100]⟩) := rfl
  have hc : w.cell? ⟨1, 5, none⟩ = some (.string ⟨#[82, 101, 115, 73, 110, 116, 101, 114, 114, 117, 112, 116, 101, 100]⟩) := by simp [World.cell?, hg, namesC]
  have z : decide ((0 : Int) ≤ 5 ∧ (5 : Int) ≤ 8) = true := by decide
  clear hg
  go_enter Tryd.func16, Tryd.ntmps16
  go_wp2_with (go_at_call 21; refine (is_any _ _).mono ?_; rintro e w' ⟨rfl, rfl⟩)
  go_ret
  exact ⟨ret_str V.out.symm, rfl⟩
theorem rname_5 (w : World) : Calls Tryd.prog 17 #[.int .i64 5] w fun e' w' => e' = .returned (.string (nameV 5)) ∧ w = w' := by
  have V : Hid (nameV 5 = ⟨#[82, 101, 115, 73, 110, 116, 101, 114, 114, 117, 112, 116, 101, 100]⟩) := rfl
  have X : ∀ w, (Instr.index 37 (.agg #[.string ⟨#[83, 116, 97, 114, 116, 117, 112]⟩, .string ⟨#[78, 111, 114, 109, 97, 108]⟩, .string ⟨#[73, 110, 116, 101, 114, 114, 117, 112, 116, 101, 100]⟩, .string ⟨#[80, 97, 114, 116, 110, 101, 114, 68, 111, 119, 110]⟩, .string ⟨#[67, 111, 110, 102, 108, 105, 99, 116]⟩, .string ⟨#[82, 101, 115, 73, 110, 116, 101, 114, 114, 117, 112, 116, 101, 100]⟩, .string ⟨#[82, 101, 99, 111, 118, 101, 114]⟩, .string ⟨#[82, 101, 99, 111, 118, 101, 114, 87, 97, 105, 116]⟩, .string ⟨#[82, 101, 99, 111, 118, 101, 114, 68, 111, 110, 101]⟩]) (.int .i64 5)).run Tryd.prog w = .ok (.string ⟨#[82, 101, 115, 73, 110, 116, 101, 114, 114, 117, 112, 116, 101, 100]⟩) w := fun _ => by kernel_rfl
  go_enter Tryd.func17, Tryd.ntmps17
  go_wp2
  go_ret
  exact ⟨ret_str V.out.symm, rfl⟩

theorem name_6 (w : World) (t : TypeId) (fr : Nat × Nat) (hg : w.heap[1]? = some (.cells namesC t fr)) : Calls Tryd.prog 16 #[.int .i64 6] w fun e' w' => e' = .returned (.string (nameV 6)) ∧ w = w' := by
  have V : Hid (nameV 6 = ⟨#[82, 101, 99, 111, 118, 101, 114]⟩) := rfl
  have hc : w.cell? ⟨1, 6, none⟩ = some (.string ⟨#[82, 101, 99, 111, 118, 101, 114]⟩) := by simp [World.cell?, hg, namesC]
  have z : decide ((0 : Int) ≤ 6 ∧ (6 : Int) ≤ 8) = true := by decide
  clear hg
  go_enter Tryd.func16, Tryd.ntmps16
  go_wp2_with (go_at_call 21; refine (is_any _ _).mono ?_; rintro e w' ⟨rfl, rfl⟩)
  go_ret
  exact ⟨ret_str V.out.symm, rfl⟩
theorem rname_6 (w : World) : Calls Tryd.prog 17 #[.int .i64 6] w fun e' w' => e' = .returned (.string (nameV 6)) ∧ w = w' := by
  have V : Hid (nameV 6 = ⟨#[82, 101, 99, 111, 118, 101, 114]⟩) := rfl
  have X : ∀ w, (Instr.index 37 (.agg #[.string ⟨#[83, 116, 97, 114, 116, 117, 112]⟩, .string ⟨#[78, 111, 114, 109, 97, 108]⟩, .string ⟨#[73, 110, 116, 101, 114, 114, 117, 112, 116, 101, 100]⟩, .string ⟨#[80, 97, 114, 116, 110, 101, 114, 68, 111, 119, 110]⟩, .string ⟨#[67, 111, 110, 102, 108, 105, 99, 116]⟩, .string ⟨#[82, 101, 115, 73, 110, 116, 101, 114, 114, 117, 112, 116, 101, 100]⟩, .string ⟨#[82, 101, 99, 111, 118, 101, 114]⟩, .string ⟨#[82, 101, 99, 111, 118, 101, 114, 87, 97, 105, 116]⟩, .string ⟨#[82, 101, 99, 111, 118, 101, 114, 68, 111, 110, 101]⟩]) (.int .i64 6)).run Tryd.prog w = .ok (.string ⟨#[82, 101, 99, 111, 118, 101, 114]⟩) w := fun _ => by kernel_rfl
  go_enter Tryd.func17, Tryd.ntmps17
  go_wp2
  go_ret
  exact ⟨ret_str V.out.symm, rfl⟩

theorem name_7 (w : World) (t : TypeId) (fr : Nat × Nat) (hg : w.heap[1]? = some (.cells namesC t fr)) : Calls Tryd.prog 16 #[.int .i64 7] w fun e' w' => e' = .returned (.string (nameV 7)) ∧ w = w' := by
  have V : Hid (nameV 7 = ⟨#[82, 101, 99, 111, 118, 101, 114, 87, 97, 105, 116]⟩) := rfl
  have hc : w.cell? ⟨1, 7, none⟩ = some (.string ⟨#[82, 101, 99, 111, 118, 101, 114, 87, 97, 105, 116]⟩) := by simp [World.cell?, hg, namesC]
  have z : decide ((0 : Int) ≤ 7 ∧ (7 : Int) ≤ 8) = true := by decide
  clear hg
  go_enter Tryd.func16, Tryd.ntmps16
  go_wp2_with (go_at_call 21; refine (is_any _ _).mono ?_; rintro e w' ⟨rfl, rfl⟩)
  go_ret
  exact ⟨ret_str V.out.symm, rfl⟩
theorem rname_7 (w : World) : Calls Tryd.prog 17 #[.int .i64 7] w fun e' w' => e' = .returned (.string (nameV 7)) ∧ w = w' := by
  have V : Hid (nameV 7 = ⟨#[82, 101, 99, 111, 118, 101, 114, 87, 97, 105, 116]⟩) := rfl
  have X : ∀ w, (Instr.index 37 (.agg #[.string ⟨#[83, 116, 97, 114, 116, 117, 112]⟩, .string ⟨#[78, 111, 114, 109, 97, 108]⟩, .string ⟨#[73, 110, 116, 101, 114, 114, 117, 112, 116, 101, 100]⟩, .string ⟨#[80, 97, 114, 116, 110, 101, 114, 68, 111, 119, 110]⟩, .string ⟨#[67, 111, 110, 102, 108, 105, 99, 116]⟩, .string ⟨#[82, 101, 115, 73, 110, 116, 101, 114, 114, 117, 112, 116, 101, 100]⟩, .string ⟨#[82, 101, 99, 111, 118, 101, 114]⟩, .string ⟨#[82, 101, 99, 111, 118, 101, 114, 87, 97, 105, 116]⟩, .string ⟨#[82, 101, 99, 111, 118, 101, 114, 68, 111, 110, 101]⟩]) (.int .i64 7)).run Tryd.prog w = .ok (.string ⟨#[82, 101, 99, 111, 118, 101, 114, 87, 97, 105, 116]⟩) w := fun _ => by kernel_rfl
  go_enter Tryd.func17, Tryd.ntmps17
  go_wp2
  go_ret
  exact ⟨ret_str V.out.symm, rfl⟩

theorem name_8 (w : World) (t : TypeId) (fr : Nat × Nat) (hg : w.heap[1]? = some (.cells namesC t fr)) : Calls Tryd.prog 16 #[.int .i64 8] w fun e' w' => e' = .returned (.string (nameV 8)) ∧ w = w' := by
  have V : Hid (nameV 8 = ⟨#[82, 101, 99, 111, 118, 101, 114, 68, 111, 110, 101]⟩) := rfl
  have hc : w.cell? ⟨1, 8, none⟩ = some (.string ⟨#[82, 101, 99, 111, 118, 101, 114, 68, 111, 110, 101]⟩) := by simp [World.cell?, hg, namesC]
  have z : decide ((0 : Int) ≤ 8 ∧ (8 : Int) ≤ 8) = true := by decide
  clear hg
  go_enter Tryd.func16, Tryd.ntmps16
  go_wp2_with (go_at_call 21; refine (is_any _ _).mono ?_; rintro e w' ⟨rfl, rfl⟩)
  go_ret
  exact ⟨ret_str V.out.symm, rfl⟩
theorem rname_8 (w : World) : Calls Tryd.prog 17 #[.int .i64 8] w fun e' w' => e' = .returned (.string (nameV 8)) ∧ w = w' := by
  have V : Hid (nameV 8 = ⟨#[82, 101, 99, 111, 118, 101, 114, 68, 111, 110, 101]⟩) := rfl
  have X : ∀ w, (Instr.index 37 (.agg #[.string ⟨#[83, 116, 97, 114, 116, 117, 112]⟩, .string ⟨#[78, 111, 114, 109, 97, 108]⟩, .string ⟨#[73, 110, 116, 101, 114, 114, 117, 112, 116, 101, 100]⟩, .string ⟨#[80, 97, 114, 116, 110, 101, 114, 68, 111, 119, 110]⟩, .string ⟨#[67, 111, 110, 102, 108, 105, 99, 116]⟩, .string ⟨#[82, 101, 115, 73, 110, 116, 101, 114, 114, 117, 112, 116, 101, 100]⟩, .string ⟨#[82, 101, 99, 111, 118, 101, 114]⟩, .string ⟨#[82, 101, 99, 111, 118, 101, 114, 87, 97, 105, 116]⟩, .string ⟨#[82, 101, 99, 111, 118, 101, 114, 68, 111, 110, 101]⟩]) (.int .i64 8)).run Tryd.prog w = .ok (.string ⟨#[82, 101, 99, 111, 118, 101, 114, 68, 111, 110, 101]⟩) w := fun _ => by kernel_rfl
  go_enter Tryd.func17, Tryd.ntmps17
  go_wp2
  go_ret
  exact ⟨ret_str V.out.symm, rfl⟩

theorem name_call {W w : World} (h : Ext W w) (s : Int) : Calls Tryd.prog 16 #[.int .i64 s] w fun e' w' => e' = .returned (.string (nameV s)) ∧ w = w' := by
  obtain ⟨_, t, fr, hg⟩ := h.ready
  by_cases hs : 0 ≤ s ∧ s ≤ 8
  · have : s = 0 ∨ s = 1 ∨ s = 2 ∨ s = 3 ∨ s = 4 ∨ s = 5 ∨ s = 6 ∨ s = 7 ∨ s = 8 := by omega
    rcases this with rfl | rfl | rfl | rfl | rfl | rfl | rfl | rfl | rfl
    · exact name_0 w t fr hg
    · exact name_1 w t fr hg
    · exact name_2 w t fr hg
    · exact name_3 w t fr hg
    · exact name_4 w t fr hg
    · exact name_5 w t fr hg
    · exact name_6 w t fr hg
    · exact name_7 w t fr hg
    · exact name_8 w t fr hg
  · exact name_other s w hs
theorem rname_any (s : Int) (w : World) : Calls Tryd.prog 17 #[.int .i64 s] w fun e' w' => e' = .returned (.string (nameV s)) ∧ w = w' := by
  by_cases hs : 0 ≤ s ∧ s ≤ 8
  · have : s = 0 ∨ s = 1 ∨ s = 2 ∨ s = 3 ∨ s = 4 ∨ s = 5 ∨ s = 6 ∨ s = 7 ∨ s = 8 := by omega
    rcases this with rfl | rfl | rfl | rfl | rfl | rfl | rfl | rfl | rfl
    · exact rname_0 w
    · exact rname_1 w
    · exact rname_2 w
    · exact rname_3 w
    · exact rname_4 w
    · exact rname_5 w
    · exact rname_6 w
    · exact rname_7 w
    · exact rname_8 w
  · exact rname_other s w hs

theorem awake_call {W w : World} (h : Ext W w) : Calls Tryd.prog 8 #[] w fun e' w' => e' = .returned (.bool true) ∧ Ext W w' := by
  have e1 : nextV 1 1 0 = 2 := by decide +kernel
  have e2 : nextV 0 0 3 = 6 := by decide +kernel
  have e3 : nameV 1 = ⟨#[78, 111, 114, 109, 97, 108]⟩ := rfl
  go_enter Tryd.func8, Tryd.ntmps8
  go_wp2_with (first | (go_at_call 9; refine (next_call (by repeat (first | assumption | refine Ext.drew ?_ | refine Ext.alloc ?_ _ | refine Ext.setCell ?_ (by simp) _)) _ _ _).mono ?_; rintro e' w' ⟨rfl, hx⟩) | (go_at_call 16; refine (name_call (by repeat (first | assumption | refine Ext.drew ?_ | refine Ext.alloc ?_ _ | refine Ext.setCell ?_ (by simp) _)) _).mono ?_; rintro e' w' ⟨rfl, rfl⟩))
  go_ret
  exact ⟨rfl, by assumption⟩

end Go.Proofs.YtoeoobmgcigdgaaDoor
