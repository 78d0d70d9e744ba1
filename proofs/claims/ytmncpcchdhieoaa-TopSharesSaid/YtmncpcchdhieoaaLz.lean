/- Leases, and how they are compared. -/
import Derived.Test.YtmncpcchdhieoaaChecked
import Derived.WalkKit
import Derived.ProofKit
import Derived.WalkLawsBesides
import Derived.WalkSpells
import Derived.Test.YtmncpcchdhieoaaBlk
import Derived.Test.YtmncpcchdhieoaaSeq
import Derived.Deep.Draws
import Derived.Sort.Grow
namespace Go.Proofs.Ytmncpcchdhieoaa
open Go.ChangeShapes Go.WideShapes Go.ChangeAt Go.RowKit
set_option linter.unusedVariables false
set_option linter.unusedSimpArgs false

/-- A lease. -/
structure Le where
  adr : Int
  bind : Int
  cli : ByteArray
  unt : Int
  ack : Int
  tld : Int
  att : Int
  ver : Int
instance : Inhabited Le := ⟨⟨0, 0, ByteArray.empty, 0, 0, 0, 0, 0⟩⟩
def Le.cells (l : Le) : List Value := [.int .u32 l.adr, .int .i64 l.bind, .string l.cli, .int .i64 l.unt, .int .i64 l.ack, .int .i64 l.tld, .int .i64 l.att, .int .i64 l.ver]
def Le.val (l : Le) : Value := .agg #[.int .u32 l.adr, .int .i64 l.bind, .string l.cli, .int .i64 l.unt, .int .i64 l.ack, .int .i64 l.tld, .int .i64 l.att, .int .i64 l.ver]
theorem Le.cells_len (l : Le) : l.cells.length = 8 := rfl
def cmpI (a b : Int) : Int := if a < b then -1 else if b < a then 1 else 0
theorem ret_bool {a b : Bool} (h : a = b) : Ending.returned (.bool a) = .returned (.bool b) := by rw [h]
theorem ret_int {k : IntKind} {a b : Int} (h : a = b) : Ending.returned (.int k a) = .returned (.int k b) := by rw [h]
theorem isnanU_any (a : Int) (w : World) : Calls Try.prog 48 #[.int .u32 a] w fun e w' => e = .returned (.bool false) ∧ w = w' := by
  go_enter Try.func48, Try.ntmps48
  go_wp2
  all_goals
    go_ret
    exact ⟨by simp, rfl⟩
theorem isnanI_any (a : Int) (w : World) : Calls Try.prog 66 #[.int .i64 a] w fun e w' => e = .returned (.bool false) ∧ w = w' := by
  go_enter Try.func66, Try.ntmps66
  go_wp2
  all_goals
    go_ret
    exact ⟨by simp, rfl⟩

theorem cmpU_any (a b : Int) (w : World) : Calls Try.prog 28 #[.int .u32 a, .int .u32 b] w fun e w' => e = .returned (.int .i64 (cmpI a b)) ∧ w = w' := by
  by_cases h1 : a < b
  · have g1 : decide (a < b) = true := decide_eq_true h1
    go_enter Try.func28, Try.ntmps28
    go_wp2_with (go_at_call 48; (with_reducible refine (isnanU_any _ _).mono ?_); rintro e w' ⟨rfl, rfl⟩)
    go_ret
    exact ⟨ret_int (by unfold cmpI; repeat' split <;> omega), rfl⟩
  · by_cases h2 : b < a
    · have g1 : decide (a < b) = false := decide_eq_false h1
      have g2 : decide (b < a) = true := decide_eq_true h2
      go_enter Try.func28, Try.ntmps28
      go_wp2_with (go_at_call 48; (with_reducible refine (isnanU_any _ _).mono ?_); rintro e w' ⟨rfl, rfl⟩)
      go_ret
      exact ⟨ret_int (by unfold cmpI; repeat' split <;> omega), rfl⟩
    · have g1 : decide (a < b) = false := decide_eq_false h1
      have g2 : decide (b < a) = false := decide_eq_false h2
      go_enter Try.func28, Try.ntmps28
      go_wp2_with (go_at_call 48; (with_reducible refine (isnanU_any _ _).mono ?_); rintro e w' ⟨rfl, rfl⟩)
      go_ret
      exact ⟨ret_int (by unfold cmpI; repeat' split <;> omega), rfl⟩

theorem cmpI_any (a b : Int) (w : World) : Calls Try.prog 42 #[.int .i64 a, .int .i64 b] w fun e w' => e = .returned (.int .i64 (cmpI a b)) ∧ w = w' := by
  by_cases h1 : a < b
  · have g1 : decide (a < b) = true := decide_eq_true h1
    go_enter Try.func42, Try.ntmps42
    go_wp2_with (go_at_call 66; (with_reducible refine (isnanI_any _ _).mono ?_); rintro e w' ⟨rfl, rfl⟩)
    go_ret
    exact ⟨ret_int (by unfold cmpI; repeat' split <;> omega), rfl⟩
  · by_cases h2 : b < a
    · have g1 : decide (a < b) = false := decide_eq_false h1
      have g2 : decide (b < a) = true := decide_eq_true h2
      go_enter Try.func42, Try.ntmps42
      go_wp2_with (go_at_call 66; (with_reducible refine (isnanI_any _ _).mono ?_); rintro e w' ⟨rfl, rfl⟩)
      go_ret
      exact ⟨ret_int (by unfold cmpI; repeat' split <;> omega), rfl⟩
    · have g1 : decide (a < b) = false := decide_eq_false h1
      have g2 : decide (b < a) = false := decide_eq_false h2
      go_enter Try.func42, Try.ntmps42
      go_wp2_with (go_at_call 66; (with_reducible refine (isnanI_any _ _).mono ?_); rintro e w' ⟨rfl, rfl⟩)
      go_ret
      exact ⟨ret_int (by unfold cmpI; repeat' split <;> omega), rfl⟩

theorem or_any (a b : Int) (g : Nat) (w : World) (h0 : w.cell? ⟨g, 0, none⟩ = some (.int .i64 a)) (h1 : w.cell? ⟨g, 1, none⟩ = some (.int .i64 b)) : Calls Try.prog 41 #[.slice (some ⟨g, 0, none⟩) 2 2] w fun e w' => e = .returned (.int .i64 (if a = 0 then b else a)) ∧ w = w' := by
  go_enter Try.func41, Try.ntmps41
  go_wp2
  go_loopw [8] (fun i wr => ∃ k : Nat, k ≤ 2 ∧ i = .int .i64 k ∧ w = wr ∧ (1 ≤ k → a = 0) ∧ (2 ≤ k → b = 0)) (fun i _ => 2 - (intOf i).toNat)
  case atStart => exact ⟨0, by omega, rfl, rfl, by omega, by omega⟩
  case round =>
    obtain ⟨k, hk, rfl, rfl, ha, hb⟩ := hrel
    have HA := Lib.hid ha
    have HB := Lib.hid hb
    clear ha hb
    have hk3 : k = 0 ∨ k = 1 ∨ k = 2 := by omega
    clear hk
    rcases hk3 with rfl | rfl | rfl
    · by_cases ea : a = 0
      · have q : (a != 0) = false := by simp [ea]
        have EA := Lib.hid ea
        clear ea
        go_wp2
        go_roundw
        case rel => exact ⟨1, by omega, by first | rfl | go_num, trivial, fun _ => EA.out, by omega⟩
        case measure => simp [intOf]
      · have q : (a != 0) = true := by simp [ea]
        go_wp2
        go_ret
        exact ⟨ret_int (by (repeat' split) <;> omega), rfl⟩
    · have EA := Lib.hid (HA.out (by omega))
      by_cases eb : b = 0
      · have q : (b != 0) = false := by simp [eb]
        have EB := Lib.hid eb
        clear eb
        go_wp2
        go_roundw
        case rel => exact ⟨2, by omega, by first | rfl | go_num, trivial, fun _ => EA.out, fun _ => EB.out⟩
        case measure => simp [intOf]
      · have q : (b != 0) = true := by simp [eb]
        go_wp2
        go_ret
        exact ⟨ret_int (by have := EA.out; (repeat' split) <;> omega), rfl⟩
    · have EA := Lib.hid (HA.out (by omega))
      have EB := Lib.hid (HB.out (by omega))
      go_wp2
      go_ret
      exact ⟨ret_int (by have h1 := EA.out; have h2 := EB.out; clear h0; (repeat' split) <;> omega), rfl⟩

theorem alike_any (a b : Int) (c : ByteArray) (u k t z v : Int) (w : World) : Calls Try.prog 22 #[.agg #[.int .u32 a, .int .i64 b, .string c, .int .i64 u, .int .i64 k, .int .i64 t, .int .i64 z, .int .i64 v]] w fun e w' => e = .returned (.int .i64 0) ∧ w' = w.alloc (.cells #[.int .u32 a, .int .i64 b, .string c, .int .i64 u, .int .i64 k, .int .i64 t, .int .i64 z, .int .i64 v] 35) := by
  go_enter Try.func22, Try.ntmps22
  go_wp2
  go_ret
  exact ⟨rfl, rfl⟩
theorem below_drewN {B : Nat} {w v : World} (h : Below B w v) (n : Nat) : Below B w (v.drewN n) := ⟨h.os, h.tape, h.output, h.size, h.block⟩
open Go.Sort in
/-- v has come of W by draws and new blocks. -/
def Gr (W v : World) : Prop := ∃ (q : Nat) (os : Array Obj), v = grow (W.drewN q) os
open Go.Sort in
theorem Gr.refl (W : World) : Gr W W := ⟨0, #[], by simp [World.drewN]⟩
open Go.Sort in
theorem Gr.alloc {W v : World} (h : Gr W v) (o : Obj) : Gr W (v.alloc o) := by
  obtain ⟨q, os, rfl⟩ := h
  exact ⟨q, os ++ #[o], by rw [alloc_eq_grow, grow_grow]⟩
open Go.Sort in
theorem Gr.drew {W v : World} (h : Gr W v) : Gr W v.drew := by
  obtain ⟨q, os, rfl⟩ := h
  exact ⟨q + 1, os, by rw [drew_grow]; rfl⟩
open Go.Sort in
theorem Gr.trans {W v x : World} (h : Gr W v) (k : Gr v x) : Gr W x := by
  obtain ⟨q, os, rfl⟩ := h
  obtain ⟨p, qs, rfl⟩ := k
  refine ⟨q + p, os ++ qs, ?_⟩
  rw [← grow_grow]
  congr 1
  simp [grow, World.drewN, Nat.add_assoc]
open Go.Sort in
theorem Gr.low {W v : World} (h : Gr W v) : Below W.heap.size W v := by
  obtain ⟨q, os, rfl⟩ := h
  refine ⟨rfl, rfl, rfl, by simp [World.drewN], fun i hi => ?_⟩
  show (W.heap ++ os)[i]? = W.heap[i]?
  rw [Array.getElem?_append_left hi]

end Go.Proofs.Ytmncpcchdhieoaa
