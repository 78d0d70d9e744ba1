/- A promise as a line. -/
import Derived.Test.YtodjeidofgbdlaaGreatDoorEnv
namespace Go.Proofs.YtodjeidofgbdlaaGreatDoor
open Go.ChangeShapes Go.WideShapes Go.ChangeAt Go.RowKit
set_option linter.unusedVariables false
set_option linter.unusedSimpArgs false

set_option maxRecDepth 100000 in
set_option maxHeartbeats 1000000 in
theorem line_no (ps : Int) (pa : Nat) (pc : ByteArray) (pf pu : Int) (hr : ¬ rightPr ⟨ps, pa, pc, pf, pu⟩) (w : World) (he : Env w) : Calls Tryz.prog 10 #[.agg #[.int .i64 ps, .int .u32 pa, .string pc, .int .i64 pf, .int .i64 pu]] w fun e w' => e = .returned (.tuple #[.string { data := #[] }, .int .i64 1]) ∧ Below w.heap.size w w' := by
  have HD := Lib.hid (show decide (rightPr ⟨ps, pa, pc, pf, pu⟩) = false from decide_eq_false hr)
  have H0 := Lib.hid ((HeldB.nil (low0 w (.cells #[.int .i64 ps, .int .u32 pa, .string pc, .int .i64 pf, .int .i64 pu] 29))).cons (Blk.new w #[.int .i64 ps, .int .u32 pa, .string pc, .int .i64 pf, .int .i64 pu] 29))
  have HE0 := Lib.hid (he.alloc (.cells #[.int .i64 ps, .int .u32 pa, .string pc, .int .i64 pf, .int .i64 pu] 29))
  clear hr he
  go_enter Tryz.func10, Tryz.ntmps10
  go_wp2_with (go_at_call 18; (with_reducible refine (tright_any _ _ _ _ _ _).mono ?_); rintro e w1 ⟨he, hx⟩; rw [HD.out] at he; subst he; have H1 := Lib.hid (H0.out.keep hx); have HE1 := Lib.hid (HE0.out.keep hx); clear hx; obtain ⟨p0_0, p0_1, p0_2, p0_3, p0_4⟩ := (H1.out).b0.cells5)
  go_ret2
  exact ⟨rfl, H1.out.2⟩
set_option maxRecDepth 100000 in
set_option maxHeartbeats 1000000 in
theorem line_yes (ps : Int) (pa : Nat) (pc : ByteArray) (pf pu : Int) (hr : rightPr ⟨ps, pa, pc, pf, pu⟩) (hp : pa < 4294967296) (w : World) (he : Env w) : Calls Tryz.prog 10 #[.agg #[.int .i64 ps, .int .u32 pa, .string pc, .int .i64 pf, .int .i64 pu]] w fun e w' => e = .returned (.tuple #[.string (lineB ⟨ps, pa, pc, pf, pu⟩), .int .i64 0]) ∧ Below w.heap.size w w' := by
  have HD := Lib.hid (show decide (rightPr ⟨ps, pa, pc, pf, pu⟩) = true from decide_eq_true hr)
  have H0 := Lib.hid ((HeldB.nil (low0 w (.cells #[.int .i64 ps, .int .u32 pa, .string pc, .int .i64 pf, .int .i64 pu] 29))).cons (Blk.new w #[.int .i64 ps, .int .u32 pa, .string pc, .int .i64 pf, .int .i64 pu] 29))
  have HE0 := Lib.hid (he.alloc (.cells #[.int .i64 ps, .int .u32 pa, .string pc, .int .i64 pf, .int .i64 pu] 29))
  have hc : pc.size ≤ 32 := hr.2.1.2
  have hcl : pc.data.toList.length = pc.size := Array.length_toList
  obtain ⟨⟨r1, r2⟩, _, r3, r4, r5⟩ := hr
  simp only at r1 r2 r3 r4 r5
  have HR := Lib.hid (show (0 ≤ ps ∧ ps ≤ 1099511627776) ∧ True ∧ 0 ≤ pf ∧ pf ≤ 1099511627776 ∧ 0 ≤ pu ∧ pu ≤ 1099511627776 from ⟨⟨r1, by omega⟩, trivial, r3, by omega, by omega, r5⟩)
  have HP := Lib.hid hp
  have Z1 := Lib.hid (show (decB ps.toNat).size ≤ 1000 from Nat.le_trans (decB_size (by omega)) (by decide))
  have Z2 := Lib.hid (show (bl (addrL pa)).size ≤ 1000 by rw [bl_size]; exact Nat.le_trans (addrL_len hp) (by decide))
  have Z3 := Lib.hid (show (bl (hexL pc.data.toList)).size ≤ 1000 by rw [bl_size, hexL_length, hcl]; omega)
  have Z4 := Lib.hid (show (decB pf.toNat).size ≤ 1000 from Nat.le_trans (decB_size (by omega)) (by decide))
  have Z5 := Lib.hid (show (decB pu.toNat).size ≤ 1000 from Nat.le_trans (decB_size (by omega)) (by decide))
  have LE := Lib.hid (show bl ((decB ps.toNat).data.toList ++ 32 :: ((bl (addrL pa)).data.toList ++ 32 :: ((bl (hexL pc.data.toList)).data.toList ++ 32 :: ((decB pf.toNat).data.toList ++ 32 :: (decB pu.toNat).data.toList)))) = lineB ⟨ps, pa, pc, pf, pu⟩ from by
    unfold decB lineB lineL
    simp only [bl_data, Int.toNat_natCast]
    rfl)
  clear he hcl r1 r2 r3 r4 r5 hp
  go_enter Tryz.func10, Tryz.ntmps10
  go_upto_region 3 with (go_at_call 18; (with_reducible refine (tright_any _ _ _ _ _ _).mono ?_); rintro e w1 ⟨he, hx⟩; rw [HD.out] at he; subst he; have H1 := Lib.hid (H0.out.keep hx); have HE1 := Lib.hid (HE0.out.keep hx); clear hx; obtain ⟨p0_0, p0_1, p0_2, p0_3, p0_4⟩ := (H1.out).b0.cells5)
  clear p0_0 p0_1 p0_2 p0_3 p0_4
  refine wp_region_seq (S := fun wS => HeldB w [(w.heap.size, #[.int .i64 ps, .int .u32 pa, .string pc, .int .i64 pf, .int .i64 pu], 29)] wS ∧ Env wS) 15 (by kernel_rfl) (by kernel_rfl) ⟨H1.out.drew, HE1.out.drew⟩ ?_
  simp only [List.take_succ_cons, List.take_zero, List.drop_succ_cons, List.drop_zero]
  refine wpHeld_val (v := ?vl0) (by rfl) ?yl0 ?rl0
  case yl0 => (intro wS hSw; go_simp; try (with_reducible rfl))
  try simp only [Act.put, List.setIfInBounds_toArray, List.set_cons_zero, List.set_cons_succ]
  refine wpHeld_val (v := ?vl1) (by rfl) ?yl1 ?rl1
  case yl1 => (intro wS hSw; have hSw1 := hSw.1; obtain ⟨q0_0, q0_1, q0_2, q0_3, q0_4⟩ := (hSw1).b0.cells5; go_simp; try (with_reducible rfl))
  try simp only [Act.put, List.setIfInBounds_toArray, List.set_cons_zero, List.set_cons_succ]
  refine wpHeld_run (.string (decB ps.toNat)) (by rfl) ?cl2 ?rl2
  case cl2 => (intro wS hSw K hK; go_simp; (go_at_call 23; (with_reducible refine (tfigs_any ps HR.out.1.1 HR.out.1.2 _ hSw.2).mono ?_); rintro e w5 ⟨rfl, hx⟩); go_wp2_with fail; exact hK.out _ (⟨hSw.1.keep hx, hSw.2.keep hx⟩))
  try simp only [Act.put, List.setIfInBounds_toArray, List.set_cons_zero, List.set_cons_succ]
  refine wpHeld_val (v := ?vl3) (by rfl) ?yl3 ?rl3
  case yl3 => (intro wS hSw; go_simp; try (with_reducible rfl))
  try simp only [Act.put, List.setIfInBounds_toArray, List.set_cons_zero, List.set_cons_succ]
  refine wpHeld_val (v := ?vl4) (by rfl) ?yl4 ?rl4
  case yl4 => (intro wS hSw; have hSw1 := hSw.1; obtain ⟨q0_0, q0_1, q0_2, q0_3, q0_4⟩ := (hSw1).b0.cells5; go_simp; try (with_reducible rfl))
  try simp only [Act.put, List.setIfInBounds_toArray, List.set_cons_zero, List.set_cons_succ]
  refine wpHeld_run (.string (bl (addrL pa))) (by rfl) ?cl5 ?rl5
  case cl5 => (intro wS hSw K hK; go_simp; (go_at_call 24; (with_reducible refine (text_any pa HP.out _).mono ?_); rintro e w5 ⟨rfl, hx⟩); go_wp2_with fail; exact hK.out _ (⟨hSw.1.keep hx, hSw.2.keep hx⟩))
  try simp only [Act.put, List.setIfInBounds_toArray, List.set_cons_zero, List.set_cons_succ]
  refine wpHeld_val (v := ?vl6) (by rfl) ?yl6 ?rl6
  case yl6 => (intro wS hSw; go_simp; try (with_reducible rfl))
  try simp only [Act.put, List.setIfInBounds_toArray, List.set_cons_zero, List.set_cons_succ]
  refine wpHeld_val (v := ?vl7) (by rfl) ?yl7 ?rl7
  case yl7 => (intro wS hSw; have hSw1 := hSw.1; obtain ⟨q0_0, q0_1, q0_2, q0_3, q0_4⟩ := (hSw1).b0.cells5; go_simp; try (with_reducible rfl))
  try simp only [Act.put, List.setIfInBounds_toArray, List.set_cons_zero, List.set_cons_succ]
  refine wpHeld_run (.string (bl (hexL pc.data.toList))) (by rfl) ?cl8 ?rl8
  case cl8 => (intro wS hSw K hK; go_simp; (go_at_call 25; (with_reducible refine (figured_any pc (by omega) _).mono ?_); rintro e w5 ⟨rfl, hx⟩); go_wp2_with fail; exact hK.out _ (⟨hSw.1.keep hx, hSw.2.keep hx⟩))
  try simp only [Act.put, List.setIfInBounds_toArray, List.set_cons_zero, List.set_cons_succ]
  refine wpHeld_val (v := ?vl9) (by rfl) ?yl9 ?rl9
  case yl9 => (intro wS hSw; go_simp; try (with_reducible rfl))
  try simp only [Act.put, List.setIfInBounds_toArray, List.set_cons_zero, List.set_cons_succ]
  refine wpHeld_val (v := ?vl10) (by rfl) ?yl10 ?rl10
  case yl10 => (intro wS hSw; have hSw1 := hSw.1; obtain ⟨q0_0, q0_1, q0_2, q0_3, q0_4⟩ := (hSw1).b0.cells5; go_simp; try (with_reducible rfl))
  try simp only [Act.put, List.setIfInBounds_toArray, List.set_cons_zero, List.set_cons_succ]
  refine wpHeld_run (.string (decB pf.toNat)) (by rfl) ?cl11 ?rl11
  case cl11 => (intro wS hSw K hK; go_simp; (go_at_call 23; (with_reducible refine (tfigs_any pf HR.out.2.2.1 HR.out.2.2.2.1 _ hSw.2).mono ?_); rintro e w5 ⟨rfl, hx⟩); go_wp2_with fail; exact hK.out _ (⟨hSw.1.keep hx, hSw.2.keep hx⟩))
  try simp only [Act.put, List.setIfInBounds_toArray, List.set_cons_zero, List.set_cons_succ]
  refine wpHeld_val (v := ?vl12) (by rfl) ?yl12 ?rl12
  case yl12 => (intro wS hSw; go_simp; try (with_reducible rfl))
  try simp only [Act.put, List.setIfInBounds_toArray, List.set_cons_zero, List.set_cons_succ]
  refine wpHeld_val (v := ?vl13) (by rfl) ?yl13 ?rl13
  case yl13 => (intro wS hSw; have hSw1 := hSw.1; obtain ⟨q0_0, q0_1, q0_2, q0_3, q0_4⟩ := (hSw1).b0.cells5; go_simp; try (with_reducible rfl))
  try simp only [Act.put, List.setIfInBounds_toArray, List.set_cons_zero, List.set_cons_succ]
  refine wpHeld_run (.string (decB pu.toNat)) (by rfl) ?cl14 ?rl14
  case cl14 => (intro wS hSw K hK; go_simp; (go_at_call 23; (with_reducible refine (tfigs_any pu HR.out.2.2.2.2.1 HR.out.2.2.2.2.2 _ hSw.2).mono ?_); rintro e w5 ⟨rfl, hx⟩); go_wp2_with fail; exact hK.out _ (⟨hSw.1.keep hx, hSw.2.keep hx⟩))
  try simp only [Act.put, List.setIfInBounds_toArray, List.set_cons_zero, List.set_cons_succ]
  refine wpHeld_nil ?_
  intro wS hSw
  have hb := Lib.hid hSw.1.2
  clear hSw
  go_wp2_with (go_at_call 26; (with_reducible refine (join5 _ _ _ _ _ Z1.out Z2.out Z3.out Z4.out Z5.out _).mono ?_); rintro e w6 ⟨rfl, hx⟩; have H6 := Lib.hid hx; clear hx)
  go_ret2
  exact ⟨congrArg (fun z => Ending.returned (.tuple #[.string z, .int .i64 0])) LE.out, low (lowA hb.out _) H6.out⟩

end Go.Proofs.YtodjeidofgbdlaaGreatDoor
