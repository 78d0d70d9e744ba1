/- What nobody has may be, of Free, Backup and Abandoned alone: where it may be. -/
import Derived.Test.YtihekjoeibljpaaAwk
namespace Go.Proofs.Ytihekjoeibljpaa
open Go.ChangeShapes Go.WideShapes Go.ChangeAt Go.RowKit
set_option linter.unusedVariables false
set_option linter.unusedSimpArgs false

set_option maxRecDepth 100000 in
set_option maxHeartbeats 1000000 in
theorem bare_0n (a0 : Int) (a1 : Int) (a2 : Int) (W : World) (w0 : (Lit.int .u32 a0).wf = true) (w1 : (Lit.int .i64 a1).wf = true) (w2 : (Lit.int .i64 a2).wf = true) (hb : a1 = 0) (hv : a2 < 0) :
    Calls Try.prog 4 #[.int .u32 a0, .int .i64 a1, .int .i64 a2] W fun e w' => e = .returned (.bool true) ∧ Below W.heap.size W w' := by
  have HB := Lib.hid hb
  have HV := Lib.hid hv
  have k0 : (a1 == 0) = true := beq_iff_eq.2 (by omega)
  have k1 : (a1 == 1) = false := beq_eq_false_iff_ne.2 (by omega)
  have k2 : (a1 == 2) = false := beq_eq_false_iff_ne.2 (by omega)
  have k3 : (a1 == 3) = false := beq_eq_false_iff_ne.2 (by omega)
  have k4 : (a1 == 4) = false := beq_eq_false_iff_ne.2 (by omega)
  have k5 : (a1 == 5) = false := beq_eq_false_iff_ne.2 (by omega)
  clear hb
  skip
  have h0 : decide (0 ≤ a2) = false := decide_eq_false (by omega)
  go_enter Try.func4, Try.ntmps4
  go_upto_region 9 with (first | (go_at_call 7; (with_reducible refine (awake_any _).mono ?_); rintro e w1 ⟨rfl, hx⟩; have H1 := Lib.hid hx; clear hx) | (go_at_call 14; (with_reducible refine (bare_any _ _ _ _).mono ?_); rintro e wy ⟨rfl, hx⟩; have H2 := Lib.hid (((HeldB.nil (lowA (lowA (lowA (low H1.out hx) (.cells #[.int .u32 a0, .int .i64 a1, .string { data := #[] }, .int .i64 0, .int .i64 0, .int .i64 0, .int .i64 0, .int .i64 a2] 25)) (.cells #[.int .u32 a0, .int .i64 a1, .string { data := #[120] }, .int .i64 0, .int .i64 0, .int .i64 0, .int .i64 0, .int .i64 a2] 25)) (.cells #[.int .u32 a0, .int .i64 a1, .string { data := #[] }, .int .i64 0, .int .i64 0, .int .i64 1, .int .i64 0, .int .i64 a2] 25))).cons (((Blk.new wy #[.int .u32 a0, .int .i64 a1, .string { data := #[] }, .int .i64 0, .int .i64 0, .int .i64 0, .int .i64 0, .int .i64 a2] 25).alloc (.cells #[.int .u32 a0, .int .i64 a1, .string { data := #[120] }, .int .i64 0, .int .i64 0, .int .i64 0, .int .i64 0, .int .i64 a2] 25)).alloc (.cells #[.int .u32 a0, .int .i64 a1, .string { data := #[] }, .int .i64 0, .int .i64 0, .int .i64 1, .int .i64 0, .int .i64 a2] 25))).cons ((Blk.new2 wy (.cells #[.int .u32 a0, .int .i64 a1, .string { data := #[] }, .int .i64 0, .int .i64 0, .int .i64 0, .int .i64 0, .int .i64 a2] 25) #[.int .u32 a0, .int .i64 a1, .string { data := #[120] }, .int .i64 0, .int .i64 0, .int .i64 0, .int .i64 0, .int .i64 a2] 25).alloc (.cells #[.int .u32 a0, .int .i64 a1, .string { data := #[] }, .int .i64 0, .int .i64 0, .int .i64 1, .int .i64 0, .int .i64 a2] 25)) |>.cons (Blk.new3 wy (.cells #[.int .u32 a0, .int .i64 a1, .string { data := #[] }, .int .i64 0, .int .i64 0, .int .i64 0, .int .i64 0, .int .i64 a2] 25) (.cells #[.int .u32 a0, .int .i64 a1, .string { data := #[120] }, .int .i64 0, .int .i64 0, .int .i64 0, .int .i64 0, .int .i64 a2] 25) #[.int .u32 a0, .int .i64 a1, .string { data := #[] }, .int .i64 0, .int .i64 0, .int .i64 1, .int .i64 0, .int .i64 a2] 25)); clear hx))
  refine wp_region_seq (S := HeldB W [((wy.heap.size + 1 + 1), #[.int .u32 a0, .int .i64 a1, .string { data := #[] }, .int .i64 0, .int .i64 0, .int .i64 1, .int .i64 0, .int .i64 a2], 25), ((wy.heap.size + 1), #[.int .u32 a0, .int .i64 a1, .string { data := #[120] }, .int .i64 0, .int .i64 0, .int .i64 0, .int .i64 0, .int .i64 a2], 25), (wy.heap.size, #[.int .u32 a0, .int .i64 a1, .string { data := #[] }, .int .i64 0, .int .i64 0, .int .i64 0, .int .i64 0, .int .i64 a2], 25)]) 40 (by kernel_rfl) (by kernel_rfl) H2.out.drew ?_
  simp only [List.take_succ_cons, List.take_zero, List.drop_succ_cons, List.drop_zero]
  refine wpHeld_val (v := ?vz0n0) (by rfl) ?yz0n0 ?rz0n0
  case yz0n0 => (intro wS hSw; go_simp; try (with_reducible rfl))
  try simp only [Act.put, List.setIfInBounds_toArray, List.set_cons_zero, List.set_cons_succ]
  refine wpHeld_val (v := ?vz0n1) (by rfl) ?yz0n1 ?rz0n1
  case yz0n1 => (intro wS hSw; go_simp; try (with_reducible rfl))
  try simp only [Act.put, List.setIfInBounds_toArray, List.set_cons_zero, List.set_cons_succ]
  refine wpHeld_val (v := ?vz0n2) (by rfl) ?yz0n2 ?rz0n2
  case yz0n2 => (intro wS hSw; obtain ⟨q0_0, q0_1, q0_2, q0_3, q0_4, q0_5, q0_6, q0_7⟩ := (hSw).b0.cells8; obtain ⟨q1_0, q1_1, q1_2, q1_3, q1_4, q1_5, q1_6, q1_7⟩ := (hSw).tl.b0.cells8; obtain ⟨q2_0, q2_1, q2_2, q2_3, q2_4, q2_5, q2_6, q2_7⟩ := (hSw).tl.tl.b0.cells8; go_simp; try (with_reducible rfl))
  try simp only [Act.put, List.setIfInBounds_toArray, List.set_cons_zero, List.set_cons_succ]
  refine wpHeld_val (v := ?vz0n3) (by rfl) ?yz0n3 ?rz0n3
  case yz0n3 => (intro wS hSw; go_simp; try (with_reducible rfl))
  try simp only [Act.put, List.setIfInBounds_toArray, List.set_cons_zero, List.set_cons_succ]
  refine wpHeld_val (v := ?vz0n4) (by rfl) ?yz0n4 ?rz0n4
  case yz0n4 => (intro wS hSw; go_simp; try (with_reducible rfl))
  try simp only [Act.put, List.setIfInBounds_toArray, List.set_cons_zero, List.set_cons_succ]
  refine wpHeld_val (v := ?vz0n5) (by rfl) ?yz0n5 ?rz0n5
  case yz0n5 => (intro wS hSw; go_simp; try (with_reducible rfl))
  try simp only [Act.put, List.setIfInBounds_toArray, List.set_cons_zero, List.set_cons_succ]
  refine wpHeld_run (.agg #[.int .u32 a0, .int .i64 a1, .string { data := #[] }, .int .i64 0, .int .i64 0, .int .i64 0, .int .i64 0, .int .i64 a2]) (by rfl) ?cz0n6 ?rz0n6
  case cz0n6 => (intro wS hSw K hK; go_simp; (go_at_call 15; (with_reducible refine (rbare_any _ _ _ _).mono ?_); rintro e w5 ⟨rfl, hx⟩); go_wp2_with fail; exact hK.out _ (hSw.keep hx))
  try simp only [Act.put, List.setIfInBounds_toArray, List.set_cons_zero, List.set_cons_succ]
  refine wpHeld_val (v := .bool true) (by rfl) ?yz0n7 ?rz0n7
  case yz0n7 => (intro wS hSw; go_simp; try (first | with_reducible rfl | (split <;> omega)))
  try simp only [Act.put, List.setIfInBounds_toArray, List.set_cons_zero, List.set_cons_succ]
  refine wpHeld_val (v := ?vz0n8) (by rfl) ?yz0n8 ?rz0n8
  case yz0n8 => (intro wS hSw; go_simp; try (with_reducible rfl))
  try simp only [Act.put, List.setIfInBounds_toArray, List.set_cons_zero, List.set_cons_succ]
  refine wpHeld_val (v := ?vz0n9) (by rfl) ?yz0n9 ?rz0n9
  case yz0n9 => (intro wS hSw; go_simp; try (with_reducible rfl))
  try simp only [Act.put, List.setIfInBounds_toArray, List.set_cons_zero, List.set_cons_succ]
  refine wpHeld_val (v := ?vz0n10) (by rfl) ?yz0n10 ?rz0n10
  case yz0n10 => (intro wS hSw; obtain ⟨q0_0, q0_1, q0_2, q0_3, q0_4, q0_5, q0_6, q0_7⟩ := (hSw).b0.cells8; obtain ⟨q1_0, q1_1, q1_2, q1_3, q1_4, q1_5, q1_6, q1_7⟩ := (hSw).tl.b0.cells8; obtain ⟨q2_0, q2_1, q2_2, q2_3, q2_4, q2_5, q2_6, q2_7⟩ := (hSw).tl.tl.b0.cells8; go_simp; try (with_reducible rfl))
  try simp only [Act.put, List.setIfInBounds_toArray, List.set_cons_zero, List.set_cons_succ]
  refine wpHeld_run (.bool (decide (RightP a1 { data := #[] } 0 0 0 0 a2))) (by rfl) ?cz0n11 ?rz0n11
  case cz0n11 => (intro wS hSw K hK; go_simp; (go_at_call 10; (with_reducible refine (right_any _ _ _ _ _ _ _ _ _).mono ?_); rintro e w5 ⟨rfl, hx⟩); go_wp2_with fail; exact hK.out _ (hSw.keep hx))
  try simp only [Act.put, List.setIfInBounds_toArray, List.set_cons_zero, List.set_cons_succ]
  refine wpHeld_val (v := ?vz0n12) (by rfl) ?yz0n12 ?rz0n12
  case yz0n12 => (intro wS hSw; go_simp; try (with_reducible rfl))
  try simp only [Act.put, List.setIfInBounds_toArray, List.set_cons_zero, List.set_cons_succ]
  refine wpHeld_val (v := .bool true) (by rfl) ?yz0n13 ?rz0n13
  case yz0n13 => (intro wS hSw; go_simp; try ((have hb := HB.out; have hv := HV.out; unfold RightP okT; rw [sz0]; omega)))
  try simp only [Act.put, List.setIfInBounds_toArray, List.set_cons_zero, List.set_cons_succ]
  refine wpHeld_val (v := ?vz0n14) (by rfl) ?yz0n14 ?rz0n14
  case yz0n14 => (intro wS hSw; go_simp; try (with_reducible rfl))
  try simp only [Act.put, List.setIfInBounds_toArray, List.set_cons_zero, List.set_cons_succ]
  refine wpHeld_val (v := ?vz0n15) (by rfl) ?yz0n15 ?rz0n15
  case yz0n15 => (intro wS hSw; go_simp; try (with_reducible rfl))
  try simp only [Act.put, List.setIfInBounds_toArray, List.set_cons_zero, List.set_cons_succ]
  refine wpHeld_val (v := ?vz0n16) (by rfl) ?yz0n16 ?rz0n16
  case yz0n16 => (intro wS hSw; obtain ⟨q0_0, q0_1, q0_2, q0_3, q0_4, q0_5, q0_6, q0_7⟩ := (hSw).b0.cells8; obtain ⟨q1_0, q1_1, q1_2, q1_3, q1_4, q1_5, q1_6, q1_7⟩ := (hSw).tl.b0.cells8; obtain ⟨q2_0, q2_1, q2_2, q2_3, q2_4, q2_5, q2_6, q2_7⟩ := (hSw).tl.tl.b0.cells8; go_simp; try (with_reducible rfl))
  try simp only [Act.put, List.setIfInBounds_toArray, List.set_cons_zero, List.set_cons_succ]
  refine wpHeld_run (.int .i64 0) (by rfl) ?cz0n17 ?rz0n17
  case cz0n17 => (intro wS hSw K hK; go_simp; (go_at_call 12; (with_reducible refine (over_any _ _ _ _ _ _ _ _ _).mono ?_); rintro e w5 ⟨rfl, hx⟩); go_wp2_with fail; exact hK.out _ (hSw.keep hx))
  try simp only [Act.put, List.setIfInBounds_toArray, List.set_cons_zero, List.set_cons_succ]
  refine wpHeld_val (v := .bool true) (by rfl) ?yz0n18 ?rz0n18
  case yz0n18 => (intro wS hSw; go_simp; try (first | with_reducible rfl | (split <;> omega)))
  try simp only [Act.put, List.setIfInBounds_toArray, List.set_cons_zero, List.set_cons_succ]
  refine wpHeld_val (v := ?vz0n19) (by rfl) ?yz0n19 ?rz0n19
  case yz0n19 => (intro wS hSw; go_simp; try (with_reducible rfl))
  try simp only [Act.put, List.setIfInBounds_toArray, List.set_cons_zero, List.set_cons_succ]
  refine wpHeld_val (v := ?vz0n20) (by rfl) ?yz0n20 ?rz0n20
  case yz0n20 => (intro wS hSw; go_simp; try (with_reducible rfl))
  try simp only [Act.put, List.setIfInBounds_toArray, List.set_cons_zero, List.set_cons_succ]
  refine wpHeld_val (v := ?vz0n21) (by rfl) ?yz0n21 ?rz0n21
  case yz0n21 => (intro wS hSw; obtain ⟨q0_0, q0_1, q0_2, q0_3, q0_4, q0_5, q0_6, q0_7⟩ := (hSw).b0.cells8; obtain ⟨q1_0, q1_1, q1_2, q1_3, q1_4, q1_5, q1_6, q1_7⟩ := (hSw).tl.b0.cells8; obtain ⟨q2_0, q2_1, q2_2, q2_3, q2_4, q2_5, q2_6, q2_7⟩ := (hSw).tl.tl.b0.cells8; go_simp; try (with_reducible rfl))
  try simp only [Act.put, List.setIfInBounds_toArray, List.set_cons_zero, List.set_cons_succ]
  refine wpHeld_run (.bool (decide (RightP a1 { data := #[120] } 0 0 0 0 a2))) (by rfl) ?cz0n22 ?rz0n22
  case cz0n22 => (intro wS hSw K hK; go_simp; (go_at_call 10; (with_reducible refine (right_any _ _ _ _ _ _ _ _ _).mono ?_); rintro e w5 ⟨rfl, hx⟩); go_wp2_with fail; exact hK.out _ (hSw.keep hx))
  try simp only [Act.put, List.setIfInBounds_toArray, List.set_cons_zero, List.set_cons_succ]
  refine wpHeld_val (v := ?vz0n23) (by rfl) ?yz0n23 ?rz0n23
  case yz0n23 => (intro wS hSw; go_simp; try (with_reducible rfl))
  try simp only [Act.put, List.setIfInBounds_toArray, List.set_cons_zero, List.set_cons_succ]
  refine wpHeld_val (v := ?vz0n24) (by rfl) ?yz0n24 ?rz0n24
  case yz0n24 => (intro wS hSw; go_simp; try (with_reducible rfl))
  try simp only [Act.put, List.setIfInBounds_toArray, List.set_cons_zero, List.set_cons_succ]
  refine wpHeld_skip (by rfl) ?_
  try simp only [Act.put, List.setIfInBounds_toArray, List.set_cons_zero, List.set_cons_succ]
  refine wpHeld_skip (by rfl) ?_
  try simp only [Act.put, List.setIfInBounds_toArray, List.set_cons_zero, List.set_cons_succ]
  refine wpHeld_val (v := ?vz0n27) (by rfl) ?yz0n27 ?rz0n27
  case yz0n27 => (intro wS hSw; go_simp; try (with_reducible rfl))
  try simp only [Act.put, List.setIfInBounds_toArray, List.set_cons_zero, List.set_cons_succ]
  refine wpHeld_val (v := ?vz0n28) (by rfl) ?yz0n28 ?rz0n28
  case yz0n28 => (intro wS hSw; go_simp; try (with_reducible rfl))
  try simp only [Act.put, List.setIfInBounds_toArray, List.set_cons_zero, List.set_cons_succ]
  refine wpHeld_skip (by rfl) ?_
  try simp only [Act.put, List.setIfInBounds_toArray, List.set_cons_zero, List.set_cons_succ]
  refine wpHeld_skip (by rfl) ?_
  try simp only [Act.put, List.setIfInBounds_toArray, List.set_cons_zero, List.set_cons_succ]
  refine wpHeld_val (v := ?vz0n31) (by rfl) ?yz0n31 ?rz0n31
  case yz0n31 => (intro wS hSw; go_simp; try (with_reducible rfl))
  try simp only [Act.put, List.setIfInBounds_toArray, List.set_cons_zero, List.set_cons_succ]
  refine wpHeld_val (v := .bool true) (by rfl) ?yz0n32 ?rz0n32
  case yz0n32 => (intro wS hSw; go_simp; try ((have hb := HB.out; have hv := HV.out; unfold RightP okT; rw [sz1]; omega)))
  try simp only [Act.put, List.setIfInBounds_toArray, List.set_cons_zero, List.set_cons_succ]
  refine wpHeld_val (v := ?vz0n33) (by rfl) ?yz0n33 ?rz0n33
  case yz0n33 => (intro wS hSw; go_simp; try (with_reducible rfl))
  try simp only [Act.put, List.setIfInBounds_toArray, List.set_cons_zero, List.set_cons_succ]
  refine wpHeld_val (v := ?vz0n34) (by rfl) ?yz0n34 ?rz0n34
  case yz0n34 => (intro wS hSw; go_simp; try (with_reducible rfl))
  try simp only [Act.put, List.setIfInBounds_toArray, List.set_cons_zero, List.set_cons_succ]
  refine wpHeld_val (v := ?vz0n35) (by rfl) ?yz0n35 ?rz0n35
  case yz0n35 => (intro wS hSw; obtain ⟨q0_0, q0_1, q0_2, q0_3, q0_4, q0_5, q0_6, q0_7⟩ := (hSw).b0.cells8; obtain ⟨q1_0, q1_1, q1_2, q1_3, q1_4, q1_5, q1_6, q1_7⟩ := (hSw).tl.b0.cells8; obtain ⟨q2_0, q2_1, q2_2, q2_3, q2_4, q2_5, q2_6, q2_7⟩ := (hSw).tl.tl.b0.cells8; go_simp; try (with_reducible rfl))
  try simp only [Act.put, List.setIfInBounds_toArray, List.set_cons_zero, List.set_cons_succ]
  refine wpHeld_run (.bool (decide (RightP a1 { data := #[] } 0 0 1 0 a2))) (by rfl) ?cz0n36 ?rz0n36
  case cz0n36 => (intro wS hSw K hK; go_simp; (go_at_call 10; (with_reducible refine (right_any _ _ _ _ _ _ _ _ _).mono ?_); rintro e w5 ⟨rfl, hx⟩); go_wp2_with fail; exact hK.out _ (hSw.keep hx))
  try simp only [Act.put, List.setIfInBounds_toArray, List.set_cons_zero, List.set_cons_succ]
  refine wpHeld_val (v := .bool true) (by rfl) ?yz0n37 ?rz0n37
  case yz0n37 => (intro wS hSw; go_simp; try ((have hb := HB.out; have hv := HV.out; unfold RightP okT; rw [sz0]; omega)))
  try simp only [Act.put, List.setIfInBounds_toArray, List.set_cons_zero, List.set_cons_succ]
  refine wpHeld_val (v := ?vz0n38) (by rfl) ?yz0n38 ?rz0n38
  case yz0n38 => (intro wS hSw; go_simp; try (with_reducible rfl))
  try simp only [Act.put, List.setIfInBounds_toArray, List.set_cons_zero, List.set_cons_succ]
  refine wpHeld_val (v := ?vz0n39) (by rfl) ?yz0n39 ?rz0n39
  case yz0n39 => (intro wS hSw; go_simp; try (with_reducible rfl))
  try simp only [Act.put, List.setIfInBounds_toArray, List.set_cons_zero, List.set_cons_succ]
  refine wpHeld_nil ?_
  intro wS hSw
  go_wp2
  go_ret
  exact ⟨rfl, hSw.2⟩

set_option maxRecDepth 100000 in
set_option maxHeartbeats 1000000 in
theorem bare_0i (a0 : Int) (a1 : Int) (a2 : Int) (W : World) (w0 : (Lit.int .u32 a0).wf = true) (w1 : (Lit.int .i64 a1).wf = true) (w2 : (Lit.int .i64 a2).wf = true) (hb : a1 = 0) (hv : 0 ≤ a2 ∧ a2 ≤ 1099511627776) :
    Calls Try.prog 4 #[.int .u32 a0, .int .i64 a1, .int .i64 a2] W fun e w' => e = .returned (.bool true) ∧ Below W.heap.size W w' := by
  have HB := Lib.hid hb
  have HV := Lib.hid hv
  have k0 : (a1 == 0) = true := beq_iff_eq.2 (by omega)
  have k1 : (a1 == 1) = false := beq_eq_false_iff_ne.2 (by omega)
  have k2 : (a1 == 2) = false := beq_eq_false_iff_ne.2 (by omega)
  have k3 : (a1 == 3) = false := beq_eq_false_iff_ne.2 (by omega)
  have k4 : (a1 == 4) = false := beq_eq_false_iff_ne.2 (by omega)
  have k5 : (a1 == 5) = false := beq_eq_false_iff_ne.2 (by omega)
  clear hb
  obtain ⟨hv1, hv2⟩ := hv
  have h0 : decide (0 ≤ a2) = true := decide_eq_true (by omega)
  have hM : decide (a2 ≤ 1099511627776) = true := decide_eq_true (by omega)
  go_enter Try.func4, Try.ntmps4
  go_upto_region 9 with (first | (go_at_call 7; (with_reducible refine (awake_any _).mono ?_); rintro e w1 ⟨rfl, hx⟩; have H1 := Lib.hid hx; clear hx) | (go_at_call 14; (with_reducible refine (bare_any _ _ _ _).mono ?_); rintro e wy ⟨rfl, hx⟩; have H2 := Lib.hid (((HeldB.nil (lowA (lowA (lowA (low H1.out hx) (.cells #[.int .u32 a0, .int .i64 a1, .string { data := #[] }, .int .i64 0, .int .i64 0, .int .i64 0, .int .i64 0, .int .i64 a2] 25)) (.cells #[.int .u32 a0, .int .i64 a1, .string { data := #[120] }, .int .i64 0, .int .i64 0, .int .i64 0, .int .i64 0, .int .i64 a2] 25)) (.cells #[.int .u32 a0, .int .i64 a1, .string { data := #[] }, .int .i64 0, .int .i64 0, .int .i64 1, .int .i64 0, .int .i64 a2] 25))).cons (((Blk.new wy #[.int .u32 a0, .int .i64 a1, .string { data := #[] }, .int .i64 0, .int .i64 0, .int .i64 0, .int .i64 0, .int .i64 a2] 25).alloc (.cells #[.int .u32 a0, .int .i64 a1, .string { data := #[120] }, .int .i64 0, .int .i64 0, .int .i64 0, .int .i64 0, .int .i64 a2] 25)).alloc (.cells #[.int .u32 a0, .int .i64 a1, .string { data := #[] }, .int .i64 0, .int .i64 0, .int .i64 1, .int .i64 0, .int .i64 a2] 25))).cons ((Blk.new2 wy (.cells #[.int .u32 a0, .int .i64 a1, .string { data := #[] }, .int .i64 0, .int .i64 0, .int .i64 0, .int .i64 0, .int .i64 a2] 25) #[.int .u32 a0, .int .i64 a1, .string { data := #[120] }, .int .i64 0, .int .i64 0, .int .i64 0, .int .i64 0, .int .i64 a2] 25).alloc (.cells #[.int .u32 a0, .int .i64 a1, .string { data := #[] }, .int .i64 0, .int .i64 0, .int .i64 1, .int .i64 0, .int .i64 a2] 25)) |>.cons (Blk.new3 wy (.cells #[.int .u32 a0, .int .i64 a1, .string { data := #[] }, .int .i64 0, .int .i64 0, .int .i64 0, .int .i64 0, .int .i64 a2] 25) (.cells #[.int .u32 a0, .int .i64 a1, .string { data := #[120] }, .int .i64 0, .int .i64 0, .int .i64 0, .int .i64 0, .int .i64 a2] 25) #[.int .u32 a0, .int .i64 a1, .string { data := #[] }, .int .i64 0, .int .i64 0, .int .i64 1, .int .i64 0, .int .i64 a2] 25)); clear hx))
  refine wp_region_seq (S := HeldB W [((wy.heap.size + 1 + 1), #[.int .u32 a0, .int .i64 a1, .string { data := #[] }, .int .i64 0, .int .i64 0, .int .i64 1, .int .i64 0, .int .i64 a2], 25), ((wy.heap.size + 1), #[.int .u32 a0, .int .i64 a1, .string { data := #[120] }, .int .i64 0, .int .i64 0, .int .i64 0, .int .i64 0, .int .i64 a2], 25), (wy.heap.size, #[.int .u32 a0, .int .i64 a1, .string { data := #[] }, .int .i64 0, .int .i64 0, .int .i64 0, .int .i64 0, .int .i64 a2], 25)]) 40 (by kernel_rfl) (by kernel_rfl) H2.out.drew ?_
  simp only [List.take_succ_cons, List.take_zero, List.drop_succ_cons, List.drop_zero]
  refine wpHeld_val (v := ?vz0i0) (by rfl) ?yz0i0 ?rz0i0
  case yz0i0 => (intro wS hSw; go_simp; try (with_reducible rfl))
  try simp only [Act.put, List.setIfInBounds_toArray, List.set_cons_zero, List.set_cons_succ]
  refine wpHeld_val (v := ?vz0i1) (by rfl) ?yz0i1 ?rz0i1
  case yz0i1 => (intro wS hSw; go_simp; try (with_reducible rfl))
  try simp only [Act.put, List.setIfInBounds_toArray, List.set_cons_zero, List.set_cons_succ]
  refine wpHeld_val (v := ?vz0i2) (by rfl) ?yz0i2 ?rz0i2
  case yz0i2 => (intro wS hSw; obtain ⟨q0_0, q0_1, q0_2, q0_3, q0_4, q0_5, q0_6, q0_7⟩ := (hSw).b0.cells8; obtain ⟨q1_0, q1_1, q1_2, q1_3, q1_4, q1_5, q1_6, q1_7⟩ := (hSw).tl.b0.cells8; obtain ⟨q2_0, q2_1, q2_2, q2_3, q2_4, q2_5, q2_6, q2_7⟩ := (hSw).tl.tl.b0.cells8; go_simp; try (with_reducible rfl))
  try simp only [Act.put, List.setIfInBounds_toArray, List.set_cons_zero, List.set_cons_succ]
  refine wpHeld_val (v := ?vz0i3) (by rfl) ?yz0i3 ?rz0i3
  case yz0i3 => (intro wS hSw; go_simp; try (with_reducible rfl))
  try simp only [Act.put, List.setIfInBounds_toArray, List.set_cons_zero, List.set_cons_succ]
  refine wpHeld_val (v := ?vz0i4) (by rfl) ?yz0i4 ?rz0i4
  case yz0i4 => (intro wS hSw; go_simp; try (with_reducible rfl))
  try simp only [Act.put, List.setIfInBounds_toArray, List.set_cons_zero, List.set_cons_succ]
  refine wpHeld_val (v := ?vz0i5) (by rfl) ?yz0i5 ?rz0i5
  case yz0i5 => (intro wS hSw; go_simp; try (with_reducible rfl))
  try simp only [Act.put, List.setIfInBounds_toArray, List.set_cons_zero, List.set_cons_succ]
  refine wpHeld_run (.agg #[.int .u32 a0, .int .i64 a1, .string { data := #[] }, .int .i64 0, .int .i64 0, .int .i64 0, .int .i64 0, .int .i64 a2]) (by rfl) ?cz0i6 ?rz0i6
  case cz0i6 => (intro wS hSw K hK; go_simp; (go_at_call 15; (with_reducible refine (rbare_any _ _ _ _).mono ?_); rintro e w5 ⟨rfl, hx⟩); go_wp2_with fail; exact hK.out _ (hSw.keep hx))
  try simp only [Act.put, List.setIfInBounds_toArray, List.set_cons_zero, List.set_cons_succ]
  refine wpHeld_val (v := .bool true) (by rfl) ?yz0i7 ?rz0i7
  case yz0i7 => (intro wS hSw; go_simp; try (first | with_reducible rfl | (split <;> omega)))
  try simp only [Act.put, List.setIfInBounds_toArray, List.set_cons_zero, List.set_cons_succ]
  refine wpHeld_val (v := ?vz0i8) (by rfl) ?yz0i8 ?rz0i8
  case yz0i8 => (intro wS hSw; go_simp; try (with_reducible rfl))
  try simp only [Act.put, List.setIfInBounds_toArray, List.set_cons_zero, List.set_cons_succ]
  refine wpHeld_val (v := ?vz0i9) (by rfl) ?yz0i9 ?rz0i9
  case yz0i9 => (intro wS hSw; go_simp; try (with_reducible rfl))
  try simp only [Act.put, List.setIfInBounds_toArray, List.set_cons_zero, List.set_cons_succ]
  refine wpHeld_val (v := ?vz0i10) (by rfl) ?yz0i10 ?rz0i10
  case yz0i10 => (intro wS hSw; obtain ⟨q0_0, q0_1, q0_2, q0_3, q0_4, q0_5, q0_6, q0_7⟩ := (hSw).b0.cells8; obtain ⟨q1_0, q1_1, q1_2, q1_3, q1_4, q1_5, q1_6, q1_7⟩ := (hSw).tl.b0.cells8; obtain ⟨q2_0, q2_1, q2_2, q2_3, q2_4, q2_5, q2_6, q2_7⟩ := (hSw).tl.tl.b0.cells8; go_simp; try (with_reducible rfl))
  try simp only [Act.put, List.setIfInBounds_toArray, List.set_cons_zero, List.set_cons_succ]
  refine wpHeld_run (.bool (decide (RightP a1 { data := #[] } 0 0 0 0 a2))) (by rfl) ?cz0i11 ?rz0i11
  case cz0i11 => (intro wS hSw K hK; go_simp; (go_at_call 10; (with_reducible refine (right_any _ _ _ _ _ _ _ _ _).mono ?_); rintro e w5 ⟨rfl, hx⟩); go_wp2_with fail; exact hK.out _ (hSw.keep hx))
  try simp only [Act.put, List.setIfInBounds_toArray, List.set_cons_zero, List.set_cons_succ]
  refine wpHeld_val (v := ?vz0i12) (by rfl) ?yz0i12 ?rz0i12
  case yz0i12 => (intro wS hSw; go_simp; try (with_reducible rfl))
  try simp only [Act.put, List.setIfInBounds_toArray, List.set_cons_zero, List.set_cons_succ]
  refine wpHeld_val (v := .bool true) (by rfl) ?yz0i13 ?rz0i13
  case yz0i13 => (intro wS hSw; go_simp; try ((have hb := HB.out; have hv := HV.out; unfold RightP okT; rw [sz0]; omega)))
  try simp only [Act.put, List.setIfInBounds_toArray, List.set_cons_zero, List.set_cons_succ]
  refine wpHeld_val (v := ?vz0i14) (by rfl) ?yz0i14 ?rz0i14
  case yz0i14 => (intro wS hSw; go_simp; try (with_reducible rfl))
  try simp only [Act.put, List.setIfInBounds_toArray, List.set_cons_zero, List.set_cons_succ]
  refine wpHeld_val (v := ?vz0i15) (by rfl) ?yz0i15 ?rz0i15
  case yz0i15 => (intro wS hSw; go_simp; try (with_reducible rfl))
  try simp only [Act.put, List.setIfInBounds_toArray, List.set_cons_zero, List.set_cons_succ]
  refine wpHeld_val (v := ?vz0i16) (by rfl) ?yz0i16 ?rz0i16
  case yz0i16 => (intro wS hSw; obtain ⟨q0_0, q0_1, q0_2, q0_3, q0_4, q0_5, q0_6, q0_7⟩ := (hSw).b0.cells8; obtain ⟨q1_0, q1_1, q1_2, q1_3, q1_4, q1_5, q1_6, q1_7⟩ := (hSw).tl.b0.cells8; obtain ⟨q2_0, q2_1, q2_2, q2_3, q2_4, q2_5, q2_6, q2_7⟩ := (hSw).tl.tl.b0.cells8; go_simp; try (with_reducible rfl))
  try simp only [Act.put, List.setIfInBounds_toArray, List.set_cons_zero, List.set_cons_succ]
  refine wpHeld_run (.int .i64 0) (by rfl) ?cz0i17 ?rz0i17
  case cz0i17 => (intro wS hSw K hK; go_simp; (go_at_call 12; (with_reducible refine (over_any _ _ _ _ _ _ _ _ _).mono ?_); rintro e w5 ⟨rfl, hx⟩); go_wp2_with fail; exact hK.out _ (hSw.keep hx))
  try simp only [Act.put, List.setIfInBounds_toArray, List.set_cons_zero, List.set_cons_succ]
  refine wpHeld_val (v := .bool true) (by rfl) ?yz0i18 ?rz0i18
  case yz0i18 => (intro wS hSw; go_simp; try (first | with_reducible rfl | (split <;> omega)))
  try simp only [Act.put, List.setIfInBounds_toArray, List.set_cons_zero, List.set_cons_succ]
  refine wpHeld_val (v := ?vz0i19) (by rfl) ?yz0i19 ?rz0i19
  case yz0i19 => (intro wS hSw; go_simp; try (with_reducible rfl))
  try simp only [Act.put, List.setIfInBounds_toArray, List.set_cons_zero, List.set_cons_succ]
  refine wpHeld_val (v := ?vz0i20) (by rfl) ?yz0i20 ?rz0i20
  case yz0i20 => (intro wS hSw; go_simp; try (with_reducible rfl))
  try simp only [Act.put, List.setIfInBounds_toArray, List.set_cons_zero, List.set_cons_succ]
  refine wpHeld_val (v := ?vz0i21) (by rfl) ?yz0i21 ?rz0i21
  case yz0i21 => (intro wS hSw; obtain ⟨q0_0, q0_1, q0_2, q0_3, q0_4, q0_5, q0_6, q0_7⟩ := (hSw).b0.cells8; obtain ⟨q1_0, q1_1, q1_2, q1_3, q1_4, q1_5, q1_6, q1_7⟩ := (hSw).tl.b0.cells8; obtain ⟨q2_0, q2_1, q2_2, q2_3, q2_4, q2_5, q2_6, q2_7⟩ := (hSw).tl.tl.b0.cells8; go_simp; try (with_reducible rfl))
  try simp only [Act.put, List.setIfInBounds_toArray, List.set_cons_zero, List.set_cons_succ]
  refine wpHeld_run (.bool (decide (RightP a1 { data := #[120] } 0 0 0 0 a2))) (by rfl) ?cz0i22 ?rz0i22
  case cz0i22 => (intro wS hSw K hK; go_simp; (go_at_call 10; (with_reducible refine (right_any _ _ _ _ _ _ _ _ _).mono ?_); rintro e w5 ⟨rfl, hx⟩); go_wp2_with fail; exact hK.out _ (hSw.keep hx))
  try simp only [Act.put, List.setIfInBounds_toArray, List.set_cons_zero, List.set_cons_succ]
  refine wpHeld_val (v := ?vz0i23) (by rfl) ?yz0i23 ?rz0i23
  case yz0i23 => (intro wS hSw; go_simp; try (with_reducible rfl))
  try simp only [Act.put, List.setIfInBounds_toArray, List.set_cons_zero, List.set_cons_succ]
  refine wpHeld_val (v := ?vz0i24) (by rfl) ?yz0i24 ?rz0i24
  case yz0i24 => (intro wS hSw; go_simp; try (with_reducible rfl))
  try simp only [Act.put, List.setIfInBounds_toArray, List.set_cons_zero, List.set_cons_succ]
  refine wpHeld_skip (by rfl) ?_
  try simp only [Act.put, List.setIfInBounds_toArray, List.set_cons_zero, List.set_cons_succ]
  refine wpHeld_skip (by rfl) ?_
  try simp only [Act.put, List.setIfInBounds_toArray, List.set_cons_zero, List.set_cons_succ]
  refine wpHeld_val (v := ?vz0i27) (by rfl) ?yz0i27 ?rz0i27
  case yz0i27 => (intro wS hSw; go_simp; try (with_reducible rfl))
  try simp only [Act.put, List.setIfInBounds_toArray, List.set_cons_zero, List.set_cons_succ]
  refine wpHeld_val (v := ?vz0i28) (by rfl) ?yz0i28 ?rz0i28
  case yz0i28 => (intro wS hSw; go_simp; try (with_reducible rfl))
  try simp only [Act.put, List.setIfInBounds_toArray, List.set_cons_zero, List.set_cons_succ]
  refine wpHeld_skip (by rfl) ?_
  try simp only [Act.put, List.setIfInBounds_toArray, List.set_cons_zero, List.set_cons_succ]
  refine wpHeld_skip (by rfl) ?_
  try simp only [Act.put, List.setIfInBounds_toArray, List.set_cons_zero, List.set_cons_succ]
  refine wpHeld_val (v := ?vz0i31) (by rfl) ?yz0i31 ?rz0i31
  case yz0i31 => (intro wS hSw; go_simp; try (with_reducible rfl))
  try simp only [Act.put, List.setIfInBounds_toArray, List.set_cons_zero, List.set_cons_succ]
  refine wpHeld_val (v := .bool true) (by rfl) ?yz0i32 ?rz0i32
  case yz0i32 => (intro wS hSw; go_simp; try ((have hb := HB.out; have hv := HV.out; unfold RightP okT; rw [sz1]; omega)))
  try simp only [Act.put, List.setIfInBounds_toArray, List.set_cons_zero, List.set_cons_succ]
  refine wpHeld_val (v := ?vz0i33) (by rfl) ?yz0i33 ?rz0i33
  case yz0i33 => (intro wS hSw; go_simp; try (with_reducible rfl))
  try simp only [Act.put, List.setIfInBounds_toArray, List.set_cons_zero, List.set_cons_succ]
  refine wpHeld_val (v := ?vz0i34) (by rfl) ?yz0i34 ?rz0i34
  case yz0i34 => (intro wS hSw; go_simp; try (with_reducible rfl))
  try simp only [Act.put, List.setIfInBounds_toArray, List.set_cons_zero, List.set_cons_succ]
  refine wpHeld_val (v := ?vz0i35) (by rfl) ?yz0i35 ?rz0i35
  case yz0i35 => (intro wS hSw; obtain ⟨q0_0, q0_1, q0_2, q0_3, q0_4, q0_5, q0_6, q0_7⟩ := (hSw).b0.cells8; obtain ⟨q1_0, q1_1, q1_2, q1_3, q1_4, q1_5, q1_6, q1_7⟩ := (hSw).tl.b0.cells8; obtain ⟨q2_0, q2_1, q2_2, q2_3, q2_4, q2_5, q2_6, q2_7⟩ := (hSw).tl.tl.b0.cells8; go_simp; try (with_reducible rfl))
  try simp only [Act.put, List.setIfInBounds_toArray, List.set_cons_zero, List.set_cons_succ]
  refine wpHeld_run (.bool (decide (RightP a1 { data := #[] } 0 0 1 0 a2))) (by rfl) ?cz0i36 ?rz0i36
  case cz0i36 => (intro wS hSw K hK; go_simp; (go_at_call 10; (with_reducible refine (right_any _ _ _ _ _ _ _ _ _).mono ?_); rintro e w5 ⟨rfl, hx⟩); go_wp2_with fail; exact hK.out _ (hSw.keep hx))
  try simp only [Act.put, List.setIfInBounds_toArray, List.set_cons_zero, List.set_cons_succ]
  refine wpHeld_val (v := .bool true) (by rfl) ?yz0i37 ?rz0i37
  case yz0i37 => (intro wS hSw; go_simp; try ((have hb := HB.out; have hv := HV.out; unfold RightP okT; rw [sz0]; omega)))
  try simp only [Act.put, List.setIfInBounds_toArray, List.set_cons_zero, List.set_cons_succ]
  refine wpHeld_val (v := ?vz0i38) (by rfl) ?yz0i38 ?rz0i38
  case yz0i38 => (intro wS hSw; go_simp; try (with_reducible rfl))
  try simp only [Act.put, List.setIfInBounds_toArray, List.set_cons_zero, List.set_cons_succ]
  refine wpHeld_val (v := ?vz0i39) (by rfl) ?yz0i39 ?rz0i39
  case yz0i39 => (intro wS hSw; go_simp; try (with_reducible rfl))
  try simp only [Act.put, List.setIfInBounds_toArray, List.set_cons_zero, List.set_cons_succ]
  refine wpHeld_nil ?_
  intro wS hSw
  go_wp2
  go_ret
  exact ⟨rfl, hSw.2⟩

set_option maxRecDepth 100000 in
set_option maxHeartbeats 1000000 in
theorem bare_0b (a0 : Int) (a1 : Int) (a2 : Int) (W : World) (w0 : (Lit.int .u32 a0).wf = true) (w1 : (Lit.int .i64 a1).wf = true) (w2 : (Lit.int .i64 a2).wf = true) (hb : a1 = 0) (hv : 1099511627776 < a2) :
    Calls Try.prog 4 #[.int .u32 a0, .int .i64 a1, .int .i64 a2] W fun e w' => e = .returned (.bool true) ∧ Below W.heap.size W w' := by
  have HB := Lib.hid hb
  have HV := Lib.hid hv
  have k0 : (a1 == 0) = true := beq_iff_eq.2 (by omega)
  have k1 : (a1 == 1) = false := beq_eq_false_iff_ne.2 (by omega)
  have k2 : (a1 == 2) = false := beq_eq_false_iff_ne.2 (by omega)
  have k3 : (a1 == 3) = false := beq_eq_false_iff_ne.2 (by omega)
  have k4 : (a1 == 4) = false := beq_eq_false_iff_ne.2 (by omega)
  have k5 : (a1 == 5) = false := beq_eq_false_iff_ne.2 (by omega)
  clear hb
  skip
  have h0 : decide (0 ≤ a2) = true := decide_eq_true (by omega)
  have hM : decide (a2 ≤ 1099511627776) = false := decide_eq_false (by omega)
  go_enter Try.func4, Try.ntmps4
  go_upto_region 9 with (first | (go_at_call 7; (with_reducible refine (awake_any _).mono ?_); rintro e w1 ⟨rfl, hx⟩; have H1 := Lib.hid hx; clear hx) | (go_at_call 14; (with_reducible refine (bare_any _ _ _ _).mono ?_); rintro e wy ⟨rfl, hx⟩; have H2 := Lib.hid (((HeldB.nil (lowA (lowA (lowA (low H1.out hx) (.cells #[.int .u32 a0, .int .i64 a1, .string { data := #[] }, .int .i64 0, .int .i64 0, .int .i64 0, .int .i64 0, .int .i64 a2] 25)) (.cells #[.int .u32 a0, .int .i64 a1, .string { data := #[120] }, .int .i64 0, .int .i64 0, .int .i64 0, .int .i64 0, .int .i64 a2] 25)) (.cells #[.int .u32 a0, .int .i64 a1, .string { data := #[] }, .int .i64 0, .int .i64 0, .int .i64 1, .int .i64 0, .int .i64 a2] 25))).cons (((Blk.new wy #[.int .u32 a0, .int .i64 a1, .string { data := #[] }, .int .i64 0, .int .i64 0, .int .i64 0, .int .i64 0, .int .i64 a2] 25).alloc (.cells #[.int .u32 a0, .int .i64 a1, .string { data := #[120] }, .int .i64 0, .int .i64 0, .int .i64 0, .int .i64 0, .int .i64 a2] 25)).alloc (.cells #[.int .u32 a0, .int .i64 a1, .string { data := #[] }, .int .i64 0, .int .i64 0, .int .i64 1, .int .i64 0, .int .i64 a2] 25))).cons ((Blk.new2 wy (.cells #[.int .u32 a0, .int .i64 a1, .string { data := #[] }, .int .i64 0, .int .i64 0, .int .i64 0, .int .i64 0, .int .i64 a2] 25) #[.int .u32 a0, .int .i64 a1, .string { data := #[120] }, .int .i64 0, .int .i64 0, .int .i64 0, .int .i64 0, .int .i64 a2] 25).alloc (.cells #[.int .u32 a0, .int .i64 a1, .string { data := #[] }, .int .i64 0, .int .i64 0, .int .i64 1, .int .i64 0, .int .i64 a2] 25)) |>.cons (Blk.new3 wy (.cells #[.int .u32 a0, .int .i64 a1, .string { data := #[] }, .int .i64 0, .int .i64 0, .int .i64 0, .int .i64 0, .int .i64 a2] 25) (.cells #[.int .u32 a0, .int .i64 a1, .string { data := #[120] }, .int .i64 0, .int .i64 0, .int .i64 0, .int .i64 0, .int .i64 a2] 25) #[.int .u32 a0, .int .i64 a1, .string { data := #[] }, .int .i64 0, .int .i64 0, .int .i64 1, .int .i64 0, .int .i64 a2] 25)); clear hx))
  refine wp_region_seq (S := HeldB W [((wy.heap.size + 1 + 1), #[.int .u32 a0, .int .i64 a1, .string { data := #[] }, .int .i64 0, .int .i64 0, .int .i64 1, .int .i64 0, .int .i64 a2], 25), ((wy.heap.size + 1), #[.int .u32 a0, .int .i64 a1, .string { data := #[120] }, .int .i64 0, .int .i64 0, .int .i64 0, .int .i64 0, .int .i64 a2], 25), (wy.heap.size, #[.int .u32 a0, .int .i64 a1, .string { data := #[] }, .int .i64 0, .int .i64 0, .int .i64 0, .int .i64 0, .int .i64 a2], 25)]) 40 (by kernel_rfl) (by kernel_rfl) H2.out.drew ?_
  simp only [List.take_succ_cons, List.take_zero, List.drop_succ_cons, List.drop_zero]
  refine wpHeld_val (v := ?vz0b0) (by rfl) ?yz0b0 ?rz0b0
  case yz0b0 => (intro wS hSw; go_simp; try (with_reducible rfl))
  try simp only [Act.put, List.setIfInBounds_toArray, List.set_cons_zero, List.set_cons_succ]
  refine wpHeld_val (v := ?vz0b1) (by rfl) ?yz0b1 ?rz0b1
  case yz0b1 => (intro wS hSw; go_simp; try (with_reducible rfl))
  try simp only [Act.put, List.setIfInBounds_toArray, List.set_cons_zero, List.set_cons_succ]
  refine wpHeld_val (v := ?vz0b2) (by rfl) ?yz0b2 ?rz0b2
  case yz0b2 => (intro wS hSw; obtain ⟨q0_0, q0_1, q0_2, q0_3, q0_4, q0_5, q0_6, q0_7⟩ := (hSw).b0.cells8; obtain ⟨q1_0, q1_1, q1_2, q1_3, q1_4, q1_5, q1_6, q1_7⟩ := (hSw).tl.b0.cells8; obtain ⟨q2_0, q2_1, q2_2, q2_3, q2_4, q2_5, q2_6, q2_7⟩ := (hSw).tl.tl.b0.cells8; go_simp; try (with_reducible rfl))
  try simp only [Act.put, List.setIfInBounds_toArray, List.set_cons_zero, List.set_cons_succ]
  refine wpHeld_val (v := ?vz0b3) (by rfl) ?yz0b3 ?rz0b3
  case yz0b3 => (intro wS hSw; go_simp; try (with_reducible rfl))
  try simp only [Act.put, List.setIfInBounds_toArray, List.set_cons_zero, List.set_cons_succ]
  refine wpHeld_val (v := ?vz0b4) (by rfl) ?yz0b4 ?rz0b4
  case yz0b4 => (intro wS hSw; go_simp; try (with_reducible rfl))
  try simp only [Act.put, List.setIfInBounds_toArray, List.set_cons_zero, List.set_cons_succ]
  refine wpHeld_val (v := ?vz0b5) (by rfl) ?yz0b5 ?rz0b5
  case yz0b5 => (intro wS hSw; go_simp; try (with_reducible rfl))
  try simp only [Act.put, List.setIfInBounds_toArray, List.set_cons_zero, List.set_cons_succ]
  refine wpHeld_run (.agg #[.int .u32 a0, .int .i64 a1, .string { data := #[] }, .int .i64 0, .int .i64 0, .int .i64 0, .int .i64 0, .int .i64 a2]) (by rfl) ?cz0b6 ?rz0b6
  case cz0b6 => (intro wS hSw K hK; go_simp; (go_at_call 15; (with_reducible refine (rbare_any _ _ _ _).mono ?_); rintro e w5 ⟨rfl, hx⟩); go_wp2_with fail; exact hK.out _ (hSw.keep hx))
  try simp only [Act.put, List.setIfInBounds_toArray, List.set_cons_zero, List.set_cons_succ]
  refine wpHeld_val (v := .bool true) (by rfl) ?yz0b7 ?rz0b7
  case yz0b7 => (intro wS hSw; go_simp; try (first | with_reducible rfl | (split <;> omega)))
  try simp only [Act.put, List.setIfInBounds_toArray, List.set_cons_zero, List.set_cons_succ]
  refine wpHeld_val (v := ?vz0b8) (by rfl) ?yz0b8 ?rz0b8
  case yz0b8 => (intro wS hSw; go_simp; try (with_reducible rfl))
  try simp only [Act.put, List.setIfInBounds_toArray, List.set_cons_zero, List.set_cons_succ]
  refine wpHeld_val (v := ?vz0b9) (by rfl) ?yz0b9 ?rz0b9
  case yz0b9 => (intro wS hSw; go_simp; try (with_reducible rfl))
  try simp only [Act.put, List.setIfInBounds_toArray, List.set_cons_zero, List.set_cons_succ]
  refine wpHeld_val (v := ?vz0b10) (by rfl) ?yz0b10 ?rz0b10
  case yz0b10 => (intro wS hSw; obtain ⟨q0_0, q0_1, q0_2, q0_3, q0_4, q0_5, q0_6, q0_7⟩ := (hSw).b0.cells8; obtain ⟨q1_0, q1_1, q1_2, q1_3, q1_4, q1_5, q1_6, q1_7⟩ := (hSw).tl.b0.cells8; obtain ⟨q2_0, q2_1, q2_2, q2_3, q2_4, q2_5, q2_6, q2_7⟩ := (hSw).tl.tl.b0.cells8; go_simp; try (with_reducible rfl))
  try simp only [Act.put, List.setIfInBounds_toArray, List.set_cons_zero, List.set_cons_succ]
  refine wpHeld_run (.bool (decide (RightP a1 { data := #[] } 0 0 0 0 a2))) (by rfl) ?cz0b11 ?rz0b11
  case cz0b11 => (intro wS hSw K hK; go_simp; (go_at_call 10; (with_reducible refine (right_any _ _ _ _ _ _ _ _ _).mono ?_); rintro e w5 ⟨rfl, hx⟩); go_wp2_with fail; exact hK.out _ (hSw.keep hx))
  try simp only [Act.put, List.setIfInBounds_toArray, List.set_cons_zero, List.set_cons_succ]
  refine wpHeld_val (v := ?vz0b12) (by rfl) ?yz0b12 ?rz0b12
  case yz0b12 => (intro wS hSw; go_simp; try (with_reducible rfl))
  try simp only [Act.put, List.setIfInBounds_toArray, List.set_cons_zero, List.set_cons_succ]
  refine wpHeld_val (v := .bool true) (by rfl) ?yz0b13 ?rz0b13
  case yz0b13 => (intro wS hSw; go_simp; try ((have hb := HB.out; have hv := HV.out; unfold RightP okT; rw [sz0]; omega)))
  try simp only [Act.put, List.setIfInBounds_toArray, List.set_cons_zero, List.set_cons_succ]
  refine wpHeld_val (v := ?vz0b14) (by rfl) ?yz0b14 ?rz0b14
  case yz0b14 => (intro wS hSw; go_simp; try (with_reducible rfl))
  try simp only [Act.put, List.setIfInBounds_toArray, List.set_cons_zero, List.set_cons_succ]
  refine wpHeld_val (v := ?vz0b15) (by rfl) ?yz0b15 ?rz0b15
  case yz0b15 => (intro wS hSw; go_simp; try (with_reducible rfl))
  try simp only [Act.put, List.setIfInBounds_toArray, List.set_cons_zero, List.set_cons_succ]
  refine wpHeld_val (v := ?vz0b16) (by rfl) ?yz0b16 ?rz0b16
  case yz0b16 => (intro wS hSw; obtain ⟨q0_0, q0_1, q0_2, q0_3, q0_4, q0_5, q0_6, q0_7⟩ := (hSw).b0.cells8; obtain ⟨q1_0, q1_1, q1_2, q1_3, q1_4, q1_5, q1_6, q1_7⟩ := (hSw).tl.b0.cells8; obtain ⟨q2_0, q2_1, q2_2, q2_3, q2_4, q2_5, q2_6, q2_7⟩ := (hSw).tl.tl.b0.cells8; go_simp; try (with_reducible rfl))
  try simp only [Act.put, List.setIfInBounds_toArray, List.set_cons_zero, List.set_cons_succ]
  refine wpHeld_run (.int .i64 0) (by rfl) ?cz0b17 ?rz0b17
  case cz0b17 => (intro wS hSw K hK; go_simp; (go_at_call 12; (with_reducible refine (over_any _ _ _ _ _ _ _ _ _).mono ?_); rintro e w5 ⟨rfl, hx⟩); go_wp2_with fail; exact hK.out _ (hSw.keep hx))
  try simp only [Act.put, List.setIfInBounds_toArray, List.set_cons_zero, List.set_cons_succ]
  refine wpHeld_val (v := .bool true) (by rfl) ?yz0b18 ?rz0b18
  case yz0b18 => (intro wS hSw; go_simp; try (first | with_reducible rfl | (split <;> omega)))
  try simp only [Act.put, List.setIfInBounds_toArray, List.set_cons_zero, List.set_cons_succ]
  refine wpHeld_val (v := ?vz0b19) (by rfl) ?yz0b19 ?rz0b19
  case yz0b19 => (intro wS hSw; go_simp; try (with_reducible rfl))
  try simp only [Act.put, List.setIfInBounds_toArray, List.set_cons_zero, List.set_cons_succ]
  refine wpHeld_val (v := ?vz0b20) (by rfl) ?yz0b20 ?rz0b20
  case yz0b20 => (intro wS hSw; go_simp; try (with_reducible rfl))
  try simp only [Act.put, List.setIfInBounds_toArray, List.set_cons_zero, List.set_cons_succ]
  refine wpHeld_val (v := ?vz0b21) (by rfl) ?yz0b21 ?rz0b21
  case yz0b21 => (intro wS hSw; obtain ⟨q0_0, q0_1, q0_2, q0_3, q0_4, q0_5, q0_6, q0_7⟩ := (hSw).b0.cells8; obtain ⟨q1_0, q1_1, q1_2, q1_3, q1_4, q1_5, q1_6, q1_7⟩ := (hSw).tl.b0.cells8; obtain ⟨q2_0, q2_1, q2_2, q2_3, q2_4, q2_5, q2_6, q2_7⟩ := (hSw).tl.tl.b0.cells8; go_simp; try (with_reducible rfl))
  try simp only [Act.put, List.setIfInBounds_toArray, List.set_cons_zero, List.set_cons_succ]
  refine wpHeld_run (.bool (decide (RightP a1 { data := #[120] } 0 0 0 0 a2))) (by rfl) ?cz0b22 ?rz0b22
  case cz0b22 => (intro wS hSw K hK; go_simp; (go_at_call 10; (with_reducible refine (right_any _ _ _ _ _ _ _ _ _).mono ?_); rintro e w5 ⟨rfl, hx⟩); go_wp2_with fail; exact hK.out _ (hSw.keep hx))
  try simp only [Act.put, List.setIfInBounds_toArray, List.set_cons_zero, List.set_cons_succ]
  refine wpHeld_val (v := ?vz0b23) (by rfl) ?yz0b23 ?rz0b23
  case yz0b23 => (intro wS hSw; go_simp; try (with_reducible rfl))
  try simp only [Act.put, List.setIfInBounds_toArray, List.set_cons_zero, List.set_cons_succ]
  refine wpHeld_val (v := ?vz0b24) (by rfl) ?yz0b24 ?rz0b24
  case yz0b24 => (intro wS hSw; go_simp; try (with_reducible rfl))
  try simp only [Act.put, List.setIfInBounds_toArray, List.set_cons_zero, List.set_cons_succ]
  refine wpHeld_skip (by rfl) ?_
  try simp only [Act.put, List.setIfInBounds_toArray, List.set_cons_zero, List.set_cons_succ]
  refine wpHeld_skip (by rfl) ?_
  try simp only [Act.put, List.setIfInBounds_toArray, List.set_cons_zero, List.set_cons_succ]
  refine wpHeld_val (v := ?vz0b27) (by rfl) ?yz0b27 ?rz0b27
  case yz0b27 => (intro wS hSw; go_simp; try (with_reducible rfl))
  try simp only [Act.put, List.setIfInBounds_toArray, List.set_cons_zero, List.set_cons_succ]
  refine wpHeld_val (v := ?vz0b28) (by rfl) ?yz0b28 ?rz0b28
  case yz0b28 => (intro wS hSw; go_simp; try (with_reducible rfl))
  try simp only [Act.put, List.setIfInBounds_toArray, List.set_cons_zero, List.set_cons_succ]
  refine wpHeld_skip (by rfl) ?_
  try simp only [Act.put, List.setIfInBounds_toArray, List.set_cons_zero, List.set_cons_succ]
  refine wpHeld_skip (by rfl) ?_
  try simp only [Act.put, List.setIfInBounds_toArray, List.set_cons_zero, List.set_cons_succ]
  refine wpHeld_val (v := ?vz0b31) (by rfl) ?yz0b31 ?rz0b31
  case yz0b31 => (intro wS hSw; go_simp; try (with_reducible rfl))
  try simp only [Act.put, List.setIfInBounds_toArray, List.set_cons_zero, List.set_cons_succ]
  refine wpHeld_val (v := .bool true) (by rfl) ?yz0b32 ?rz0b32
  case yz0b32 => (intro wS hSw; go_simp; try ((have hb := HB.out; have hv := HV.out; unfold RightP okT; rw [sz1]; omega)))
  try simp only [Act.put, List.setIfInBounds_toArray, List.set_cons_zero, List.set_cons_succ]
  refine wpHeld_val (v := ?vz0b33) (by rfl) ?yz0b33 ?rz0b33
  case yz0b33 => (intro wS hSw; go_simp; try (with_reducible rfl))
  try simp only [Act.put, List.setIfInBounds_toArray, List.set_cons_zero, List.set_cons_succ]
  refine wpHeld_val (v := ?vz0b34) (by rfl) ?yz0b34 ?rz0b34
  case yz0b34 => (intro wS hSw; go_simp; try (with_reducible rfl))
  try simp only [Act.put, List.setIfInBounds_toArray, List.set_cons_zero, List.set_cons_succ]
  refine wpHeld_val (v := ?vz0b35) (by rfl) ?yz0b35 ?rz0b35
  case yz0b35 => (intro wS hSw; obtain ⟨q0_0, q0_1, q0_2, q0_3, q0_4, q0_5, q0_6, q0_7⟩ := (hSw).b0.cells8; obtain ⟨q1_0, q1_1, q1_2, q1_3, q1_4, q1_5, q1_6, q1_7⟩ := (hSw).tl.b0.cells8; obtain ⟨q2_0, q2_1, q2_2, q2_3, q2_4, q2_5, q2_6, q2_7⟩ := (hSw).tl.tl.b0.cells8; go_simp; try (with_reducible rfl))
  try simp only [Act.put, List.setIfInBounds_toArray, List.set_cons_zero, List.set_cons_succ]
  refine wpHeld_run (.bool (decide (RightP a1 { data := #[] } 0 0 1 0 a2))) (by rfl) ?cz0b36 ?rz0b36
  case cz0b36 => (intro wS hSw K hK; go_simp; (go_at_call 10; (with_reducible refine (right_any _ _ _ _ _ _ _ _ _).mono ?_); rintro e w5 ⟨rfl, hx⟩); go_wp2_with fail; exact hK.out _ (hSw.keep hx))
  try simp only [Act.put, List.setIfInBounds_toArray, List.set_cons_zero, List.set_cons_succ]
  refine wpHeld_val (v := .bool true) (by rfl) ?yz0b37 ?rz0b37
  case yz0b37 => (intro wS hSw; go_simp; try ((have hb := HB.out; have hv := HV.out; unfold RightP okT; rw [sz0]; omega)))
  try simp only [Act.put, List.setIfInBounds_toArray, List.set_cons_zero, List.set_cons_succ]
  refine wpHeld_val (v := ?vz0b38) (by rfl) ?yz0b38 ?rz0b38
  case yz0b38 => (intro wS hSw; go_simp; try (with_reducible rfl))
  try simp only [Act.put, List.setIfInBounds_toArray, List.set_cons_zero, List.set_cons_succ]
  refine wpHeld_val (v := ?vz0b39) (by rfl) ?yz0b39 ?rz0b39
  case yz0b39 => (intro wS hSw; go_simp; try (with_reducible rfl))
  try simp only [Act.put, List.setIfInBounds_toArray, List.set_cons_zero, List.set_cons_succ]
  refine wpHeld_nil ?_
  intro wS hSw
  go_wp2
  go_ret
  exact ⟨rfl, hSw.2⟩

set_option maxRecDepth 100000 in
set_option maxHeartbeats 1000000 in
theorem bare_1n (a0 : Int) (a1 : Int) (a2 : Int) (W : World) (w0 : (Lit.int .u32 a0).wf = true) (w1 : (Lit.int .i64 a1).wf = true) (w2 : (Lit.int .i64 a2).wf = true) (hb : a1 = 1) (hv : a2 < 0) :
    Calls Try.prog 4 #[.int .u32 a0, .int .i64 a1, .int .i64 a2] W fun e w' => e = .returned (.bool true) ∧ Below W.heap.size W w' := by
  have HB := Lib.hid hb
  have HV := Lib.hid hv
  have k0 : (a1 == 0) = false := beq_eq_false_iff_ne.2 (by omega)
  have k1 : (a1 == 1) = true := beq_iff_eq.2 (by omega)
  have k2 : (a1 == 2) = false := beq_eq_false_iff_ne.2 (by omega)
  have k3 : (a1 == 3) = false := beq_eq_false_iff_ne.2 (by omega)
  have k4 : (a1 == 4) = false := beq_eq_false_iff_ne.2 (by omega)
  have k5 : (a1 == 5) = false := beq_eq_false_iff_ne.2 (by omega)
  clear hb
  skip
  have h0 : decide (0 ≤ a2) = false := decide_eq_false (by omega)
  go_enter Try.func4, Try.ntmps4
  go_upto_region 9 with (first | (go_at_call 7; (with_reducible refine (awake_any _).mono ?_); rintro e w1 ⟨rfl, hx⟩; have H1 := Lib.hid hx; clear hx) | (go_at_call 14; (with_reducible refine (bare_any _ _ _ _).mono ?_); rintro e wy ⟨rfl, hx⟩; have H2 := Lib.hid (((HeldB.nil (lowA (lowA (lowA (low H1.out hx) (.cells #[.int .u32 a0, .int .i64 a1, .string { data := #[] }, .int .i64 0, .int .i64 0, .int .i64 0, .int .i64 0, .int .i64 a2] 25)) (.cells #[.int .u32 a0, .int .i64 a1, .string { data := #[120] }, .int .i64 0, .int .i64 0, .int .i64 0, .int .i64 0, .int .i64 a2] 25)) (.cells #[.int .u32 a0, .int .i64 a1, .string { data := #[] }, .int .i64 0, .int .i64 0, .int .i64 1, .int .i64 0, .int .i64 a2] 25))).cons (((Blk.new wy #[.int .u32 a0, .int .i64 a1, .string { data := #[] }, .int .i64 0, .int .i64 0, .int .i64 0, .int .i64 0, .int .i64 a2] 25).alloc (.cells #[.int .u32 a0, .int .i64 a1, .string { data := #[120] }, .int .i64 0, .int .i64 0, .int .i64 0, .int .i64 0, .int .i64 a2] 25)).alloc (.cells #[.int .u32 a0, .int .i64 a1, .string { data := #[] }, .int .i64 0, .int .i64 0, .int .i64 1, .int .i64 0, .int .i64 a2] 25))).cons ((Blk.new2 wy (.cells #[.int .u32 a0, .int .i64 a1, .string { data := #[] }, .int .i64 0, .int .i64 0, .int .i64 0, .int .i64 0, .int .i64 a2] 25) #[.int .u32 a0, .int .i64 a1, .string { data := #[120] }, .int .i64 0, .int .i64 0, .int .i64 0, .int .i64 0, .int .i64 a2] 25).alloc (.cells #[.int .u32 a0, .int .i64 a1, .string { data := #[] }, .int .i64 0, .int .i64 0, .int .i64 1, .int .i64 0, .int .i64 a2] 25)) |>.cons (Blk.new3 wy (.cells #[.int .u32 a0, .int .i64 a1, .string { data := #[] }, .int .i64 0, .int .i64 0, .int .i64 0, .int .i64 0, .int .i64 a2] 25) (.cells #[.int .u32 a0, .int .i64 a1, .string { data := #[120] }, .int .i64 0, .int .i64 0, .int .i64 0, .int .i64 0, .int .i64 a2] 25) #[.int .u32 a0, .int .i64 a1, .string { data := #[] }, .int .i64 0, .int .i64 0, .int .i64 1, .int .i64 0, .int .i64 a2] 25)); clear hx))
  refine wp_region_seq (S := HeldB W [((wy.heap.size + 1 + 1), #[.int .u32 a0, .int .i64 a1, .string { data := #[] }, .int .i64 0, .int .i64 0, .int .i64 1, .int .i64 0, .int .i64 a2], 25), ((wy.heap.size + 1), #[.int .u32 a0, .int .i64 a1, .string { data := #[120] }, .int .i64 0, .int .i64 0, .int .i64 0, .int .i64 0, .int .i64 a2], 25), (wy.heap.size, #[.int .u32 a0, .int .i64 a1, .string { data := #[] }, .int .i64 0, .int .i64 0, .int .i64 0, .int .i64 0, .int .i64 a2], 25)]) 40 (by kernel_rfl) (by kernel_rfl) H2.out.drew ?_
  simp only [List.take_succ_cons, List.take_zero, List.drop_succ_cons, List.drop_zero]
  refine wpHeld_val (v := ?vz1n0) (by rfl) ?yz1n0 ?rz1n0
  case yz1n0 => (intro wS hSw; go_simp; try (with_reducible rfl))
  try simp only [Act.put, List.setIfInBounds_toArray, List.set_cons_zero, List.set_cons_succ]
  refine wpHeld_val (v := ?vz1n1) (by rfl) ?yz1n1 ?rz1n1
  case yz1n1 => (intro wS hSw; go_simp; try (with_reducible rfl))
  try simp only [Act.put, List.setIfInBounds_toArray, List.set_cons_zero, List.set_cons_succ]
  refine wpHeld_val (v := ?vz1n2) (by rfl) ?yz1n2 ?rz1n2
  case yz1n2 => (intro wS hSw; obtain ⟨q0_0, q0_1, q0_2, q0_3, q0_4, q0_5, q0_6, q0_7⟩ := (hSw).b0.cells8; obtain ⟨q1_0, q1_1, q1_2, q1_3, q1_4, q1_5, q1_6, q1_7⟩ := (hSw).tl.b0.cells8; obtain ⟨q2_0, q2_1, q2_2, q2_3, q2_4, q2_5, q2_6, q2_7⟩ := (hSw).tl.tl.b0.cells8; go_simp; try (with_reducible rfl))
  try simp only [Act.put, List.setIfInBounds_toArray, List.set_cons_zero, List.set_cons_succ]
  refine wpHeld_val (v := ?vz1n3) (by rfl) ?yz1n3 ?rz1n3
  case yz1n3 => (intro wS hSw; go_simp; try (with_reducible rfl))
  try simp only [Act.put, List.setIfInBounds_toArray, List.set_cons_zero, List.set_cons_succ]
  refine wpHeld_val (v := ?vz1n4) (by rfl) ?yz1n4 ?rz1n4
  case yz1n4 => (intro wS hSw; go_simp; try (with_reducible rfl))
  try simp only [Act.put, List.setIfInBounds_toArray, List.set_cons_zero, List.set_cons_succ]
  refine wpHeld_val (v := ?vz1n5) (by rfl) ?yz1n5 ?rz1n5
  case yz1n5 => (intro wS hSw; go_simp; try (with_reducible rfl))
  try simp only [Act.put, List.setIfInBounds_toArray, List.set_cons_zero, List.set_cons_succ]
  refine wpHeld_run (.agg #[.int .u32 a0, .int .i64 a1, .string { data := #[] }, .int .i64 0, .int .i64 0, .int .i64 0, .int .i64 0, .int .i64 a2]) (by rfl) ?cz1n6 ?rz1n6
  case cz1n6 => (intro wS hSw K hK; go_simp; (go_at_call 15; (with_reducible refine (rbare_any _ _ _ _).mono ?_); rintro e w5 ⟨rfl, hx⟩); go_wp2_with fail; exact hK.out _ (hSw.keep hx))
  try simp only [Act.put, List.setIfInBounds_toArray, List.set_cons_zero, List.set_cons_succ]
  refine wpHeld_val (v := .bool true) (by rfl) ?yz1n7 ?rz1n7
  case yz1n7 => (intro wS hSw; go_simp; try (first | with_reducible rfl | (split <;> omega)))
  try simp only [Act.put, List.setIfInBounds_toArray, List.set_cons_zero, List.set_cons_succ]
  refine wpHeld_val (v := ?vz1n8) (by rfl) ?yz1n8 ?rz1n8
  case yz1n8 => (intro wS hSw; go_simp; try (with_reducible rfl))
  try simp only [Act.put, List.setIfInBounds_toArray, List.set_cons_zero, List.set_cons_succ]
  refine wpHeld_val (v := ?vz1n9) (by rfl) ?yz1n9 ?rz1n9
  case yz1n9 => (intro wS hSw; go_simp; try (with_reducible rfl))
  try simp only [Act.put, List.setIfInBounds_toArray, List.set_cons_zero, List.set_cons_succ]
  refine wpHeld_val (v := ?vz1n10) (by rfl) ?yz1n10 ?rz1n10
  case yz1n10 => (intro wS hSw; obtain ⟨q0_0, q0_1, q0_2, q0_3, q0_4, q0_5, q0_6, q0_7⟩ := (hSw).b0.cells8; obtain ⟨q1_0, q1_1, q1_2, q1_3, q1_4, q1_5, q1_6, q1_7⟩ := (hSw).tl.b0.cells8; obtain ⟨q2_0, q2_1, q2_2, q2_3, q2_4, q2_5, q2_6, q2_7⟩ := (hSw).tl.tl.b0.cells8; go_simp; try (with_reducible rfl))
  try simp only [Act.put, List.setIfInBounds_toArray, List.set_cons_zero, List.set_cons_succ]
  refine wpHeld_run (.bool (decide (RightP a1 { data := #[] } 0 0 0 0 a2))) (by rfl) ?cz1n11 ?rz1n11
  case cz1n11 => (intro wS hSw K hK; go_simp; (go_at_call 10; (with_reducible refine (right_any _ _ _ _ _ _ _ _ _).mono ?_); rintro e w5 ⟨rfl, hx⟩); go_wp2_with fail; exact hK.out _ (hSw.keep hx))
  try simp only [Act.put, List.setIfInBounds_toArray, List.set_cons_zero, List.set_cons_succ]
  refine wpHeld_val (v := ?vz1n12) (by rfl) ?yz1n12 ?rz1n12
  case yz1n12 => (intro wS hSw; go_simp; try (with_reducible rfl))
  try simp only [Act.put, List.setIfInBounds_toArray, List.set_cons_zero, List.set_cons_succ]
  refine wpHeld_val (v := .bool true) (by rfl) ?yz1n13 ?rz1n13
  case yz1n13 => (intro wS hSw; go_simp; try ((have hb := HB.out; have hv := HV.out; unfold RightP okT; rw [sz0]; omega)))
  try simp only [Act.put, List.setIfInBounds_toArray, List.set_cons_zero, List.set_cons_succ]
  refine wpHeld_val (v := ?vz1n14) (by rfl) ?yz1n14 ?rz1n14
  case yz1n14 => (intro wS hSw; go_simp; try (with_reducible rfl))
  try simp only [Act.put, List.setIfInBounds_toArray, List.set_cons_zero, List.set_cons_succ]
  refine wpHeld_val (v := ?vz1n15) (by rfl) ?yz1n15 ?rz1n15
  case yz1n15 => (intro wS hSw; go_simp; try (with_reducible rfl))
  try simp only [Act.put, List.setIfInBounds_toArray, List.set_cons_zero, List.set_cons_succ]
  refine wpHeld_val (v := ?vz1n16) (by rfl) ?yz1n16 ?rz1n16
  case yz1n16 => (intro wS hSw; obtain ⟨q0_0, q0_1, q0_2, q0_3, q0_4, q0_5, q0_6, q0_7⟩ := (hSw).b0.cells8; obtain ⟨q1_0, q1_1, q1_2, q1_3, q1_4, q1_5, q1_6, q1_7⟩ := (hSw).tl.b0.cells8; obtain ⟨q2_0, q2_1, q2_2, q2_3, q2_4, q2_5, q2_6, q2_7⟩ := (hSw).tl.tl.b0.cells8; go_simp; try (with_reducible rfl))
  try simp only [Act.put, List.setIfInBounds_toArray, List.set_cons_zero, List.set_cons_succ]
  refine wpHeld_run (.int .i64 0) (by rfl) ?cz1n17 ?rz1n17
  case cz1n17 => (intro wS hSw K hK; go_simp; (go_at_call 12; (with_reducible refine (over_any _ _ _ _ _ _ _ _ _).mono ?_); rintro e w5 ⟨rfl, hx⟩); go_wp2_with fail; exact hK.out _ (hSw.keep hx))
  try simp only [Act.put, List.setIfInBounds_toArray, List.set_cons_zero, List.set_cons_succ]
  refine wpHeld_val (v := .bool true) (by rfl) ?yz1n18 ?rz1n18
  case yz1n18 => (intro wS hSw; go_simp; try (first | with_reducible rfl | (split <;> omega)))
  try simp only [Act.put, List.setIfInBounds_toArray, List.set_cons_zero, List.set_cons_succ]
  refine wpHeld_val (v := ?vz1n19) (by rfl) ?yz1n19 ?rz1n19
  case yz1n19 => (intro wS hSw; go_simp; try (with_reducible rfl))
  try simp only [Act.put, List.setIfInBounds_toArray, List.set_cons_zero, List.set_cons_succ]
  refine wpHeld_val (v := ?vz1n20) (by rfl) ?yz1n20 ?rz1n20
  case yz1n20 => (intro wS hSw; go_simp; try (with_reducible rfl))
  try simp only [Act.put, List.setIfInBounds_toArray, List.set_cons_zero, List.set_cons_succ]
  refine wpHeld_val (v := ?vz1n21) (by rfl) ?yz1n21 ?rz1n21
  case yz1n21 => (intro wS hSw; obtain ⟨q0_0, q0_1, q0_2, q0_3, q0_4, q0_5, q0_6, q0_7⟩ := (hSw).b0.cells8; obtain ⟨q1_0, q1_1, q1_2, q1_3, q1_4, q1_5, q1_6, q1_7⟩ := (hSw).tl.b0.cells8; obtain ⟨q2_0, q2_1, q2_2, q2_3, q2_4, q2_5, q2_6, q2_7⟩ := (hSw).tl.tl.b0.cells8; go_simp; try (with_reducible rfl))
  try simp only [Act.put, List.setIfInBounds_toArray, List.set_cons_zero, List.set_cons_succ]
  refine wpHeld_run (.bool (decide (RightP a1 { data := #[120] } 0 0 0 0 a2))) (by rfl) ?cz1n22 ?rz1n22
  case cz1n22 => (intro wS hSw K hK; go_simp; (go_at_call 10; (with_reducible refine (right_any _ _ _ _ _ _ _ _ _).mono ?_); rintro e w5 ⟨rfl, hx⟩); go_wp2_with fail; exact hK.out _ (hSw.keep hx))
  try simp only [Act.put, List.setIfInBounds_toArray, List.set_cons_zero, List.set_cons_succ]
  refine wpHeld_val (v := ?vz1n23) (by rfl) ?yz1n23 ?rz1n23
  case yz1n23 => (intro wS hSw; go_simp; try (with_reducible rfl))
  try simp only [Act.put, List.setIfInBounds_toArray, List.set_cons_zero, List.set_cons_succ]
  refine wpHeld_val (v := ?vz1n24) (by rfl) ?yz1n24 ?rz1n24
  case yz1n24 => (intro wS hSw; go_simp; try (with_reducible rfl))
  try simp only [Act.put, List.setIfInBounds_toArray, List.set_cons_zero, List.set_cons_succ]
  refine wpHeld_skip (by rfl) ?_
  try simp only [Act.put, List.setIfInBounds_toArray, List.set_cons_zero, List.set_cons_succ]
  refine wpHeld_skip (by rfl) ?_
  try simp only [Act.put, List.setIfInBounds_toArray, List.set_cons_zero, List.set_cons_succ]
  refine wpHeld_val (v := ?vz1n27) (by rfl) ?yz1n27 ?rz1n27
  case yz1n27 => (intro wS hSw; go_simp; try (with_reducible rfl))
  try simp only [Act.put, List.setIfInBounds_toArray, List.set_cons_zero, List.set_cons_succ]
  refine wpHeld_val (v := ?vz1n28) (by rfl) ?yz1n28 ?rz1n28
  case yz1n28 => (intro wS hSw; go_simp; try (with_reducible rfl))
  try simp only [Act.put, List.setIfInBounds_toArray, List.set_cons_zero, List.set_cons_succ]
  refine wpHeld_skip (by rfl) ?_
  try simp only [Act.put, List.setIfInBounds_toArray, List.set_cons_zero, List.set_cons_succ]
  refine wpHeld_skip (by rfl) ?_
  try simp only [Act.put, List.setIfInBounds_toArray, List.set_cons_zero, List.set_cons_succ]
  refine wpHeld_val (v := ?vz1n31) (by rfl) ?yz1n31 ?rz1n31
  case yz1n31 => (intro wS hSw; go_simp; try (with_reducible rfl))
  try simp only [Act.put, List.setIfInBounds_toArray, List.set_cons_zero, List.set_cons_succ]
  refine wpHeld_val (v := .bool true) (by rfl) ?yz1n32 ?rz1n32
  case yz1n32 => (intro wS hSw; go_simp; try ((have hb := HB.out; have hv := HV.out; unfold RightP okT; rw [sz1]; omega)))
  try simp only [Act.put, List.setIfInBounds_toArray, List.set_cons_zero, List.set_cons_succ]
  refine wpHeld_val (v := ?vz1n33) (by rfl) ?yz1n33 ?rz1n33
  case yz1n33 => (intro wS hSw; go_simp; try (with_reducible rfl))
  try simp only [Act.put, List.setIfInBounds_toArray, List.set_cons_zero, List.set_cons_succ]
  refine wpHeld_val (v := ?vz1n34) (by rfl) ?yz1n34 ?rz1n34
  case yz1n34 => (intro wS hSw; go_simp; try (with_reducible rfl))
  try simp only [Act.put, List.setIfInBounds_toArray, List.set_cons_zero, List.set_cons_succ]
  refine wpHeld_val (v := ?vz1n35) (by rfl) ?yz1n35 ?rz1n35
  case yz1n35 => (intro wS hSw; obtain ⟨q0_0, q0_1, q0_2, q0_3, q0_4, q0_5, q0_6, q0_7⟩ := (hSw).b0.cells8; obtain ⟨q1_0, q1_1, q1_2, q1_3, q1_4, q1_5, q1_6, q1_7⟩ := (hSw).tl.b0.cells8; obtain ⟨q2_0, q2_1, q2_2, q2_3, q2_4, q2_5, q2_6, q2_7⟩ := (hSw).tl.tl.b0.cells8; go_simp; try (with_reducible rfl))
  try simp only [Act.put, List.setIfInBounds_toArray, List.set_cons_zero, List.set_cons_succ]
  refine wpHeld_run (.bool (decide (RightP a1 { data := #[] } 0 0 1 0 a2))) (by rfl) ?cz1n36 ?rz1n36
  case cz1n36 => (intro wS hSw K hK; go_simp; (go_at_call 10; (with_reducible refine (right_any _ _ _ _ _ _ _ _ _).mono ?_); rintro e w5 ⟨rfl, hx⟩); go_wp2_with fail; exact hK.out _ (hSw.keep hx))
  try simp only [Act.put, List.setIfInBounds_toArray, List.set_cons_zero, List.set_cons_succ]
  refine wpHeld_val (v := .bool true) (by rfl) ?yz1n37 ?rz1n37
  case yz1n37 => (intro wS hSw; go_simp; try ((have hb := HB.out; have hv := HV.out; unfold RightP okT; rw [sz0]; omega)))
  try simp only [Act.put, List.setIfInBounds_toArray, List.set_cons_zero, List.set_cons_succ]
  refine wpHeld_val (v := ?vz1n38) (by rfl) ?yz1n38 ?rz1n38
  case yz1n38 => (intro wS hSw; go_simp; try (with_reducible rfl))
  try simp only [Act.put, List.setIfInBounds_toArray, List.set_cons_zero, List.set_cons_succ]
  refine wpHeld_val (v := ?vz1n39) (by rfl) ?yz1n39 ?rz1n39
  case yz1n39 => (intro wS hSw; go_simp; try (with_reducible rfl))
  try simp only [Act.put, List.setIfInBounds_toArray, List.set_cons_zero, List.set_cons_succ]
  refine wpHeld_nil ?_
  intro wS hSw
  go_wp2
  go_ret
  exact ⟨rfl, hSw.2⟩

set_option maxRecDepth 100000 in
set_option maxHeartbeats 1000000 in
theorem bare_1i (a0 : Int) (a1 : Int) (a2 : Int) (W : World) (w0 : (Lit.int .u32 a0).wf = true) (w1 : (Lit.int .i64 a1).wf = true) (w2 : (Lit.int .i64 a2).wf = true) (hb : a1 = 1) (hv : 0 ≤ a2 ∧ a2 ≤ 1099511627776) :
    Calls Try.prog 4 #[.int .u32 a0, .int .i64 a1, .int .i64 a2] W fun e w' => e = .returned (.bool true) ∧ Below W.heap.size W w' := by
  have HB := Lib.hid hb
  have HV := Lib.hid hv
  have k0 : (a1 == 0) = false := beq_eq_false_iff_ne.2 (by omega)
  have k1 : (a1 == 1) = true := beq_iff_eq.2 (by omega)
  have k2 : (a1 == 2) = false := beq_eq_false_iff_ne.2 (by omega)
  have k3 : (a1 == 3) = false := beq_eq_false_iff_ne.2 (by omega)
  have k4 : (a1 == 4) = false := beq_eq_false_iff_ne.2 (by omega)
  have k5 : (a1 == 5) = false := beq_eq_false_iff_ne.2 (by omega)
  clear hb
  obtain ⟨hv1, hv2⟩ := hv
  have h0 : decide (0 ≤ a2) = true := decide_eq_true (by omega)
  have hM : decide (a2 ≤ 1099511627776) = true := decide_eq_true (by omega)
  go_enter Try.func4, Try.ntmps4
  go_upto_region 9 with (first | (go_at_call 7; (with_reducible refine (awake_any _).mono ?_); rintro e w1 ⟨rfl, hx⟩; have H1 := Lib.hid hx; clear hx) | (go_at_call 14; (with_reducible refine (bare_any _ _ _ _).mono ?_); rintro e wy ⟨rfl, hx⟩; have H2 := Lib.hid (((HeldB.nil (lowA (lowA (lowA (low H1.out hx) (.cells #[.int .u32 a0, .int .i64 a1, .string { data := #[] }, .int .i64 0, .int .i64 0, .int .i64 0, .int .i64 0, .int .i64 a2] 25)) (.cells #[.int .u32 a0, .int .i64 a1, .string { data := #[120] }, .int .i64 0, .int .i64 0, .int .i64 0, .int .i64 0, .int .i64 a2] 25)) (.cells #[.int .u32 a0, .int .i64 a1, .string { data := #[] }, .int .i64 0, .int .i64 0, .int .i64 1, .int .i64 0, .int .i64 a2] 25))).cons (((Blk.new wy #[.int .u32 a0, .int .i64 a1, .string { data := #[] }, .int .i64 0, .int .i64 0, .int .i64 0, .int .i64 0, .int .i64 a2] 25).alloc (.cells #[.int .u32 a0, .int .i64 a1, .string { data := #[120] }, .int .i64 0, .int .i64 0, .int .i64 0, .int .i64 0, .int .i64 a2] 25)).alloc (.cells #[.int .u32 a0, .int .i64 a1, .string { data := #[] }, .int .i64 0, .int .i64 0, .int .i64 1, .int .i64 0, .int .i64 a2] 25))).cons ((Blk.new2 wy (.cells #[.int .u32 a0, .int .i64 a1, .string { data := #[] }, .int .i64 0, .int .i64 0, .int .i64 0, .int .i64 0, .int .i64 a2] 25) #[.int .u32 a0, .int .i64 a1, .string { data := #[120] }, .int .i64 0, .int .i64 0, .int .i64 0, .int .i64 0, .int .i64 a2] 25).alloc (.cells #[.int .u32 a0, .int .i64 a1, .string { data := #[] }, .int .i64 0, .int .i64 0, .int .i64 1, .int .i64 0, .int .i64 a2] 25)) |>.cons (Blk.new3 wy (.cells #[.int .u32 a0, .int .i64 a1, .string { data := #[] }, .int .i64 0, .int .i64 0, .int .i64 0, .int .i64 0, .int .i64 a2] 25) (.cells #[.int .u32 a0, .int .i64 a1, .string { data := #[120] }, .int .i64 0, .int .i64 0, .int .i64 0, .int .i64 0, .int .i64 a2] 25) #[.int .u32 a0, .int .i64 a1, .string { data := #[] }, .int .i64 0, .int .i64 0, .int .i64 1, .int .i64 0, .int .i64 a2] 25)); clear hx))
  refine wp_region_seq (S := HeldB W [((wy.heap.size + 1 + 1), #[.int .u32 a0, .int .i64 a1, .string { data := #[] }, .int .i64 0, .int .i64 0, .int .i64 1, .int .i64 0, .int .i64 a2], 25), ((wy.heap.size + 1), #[.int .u32 a0, .int .i64 a1, .string { data := #[120] }, .int .i64 0, .int .i64 0, .int .i64 0, .int .i64 0, .int .i64 a2], 25), (wy.heap.size, #[.int .u32 a0, .int .i64 a1, .string { data := #[] }, .int .i64 0, .int .i64 0, .int .i64 0, .int .i64 0, .int .i64 a2], 25)]) 40 (by kernel_rfl) (by kernel_rfl) H2.out.drew ?_
  simp only [List.take_succ_cons, List.take_zero, List.drop_succ_cons, List.drop_zero]
  refine wpHeld_val (v := ?vz1i0) (by rfl) ?yz1i0 ?rz1i0
  case yz1i0 => (intro wS hSw; go_simp; try (with_reducible rfl))
  try simp only [Act.put, List.setIfInBounds_toArray, List.set_cons_zero, List.set_cons_succ]
  refine wpHeld_val (v := ?vz1i1) (by rfl) ?yz1i1 ?rz1i1
  case yz1i1 => (intro wS hSw; go_simp; try (with_reducible rfl))
  try simp only [Act.put, List.setIfInBounds_toArray, List.set_cons_zero, List.set_cons_succ]
  refine wpHeld_val (v := ?vz1i2) (by rfl) ?yz1i2 ?rz1i2
  case yz1i2 => (intro wS hSw; obtain ⟨q0_0, q0_1, q0_2, q0_3, q0_4, q0_5, q0_6, q0_7⟩ := (hSw).b0.cells8; obtain ⟨q1_0, q1_1, q1_2, q1_3, q1_4, q1_5, q1_6, q1_7⟩ := (hSw).tl.b0.cells8; obtain ⟨q2_0, q2_1, q2_2, q2_3, q2_4, q2_5, q2_6, q2_7⟩ := (hSw).tl.tl.b0.cells8; go_simp; try (with_reducible rfl))
  try simp only [Act.put, List.setIfInBounds_toArray, List.set_cons_zero, List.set_cons_succ]
  refine wpHeld_val (v := ?vz1i3) (by rfl) ?yz1i3 ?rz1i3
  case yz1i3 => (intro wS hSw; go_simp; try (with_reducible rfl))
  try simp only [Act.put, List.setIfInBounds_toArray, List.set_cons_zero, List.set_cons_succ]
  refine wpHeld_val (v := ?vz1i4) (by rfl) ?yz1i4 ?rz1i4
  case yz1i4 => (intro wS hSw; go_simp; try (with_reducible rfl))
  try simp only [Act.put, List.setIfInBounds_toArray, List.set_cons_zero, List.set_cons_succ]
  refine wpHeld_val (v := ?vz1i5) (by rfl) ?yz1i5 ?rz1i5
  case yz1i5 => (intro wS hSw; go_simp; try (with_reducible rfl))
  try simp only [Act.put, List.setIfInBounds_toArray, List.set_cons_zero, List.set_cons_succ]
  refine wpHeld_run (.agg #[.int .u32 a0, .int .i64 a1, .string { data := #[] }, .int .i64 0, .int .i64 0, .int .i64 0, .int .i64 0, .int .i64 a2]) (by rfl) ?cz1i6 ?rz1i6
  case cz1i6 => (intro wS hSw K hK; go_simp; (go_at_call 15; (with_reducible refine (rbare_any _ _ _ _).mono ?_); rintro e w5 ⟨rfl, hx⟩); go_wp2_with fail; exact hK.out _ (hSw.keep hx))
  try simp only [Act.put, List.setIfInBounds_toArray, List.set_cons_zero, List.set_cons_succ]
  refine wpHeld_val (v := .bool true) (by rfl) ?yz1i7 ?rz1i7
  case yz1i7 => (intro wS hSw; go_simp; try (first | with_reducible rfl | (split <;> omega)))
  try simp only [Act.put, List.setIfInBounds_toArray, List.set_cons_zero, List.set_cons_succ]
  refine wpHeld_val (v := ?vz1i8) (by rfl) ?yz1i8 ?rz1i8
  case yz1i8 => (intro wS hSw; go_simp; try (with_reducible rfl))
  try simp only [Act.put, List.setIfInBounds_toArray, List.set_cons_zero, List.set_cons_succ]
  refine wpHeld_val (v := ?vz1i9) (by rfl) ?yz1i9 ?rz1i9
  case yz1i9 => (intro wS hSw; go_simp; try (with_reducible rfl))
  try simp only [Act.put, List.setIfInBounds_toArray, List.set_cons_zero, List.set_cons_succ]
  refine wpHeld_val (v := ?vz1i10) (by rfl) ?yz1i10 ?rz1i10
  case yz1i10 => (intro wS hSw; obtain ⟨q0_0, q0_1, q0_2, q0_3, q0_4, q0_5, q0_6, q0_7⟩ := (hSw).b0.cells8; obtain ⟨q1_0, q1_1, q1_2, q1_3, q1_4, q1_5, q1_6, q1_7⟩ := (hSw).tl.b0.cells8; obtain ⟨q2_0, q2_1, q2_2, q2_3, q2_4, q2_5, q2_6, q2_7⟩ := (hSw).tl.tl.b0.cells8; go_simp; try (with_reducible rfl))
  try simp only [Act.put, List.setIfInBounds_toArray, List.set_cons_zero, List.set_cons_succ]
  refine wpHeld_run (.bool (decide (RightP a1 { data := #[] } 0 0 0 0 a2))) (by rfl) ?cz1i11 ?rz1i11
  case cz1i11 => (intro wS hSw K hK; go_simp; (go_at_call 10; (with_reducible refine (right_any _ _ _ _ _ _ _ _ _).mono ?_); rintro e w5 ⟨rfl, hx⟩); go_wp2_with fail; exact hK.out _ (hSw.keep hx))
  try simp only [Act.put, List.setIfInBounds_toArray, List.set_cons_zero, List.set_cons_succ]
  refine wpHeld_val (v := ?vz1i12) (by rfl) ?yz1i12 ?rz1i12
  case yz1i12 => (intro wS hSw; go_simp; try (with_reducible rfl))
  try simp only [Act.put, List.setIfInBounds_toArray, List.set_cons_zero, List.set_cons_succ]
  refine wpHeld_val (v := .bool true) (by rfl) ?yz1i13 ?rz1i13
  case yz1i13 => (intro wS hSw; go_simp; try ((have hb := HB.out; have hv := HV.out; unfold RightP okT; rw [sz0]; omega)))
  try simp only [Act.put, List.setIfInBounds_toArray, List.set_cons_zero, List.set_cons_succ]
  refine wpHeld_val (v := ?vz1i14) (by rfl) ?yz1i14 ?rz1i14
  case yz1i14 => (intro wS hSw; go_simp; try (with_reducible rfl))
  try simp only [Act.put, List.setIfInBounds_toArray, List.set_cons_zero, List.set_cons_succ]
  refine wpHeld_val (v := ?vz1i15) (by rfl) ?yz1i15 ?rz1i15
  case yz1i15 => (intro wS hSw; go_simp; try (with_reducible rfl))
  try simp only [Act.put, List.setIfInBounds_toArray, List.set_cons_zero, List.set_cons_succ]
  refine wpHeld_val (v := ?vz1i16) (by rfl) ?yz1i16 ?rz1i16
  case yz1i16 => (intro wS hSw; obtain ⟨q0_0, q0_1, q0_2, q0_3, q0_4, q0_5, q0_6, q0_7⟩ := (hSw).b0.cells8; obtain ⟨q1_0, q1_1, q1_2, q1_3, q1_4, q1_5, q1_6, q1_7⟩ := (hSw).tl.b0.cells8; obtain ⟨q2_0, q2_1, q2_2, q2_3, q2_4, q2_5, q2_6, q2_7⟩ := (hSw).tl.tl.b0.cells8; go_simp; try (with_reducible rfl))
  try simp only [Act.put, List.setIfInBounds_toArray, List.set_cons_zero, List.set_cons_succ]
  refine wpHeld_run (.int .i64 0) (by rfl) ?cz1i17 ?rz1i17
  case cz1i17 => (intro wS hSw K hK; go_simp; (go_at_call 12; (with_reducible refine (over_any _ _ _ _ _ _ _ _ _).mono ?_); rintro e w5 ⟨rfl, hx⟩); go_wp2_with fail; exact hK.out _ (hSw.keep hx))
  try simp only [Act.put, List.setIfInBounds_toArray, List.set_cons_zero, List.set_cons_succ]
  refine wpHeld_val (v := .bool true) (by rfl) ?yz1i18 ?rz1i18
  case yz1i18 => (intro wS hSw; go_simp; try (first | with_reducible rfl | (split <;> omega)))
  try simp only [Act.put, List.setIfInBounds_toArray, List.set_cons_zero, List.set_cons_succ]
  refine wpHeld_val (v := ?vz1i19) (by rfl) ?yz1i19 ?rz1i19
  case yz1i19 => (intro wS hSw; go_simp; try (with_reducible rfl))
  try simp only [Act.put, List.setIfInBounds_toArray, List.set_cons_zero, List.set_cons_succ]
  refine wpHeld_val (v := ?vz1i20) (by rfl) ?yz1i20 ?rz1i20
  case yz1i20 => (intro wS hSw; go_simp; try (with_reducible rfl))
  try simp only [Act.put, List.setIfInBounds_toArray, List.set_cons_zero, List.set_cons_succ]
  refine wpHeld_val (v := ?vz1i21) (by rfl) ?yz1i21 ?rz1i21
  case yz1i21 => (intro wS hSw; obtain ⟨q0_0, q0_1, q0_2, q0_3, q0_4, q0_5, q0_6, q0_7⟩ := (hSw).b0.cells8; obtain ⟨q1_0, q1_1, q1_2, q1_3, q1_4, q1_5, q1_6, q1_7⟩ := (hSw).tl.b0.cells8; obtain ⟨q2_0, q2_1, q2_2, q2_3, q2_4, q2_5, q2_6, q2_7⟩ := (hSw).tl.tl.b0.cells8; go_simp; try (with_reducible rfl))
  try simp only [Act.put, List.setIfInBounds_toArray, List.set_cons_zero, List.set_cons_succ]
  refine wpHeld_run (.bool (decide (RightP a1 { data := #[120] } 0 0 0 0 a2))) (by rfl) ?cz1i22 ?rz1i22
  case cz1i22 => (intro wS hSw K hK; go_simp; (go_at_call 10; (with_reducible refine (right_any _ _ _ _ _ _ _ _ _).mono ?_); rintro e w5 ⟨rfl, hx⟩); go_wp2_with fail; exact hK.out _ (hSw.keep hx))
  try simp only [Act.put, List.setIfInBounds_toArray, List.set_cons_zero, List.set_cons_succ]
  refine wpHeld_val (v := ?vz1i23) (by rfl) ?yz1i23 ?rz1i23
  case yz1i23 => (intro wS hSw; go_simp; try (with_reducible rfl))
  try simp only [Act.put, List.setIfInBounds_toArray, List.set_cons_zero, List.set_cons_succ]
  refine wpHeld_val (v := ?vz1i24) (by rfl) ?yz1i24 ?rz1i24
  case yz1i24 => (intro wS hSw; go_simp; try (with_reducible rfl))
  try simp only [Act.put, List.setIfInBounds_toArray, List.set_cons_zero, List.set_cons_succ]
  refine wpHeld_skip (by rfl) ?_
  try simp only [Act.put, List.setIfInBounds_toArray, List.set_cons_zero, List.set_cons_succ]
  refine wpHeld_skip (by rfl) ?_
  try simp only [Act.put, List.setIfInBounds_toArray, List.set_cons_zero, List.set_cons_succ]
  refine wpHeld_val (v := ?vz1i27) (by rfl) ?yz1i27 ?rz1i27
  case yz1i27 => (intro wS hSw; go_simp; try (with_reducible rfl))
  try simp only [Act.put, List.setIfInBounds_toArray, List.set_cons_zero, List.set_cons_succ]
  refine wpHeld_val (v := ?vz1i28) (by rfl) ?yz1i28 ?rz1i28
  case yz1i28 => (intro wS hSw; go_simp; try (with_reducible rfl))
  try simp only [Act.put, List.setIfInBounds_toArray, List.set_cons_zero, List.set_cons_succ]
  refine wpHeld_skip (by rfl) ?_
  try simp only [Act.put, List.setIfInBounds_toArray, List.set_cons_zero, List.set_cons_succ]
  refine wpHeld_skip (by rfl) ?_
  try simp only [Act.put, List.setIfInBounds_toArray, List.set_cons_zero, List.set_cons_succ]
  refine wpHeld_val (v := ?vz1i31) (by rfl) ?yz1i31 ?rz1i31
  case yz1i31 => (intro wS hSw; go_simp; try (with_reducible rfl))
  try simp only [Act.put, List.setIfInBounds_toArray, List.set_cons_zero, List.set_cons_succ]
  refine wpHeld_val (v := .bool true) (by rfl) ?yz1i32 ?rz1i32
  case yz1i32 => (intro wS hSw; go_simp; try ((have hb := HB.out; have hv := HV.out; unfold RightP okT; rw [sz1]; omega)))
  try simp only [Act.put, List.setIfInBounds_toArray, List.set_cons_zero, List.set_cons_succ]
  refine wpHeld_val (v := ?vz1i33) (by rfl) ?yz1i33 ?rz1i33
  case yz1i33 => (intro wS hSw; go_simp; try (with_reducible rfl))
  try simp only [Act.put, List.setIfInBounds_toArray, List.set_cons_zero, List.set_cons_succ]
  refine wpHeld_val (v := ?vz1i34) (by rfl) ?yz1i34 ?rz1i34
  case yz1i34 => (intro wS hSw; go_simp; try (with_reducible rfl))
  try simp only [Act.put, List.setIfInBounds_toArray, List.set_cons_zero, List.set_cons_succ]
  refine wpHeld_val (v := ?vz1i35) (by rfl) ?yz1i35 ?rz1i35
  case yz1i35 => (intro wS hSw; obtain ⟨q0_0, q0_1, q0_2, q0_3, q0_4, q0_5, q0_6, q0_7⟩ := (hSw).b0.cells8; obtain ⟨q1_0, q1_1, q1_2, q1_3, q1_4, q1_5, q1_6, q1_7⟩ := (hSw).tl.b0.cells8; obtain ⟨q2_0, q2_1, q2_2, q2_3, q2_4, q2_5, q2_6, q2_7⟩ := (hSw).tl.tl.b0.cells8; go_simp; try (with_reducible rfl))
  try simp only [Act.put, List.setIfInBounds_toArray, List.set_cons_zero, List.set_cons_succ]
  refine wpHeld_run (.bool (decide (RightP a1 { data := #[] } 0 0 1 0 a2))) (by rfl) ?cz1i36 ?rz1i36
  case cz1i36 => (intro wS hSw K hK; go_simp; (go_at_call 10; (with_reducible refine (right_any _ _ _ _ _ _ _ _ _).mono ?_); rintro e w5 ⟨rfl, hx⟩); go_wp2_with fail; exact hK.out _ (hSw.keep hx))
  try simp only [Act.put, List.setIfInBounds_toArray, List.set_cons_zero, List.set_cons_succ]
  refine wpHeld_val (v := .bool true) (by rfl) ?yz1i37 ?rz1i37
  case yz1i37 => (intro wS hSw; go_simp; try ((have hb := HB.out; have hv := HV.out; unfold RightP okT; rw [sz0]; omega)))
  try simp only [Act.put, List.setIfInBounds_toArray, List.set_cons_zero, List.set_cons_succ]
  refine wpHeld_val (v := ?vz1i38) (by rfl) ?yz1i38 ?rz1i38
  case yz1i38 => (intro wS hSw; go_simp; try (with_reducible rfl))
  try simp only [Act.put, List.setIfInBounds_toArray, List.set_cons_zero, List.set_cons_succ]
  refine wpHeld_val (v := ?vz1i39) (by rfl) ?yz1i39 ?rz1i39
  case yz1i39 => (intro wS hSw; go_simp; try (with_reducible rfl))
  try simp only [Act.put, List.setIfInBounds_toArray, List.set_cons_zero, List.set_cons_succ]
  refine wpHeld_nil ?_
  intro wS hSw
  go_wp2
  go_ret
  exact ⟨rfl, hSw.2⟩

set_option maxRecDepth 100000 in
set_option maxHeartbeats 1000000 in
theorem bare_1b (a0 : Int) (a1 : Int) (a2 : Int) (W : World) (w0 : (Lit.int .u32 a0).wf = true) (w1 : (Lit.int .i64 a1).wf = true) (w2 : (Lit.int .i64 a2).wf = true) (hb : a1 = 1) (hv : 1099511627776 < a2) :
    Calls Try.prog 4 #[.int .u32 a0, .int .i64 a1, .int .i64 a2] W fun e w' => e = .returned (.bool true) ∧ Below W.heap.size W w' := by
  have HB := Lib.hid hb
  have HV := Lib.hid hv
  have k0 : (a1 == 0) = false := beq_eq_false_iff_ne.2 (by omega)
  have k1 : (a1 == 1) = true := beq_iff_eq.2 (by omega)
  have k2 : (a1 == 2) = false := beq_eq_false_iff_ne.2 (by omega)
  have k3 : (a1 == 3) = false := beq_eq_false_iff_ne.2 (by omega)
  have k4 : (a1 == 4) = false := beq_eq_false_iff_ne.2 (by omega)
  have k5 : (a1 == 5) = false := beq_eq_false_iff_ne.2 (by omega)
  clear hb
  skip
  have h0 : decide (0 ≤ a2) = true := decide_eq_true (by omega)
  have hM : decide (a2 ≤ 1099511627776) = false := decide_eq_false (by omega)
  go_enter Try.func4, Try.ntmps4
  go_upto_region 9 with (first | (go_at_call 7; (with_reducible refine (awake_any _).mono ?_); rintro e w1 ⟨rfl, hx⟩; have H1 := Lib.hid hx; clear hx) | (go_at_call 14; (with_reducible refine (bare_any _ _ _ _).mono ?_); rintro e wy ⟨rfl, hx⟩; have H2 := Lib.hid (((HeldB.nil (lowA (lowA (lowA (low H1.out hx) (.cells #[.int .u32 a0, .int .i64 a1, .string { data := #[] }, .int .i64 0, .int .i64 0, .int .i64 0, .int .i64 0, .int .i64 a2] 25)) (.cells #[.int .u32 a0, .int .i64 a1, .string { data := #[120] }, .int .i64 0, .int .i64 0, .int .i64 0, .int .i64 0, .int .i64 a2] 25)) (.cells #[.int .u32 a0, .int .i64 a1, .string { data := #[] }, .int .i64 0, .int .i64 0, .int .i64 1, .int .i64 0, .int .i64 a2] 25))).cons (((Blk.new wy #[.int .u32 a0, .int .i64 a1, .string { data := #[] }, .int .i64 0, .int .i64 0, .int .i64 0, .int .i64 0, .int .i64 a2] 25).alloc (.cells #[.int .u32 a0, .int .i64 a1, .string { data := #[120] }, .int .i64 0, .int .i64 0, .int .i64 0, .int .i64 0, .int .i64 a2] 25)).alloc (.cells #[.int .u32 a0, .int .i64 a1, .string { data := #[] }, .int .i64 0, .int .i64 0, .int .i64 1, .int .i64 0, .int .i64 a2] 25))).cons ((Blk.new2 wy (.cells #[.int .u32 a0, .int .i64 a1, .string { data := #[] }, .int .i64 0, .int .i64 0, .int .i64 0, .int .i64 0, .int .i64 a2] 25) #[.int .u32 a0, .int .i64 a1, .string { data := #[120] }, .int .i64 0, .int .i64 0, .int .i64 0, .int .i64 0, .int .i64 a2] 25).alloc (.cells #[.int .u32 a0, .int .i64 a1, .string { data := #[] }, .int .i64 0, .int .i64 0, .int .i64 1, .int .i64 0, .int .i64 a2] 25)) |>.cons (Blk.new3 wy (.cells #[.int .u32 a0, .int .i64 a1, .string { data := #[] }, .int .i64 0, .int .i64 0, .int .i64 0, .int .i64 0, .int .i64 a2] 25) (.cells #[.int .u32 a0, .int .i64 a1, .string { data := #[120] }, .int .i64 0, .int .i64 0, .int .i64 0, .int .i64 0, .int .i64 a2] 25) #[.int .u32 a0, .int .i64 a1, .string { data := #[] }, .int .i64 0, .int .i64 0, .int .i64 1, .int .i64 0, .int .i64 a2] 25)); clear hx))
  refine wp_region_seq (S := HeldB W [((wy.heap.size + 1 + 1), #[.int .u32 a0, .int .i64 a1, .string { data := #[] }, .int .i64 0, .int .i64 0, .int .i64 1, .int .i64 0, .int .i64 a2], 25), ((wy.heap.size + 1), #[.int .u32 a0, .int .i64 a1, .string { data := #[120] }, .int .i64 0, .int .i64 0, .int .i64 0, .int .i64 0, .int .i64 a2], 25), (wy.heap.size, #[.int .u32 a0, .int .i64 a1, .string { data := #[] }, .int .i64 0, .int .i64 0, .int .i64 0, .int .i64 0, .int .i64 a2], 25)]) 40 (by kernel_rfl) (by kernel_rfl) H2.out.drew ?_
  simp only [List.take_succ_cons, List.take_zero, List.drop_succ_cons, List.drop_zero]
  refine wpHeld_val (v := ?vz1b0) (by rfl) ?yz1b0 ?rz1b0
  case yz1b0 => (intro wS hSw; go_simp; try (with_reducible rfl))
  try simp only [Act.put, List.setIfInBounds_toArray, List.set_cons_zero, List.set_cons_succ]
  refine wpHeld_val (v := ?vz1b1) (by rfl) ?yz1b1 ?rz1b1
  case yz1b1 => (intro wS hSw; go_simp; try (with_reducible rfl))
  try simp only [Act.put, List.setIfInBounds_toArray, List.set_cons_zero, List.set_cons_succ]
  refine wpHeld_val (v := ?vz1b2) (by rfl) ?yz1b2 ?rz1b2
  case yz1b2 => (intro wS hSw; obtain ⟨q0_0, q0_1, q0_2, q0_3, q0_4, q0_5, q0_6, q0_7⟩ := (hSw).b0.cells8; obtain ⟨q1_0, q1_1, q1_2, q1_3, q1_4, q1_5, q1_6, q1_7⟩ := (hSw).tl.b0.cells8; obtain ⟨q2_0, q2_1, q2_2, q2_3, q2_4, q2_5, q2_6, q2_7⟩ := (hSw).tl.tl.b0.cells8; go_simp; try (with_reducible rfl))
  try simp only [Act.put, List.setIfInBounds_toArray, List.set_cons_zero, List.set_cons_succ]
  refine wpHeld_val (v := ?vz1b3) (by rfl) ?yz1b3 ?rz1b3
  case yz1b3 => (intro wS hSw; go_simp; try (with_reducible rfl))
  try simp only [Act.put, List.setIfInBounds_toArray, List.set_cons_zero, List.set_cons_succ]
  refine wpHeld_val (v := ?vz1b4) (by rfl) ?yz1b4 ?rz1b4
  case yz1b4 => (intro wS hSw; go_simp; try (with_reducible rfl))
  try simp only [Act.put, List.setIfInBounds_toArray, List.set_cons_zero, List.set_cons_succ]
  refine wpHeld_val (v := ?vz1b5) (by rfl) ?yz1b5 ?rz1b5
  case yz1b5 => (intro wS hSw; go_simp; try (with_reducible rfl))
  try simp only [Act.put, List.setIfInBounds_toArray, List.set_cons_zero, List.set_cons_succ]
  refine wpHeld_run (.agg #[.int .u32 a0, .int .i64 a1, .string { data := #[] }, .int .i64 0, .int .i64 0, .int .i64 0, .int .i64 0, .int .i64 a2]) (by rfl) ?cz1b6 ?rz1b6
  case cz1b6 => (intro wS hSw K hK; go_simp; (go_at_call 15; (with_reducible refine (rbare_any _ _ _ _).mono ?_); rintro e w5 ⟨rfl, hx⟩); go_wp2_with fail; exact hK.out _ (hSw.keep hx))
  try simp only [Act.put, List.setIfInBounds_toArray, List.set_cons_zero, List.set_cons_succ]
  refine wpHeld_val (v := .bool true) (by rfl) ?yz1b7 ?rz1b7
  case yz1b7 => (intro wS hSw; go_simp; try (first | with_reducible rfl | (split <;> omega)))
  try simp only [Act.put, List.setIfInBounds_toArray, List.set_cons_zero, List.set_cons_succ]
  refine wpHeld_val (v := ?vz1b8) (by rfl) ?yz1b8 ?rz1b8
  case yz1b8 => (intro wS hSw; go_simp; try (with_reducible rfl))
  try simp only [Act.put, List.setIfInBounds_toArray, List.set_cons_zero, List.set_cons_succ]
  refine wpHeld_val (v := ?vz1b9) (by rfl) ?yz1b9 ?rz1b9
  case yz1b9 => (intro wS hSw; go_simp; try (with_reducible rfl))
  try simp only [Act.put, List.setIfInBounds_toArray, List.set_cons_zero, List.set_cons_succ]
  refine wpHeld_val (v := ?vz1b10) (by rfl) ?yz1b10 ?rz1b10
  case yz1b10 => (intro wS hSw; obtain ⟨q0_0, q0_1, q0_2, q0_3, q0_4, q0_5, q0_6, q0_7⟩ := (hSw).b0.cells8; obtain ⟨q1_0, q1_1, q1_2, q1_3, q1_4, q1_5, q1_6, q1_7⟩ := (hSw).tl.b0.cells8; obtain ⟨q2_0, q2_1, q2_2, q2_3, q2_4, q2_5, q2_6, q2_7⟩ := (hSw).tl.tl.b0.cells8; go_simp; try (with_reducible rfl))
  try simp only [Act.put, List.setIfInBounds_toArray, List.set_cons_zero, List.set_cons_succ]
  refine wpHeld_run (.bool (decide (RightP a1 { data := #[] } 0 0 0 0 a2))) (by rfl) ?cz1b11 ?rz1b11
  case cz1b11 => (intro wS hSw K hK; go_simp; (go_at_call 10; (with_reducible refine (right_any _ _ _ _ _ _ _ _ _).mono ?_); rintro e w5 ⟨rfl, hx⟩); go_wp2_with fail; exact hK.out _ (hSw.keep hx))
  try simp only [Act.put, List.setIfInBounds_toArray, List.set_cons_zero, List.set_cons_succ]
  refine wpHeld_val (v := ?vz1b12) (by rfl) ?yz1b12 ?rz1b12
  case yz1b12 => (intro wS hSw; go_simp; try (with_reducible rfl))
  try simp only [Act.put, List.setIfInBounds_toArray, List.set_cons_zero, List.set_cons_succ]
  refine wpHeld_val (v := .bool true) (by rfl) ?yz1b13 ?rz1b13
  case yz1b13 => (intro wS hSw; go_simp; try ((have hb := HB.out; have hv := HV.out; unfold RightP okT; rw [sz0]; omega)))
  try simp only [Act.put, List.setIfInBounds_toArray, List.set_cons_zero, List.set_cons_succ]
  refine wpHeld_val (v := ?vz1b14) (by rfl) ?yz1b14 ?rz1b14
  case yz1b14 => (intro wS hSw; go_simp; try (with_reducible rfl))
  try simp only [Act.put, List.setIfInBounds_toArray, List.set_cons_zero, List.set_cons_succ]
  refine wpHeld_val (v := ?vz1b15) (by rfl) ?yz1b15 ?rz1b15
  case yz1b15 => (intro wS hSw; go_simp; try (with_reducible rfl))
  try simp only [Act.put, List.setIfInBounds_toArray, List.set_cons_zero, List.set_cons_succ]
  refine wpHeld_val (v := ?vz1b16) (by rfl) ?yz1b16 ?rz1b16
  case yz1b16 => (intro wS hSw; obtain ⟨q0_0, q0_1, q0_2, q0_3, q0_4, q0_5, q0_6, q0_7⟩ := (hSw).b0.cells8; obtain ⟨q1_0, q1_1, q1_2, q1_3, q1_4, q1_5, q1_6, q1_7⟩ := (hSw).tl.b0.cells8; obtain ⟨q2_0, q2_1, q2_2, q2_3, q2_4, q2_5, q2_6, q2_7⟩ := (hSw).tl.tl.b0.cells8; go_simp; try (with_reducible rfl))
  try simp only [Act.put, List.setIfInBounds_toArray, List.set_cons_zero, List.set_cons_succ]
  refine wpHeld_run (.int .i64 0) (by rfl) ?cz1b17 ?rz1b17
  case cz1b17 => (intro wS hSw K hK; go_simp; (go_at_call 12; (with_reducible refine (over_any _ _ _ _ _ _ _ _ _).mono ?_); rintro e w5 ⟨rfl, hx⟩); go_wp2_with fail; exact hK.out _ (hSw.keep hx))
  try simp only [Act.put, List.setIfInBounds_toArray, List.set_cons_zero, List.set_cons_succ]
  refine wpHeld_val (v := .bool true) (by rfl) ?yz1b18 ?rz1b18
  case yz1b18 => (intro wS hSw; go_simp; try (first | with_reducible rfl | (split <;> omega)))
  try simp only [Act.put, List.setIfInBounds_toArray, List.set_cons_zero, List.set_cons_succ]
  refine wpHeld_val (v := ?vz1b19) (by rfl) ?yz1b19 ?rz1b19
  case yz1b19 => (intro wS hSw; go_simp; try (with_reducible rfl))
  try simp only [Act.put, List.setIfInBounds_toArray, List.set_cons_zero, List.set_cons_succ]
  refine wpHeld_val (v := ?vz1b20) (by rfl) ?yz1b20 ?rz1b20
  case yz1b20 => (intro wS hSw; go_simp; try (with_reducible rfl))
  try simp only [Act.put, List.setIfInBounds_toArray, List.set_cons_zero, List.set_cons_succ]
  refine wpHeld_val (v := ?vz1b21) (by rfl) ?yz1b21 ?rz1b21
  case yz1b21 => (intro wS hSw; obtain ⟨q0_0, q0_1, q0_2, q0_3, q0_4, q0_5, q0_6, q0_7⟩ := (hSw).b0.cells8; obtain ⟨q1_0, q1_1, q1_2, q1_3, q1_4, q1_5, q1_6, q1_7⟩ := (hSw).tl.b0.cells8; obtain ⟨q2_0, q2_1, q2_2, q2_3, q2_4, q2_5, q2_6, q2_7⟩ := (hSw).tl.tl.b0.cells8; go_simp; try (with_reducible rfl))
  try simp only [Act.put, List.setIfInBounds_toArray, List.set_cons_zero, List.set_cons_succ]
  refine wpHeld_run (.bool (decide (RightP a1 { data := #[120] } 0 0 0 0 a2))) (by rfl) ?cz1b22 ?rz1b22
  case cz1b22 => (intro wS hSw K hK; go_simp; (go_at_call 10; (with_reducible refine (right_any _ _ _ _ _ _ _ _ _).mono ?_); rintro e w5 ⟨rfl, hx⟩); go_wp2_with fail; exact hK.out _ (hSw.keep hx))
  try simp only [Act.put, List.setIfInBounds_toArray, List.set_cons_zero, List.set_cons_succ]
  refine wpHeld_val (v := ?vz1b23) (by rfl) ?yz1b23 ?rz1b23
  case yz1b23 => (intro wS hSw; go_simp; try (with_reducible rfl))
  try simp only [Act.put, List.setIfInBounds_toArray, List.set_cons_zero, List.set_cons_succ]
  refine wpHeld_val (v := ?vz1b24) (by rfl) ?yz1b24 ?rz1b24
  case yz1b24 => (intro wS hSw; go_simp; try (with_reducible rfl))
  try simp only [Act.put, List.setIfInBounds_toArray, List.set_cons_zero, List.set_cons_succ]
  refine wpHeld_skip (by rfl) ?_
  try simp only [Act.put, List.setIfInBounds_toArray, List.set_cons_zero, List.set_cons_succ]
  refine wpHeld_skip (by rfl) ?_
  try simp only [Act.put, List.setIfInBounds_toArray, List.set_cons_zero, List.set_cons_succ]
  refine wpHeld_val (v := ?vz1b27) (by rfl) ?yz1b27 ?rz1b27
  case yz1b27 => (intro wS hSw; go_simp; try (with_reducible rfl))
  try simp only [Act.put, List.setIfInBounds_toArray, List.set_cons_zero, List.set_cons_succ]
  refine wpHeld_val (v := ?vz1b28) (by rfl) ?yz1b28 ?rz1b28
  case yz1b28 => (intro wS hSw; go_simp; try (with_reducible rfl))
  try simp only [Act.put, List.setIfInBounds_toArray, List.set_cons_zero, List.set_cons_succ]
  refine wpHeld_skip (by rfl) ?_
  try simp only [Act.put, List.setIfInBounds_toArray, List.set_cons_zero, List.set_cons_succ]
  refine wpHeld_skip (by rfl) ?_
  try simp only [Act.put, List.setIfInBounds_toArray, List.set_cons_zero, List.set_cons_succ]
  refine wpHeld_val (v := ?vz1b31) (by rfl) ?yz1b31 ?rz1b31
  case yz1b31 => (intro wS hSw; go_simp; try (with_reducible rfl))
  try simp only [Act.put, List.setIfInBounds_toArray, List.set_cons_zero, List.set_cons_succ]
  refine wpHeld_val (v := .bool true) (by rfl) ?yz1b32 ?rz1b32
  case yz1b32 => (intro wS hSw; go_simp; try ((have hb := HB.out; have hv := HV.out; unfold RightP okT; rw [sz1]; omega)))
  try simp only [Act.put, List.setIfInBounds_toArray, List.set_cons_zero, List.set_cons_succ]
  refine wpHeld_val (v := ?vz1b33) (by rfl) ?yz1b33 ?rz1b33
  case yz1b33 => (intro wS hSw; go_simp; try (with_reducible rfl))
  try simp only [Act.put, List.setIfInBounds_toArray, List.set_cons_zero, List.set_cons_succ]
  refine wpHeld_val (v := ?vz1b34) (by rfl) ?yz1b34 ?rz1b34
  case yz1b34 => (intro wS hSw; go_simp; try (with_reducible rfl))
  try simp only [Act.put, List.setIfInBounds_toArray, List.set_cons_zero, List.set_cons_succ]
  refine wpHeld_val (v := ?vz1b35) (by rfl) ?yz1b35 ?rz1b35
  case yz1b35 => (intro wS hSw; obtain ⟨q0_0, q0_1, q0_2, q0_3, q0_4, q0_5, q0_6, q0_7⟩ := (hSw).b0.cells8; obtain ⟨q1_0, q1_1, q1_2, q1_3, q1_4, q1_5, q1_6, q1_7⟩ := (hSw).tl.b0.cells8; obtain ⟨q2_0, q2_1, q2_2, q2_3, q2_4, q2_5, q2_6, q2_7⟩ := (hSw).tl.tl.b0.cells8; go_simp; try (with_reducible rfl))
  try simp only [Act.put, List.setIfInBounds_toArray, List.set_cons_zero, List.set_cons_succ]
  refine wpHeld_run (.bool (decide (RightP a1 { data := #[] } 0 0 1 0 a2))) (by rfl) ?cz1b36 ?rz1b36
  case cz1b36 => (intro wS hSw K hK; go_simp; (go_at_call 10; (with_reducible refine (right_any _ _ _ _ _ _ _ _ _).mono ?_); rintro e w5 ⟨rfl, hx⟩); go_wp2_with fail; exact hK.out _ (hSw.keep hx))
  try simp only [Act.put, List.setIfInBounds_toArray, List.set_cons_zero, List.set_cons_succ]
  refine wpHeld_val (v := .bool true) (by rfl) ?yz1b37 ?rz1b37
  case yz1b37 => (intro wS hSw; go_simp; try ((have hb := HB.out; have hv := HV.out; unfold RightP okT; rw [sz0]; omega)))
  try simp only [Act.put, List.setIfInBounds_toArray, List.set_cons_zero, List.set_cons_succ]
  refine wpHeld_val (v := ?vz1b38) (by rfl) ?yz1b38 ?rz1b38
  case yz1b38 => (intro wS hSw; go_simp; try (with_reducible rfl))
  try simp only [Act.put, List.setIfInBounds_toArray, List.set_cons_zero, List.set_cons_succ]
  refine wpHeld_val (v := ?vz1b39) (by rfl) ?yz1b39 ?rz1b39
  case yz1b39 => (intro wS hSw; go_simp; try (with_reducible rfl))
  try simp only [Act.put, List.setIfInBounds_toArray, List.set_cons_zero, List.set_cons_succ]
  refine wpHeld_nil ?_
  intro wS hSw
  go_wp2
  go_ret
  exact ⟨rfl, hSw.2⟩

set_option maxRecDepth 100000 in
set_option maxHeartbeats 1000000 in
theorem bare_5n (a0 : Int) (a1 : Int) (a2 : Int) (W : World) (w0 : (Lit.int .u32 a0).wf = true) (w1 : (Lit.int .i64 a1).wf = true) (w2 : (Lit.int .i64 a2).wf = true) (hb : a1 = 5) (hv : a2 < 0) :
    Calls Try.prog 4 #[.int .u32 a0, .int .i64 a1, .int .i64 a2] W fun e w' => e = .returned (.bool true) ∧ Below W.heap.size W w' := by
  have HB := Lib.hid hb
  have HV := Lib.hid hv
  have k0 : (a1 == 0) = false := beq_eq_false_iff_ne.2 (by omega)
  have k1 : (a1 == 1) = false := beq_eq_false_iff_ne.2 (by omega)
  have k2 : (a1 == 2) = false := beq_eq_false_iff_ne.2 (by omega)
  have k3 : (a1 == 3) = false := beq_eq_false_iff_ne.2 (by omega)
  have k4 : (a1 == 4) = false := beq_eq_false_iff_ne.2 (by omega)
  have k5 : (a1 == 5) = true := beq_iff_eq.2 (by omega)
  clear hb
  skip
  have h0 : decide (0 ≤ a2) = false := decide_eq_false (by omega)
  go_enter Try.func4, Try.ntmps4
  go_upto_region 9 with (first | (go_at_call 7; (with_reducible refine (awake_any _).mono ?_); rintro e w1 ⟨rfl, hx⟩; have H1 := Lib.hid hx; clear hx) | (go_at_call 14; (with_reducible refine (bare_any _ _ _ _).mono ?_); rintro e wy ⟨rfl, hx⟩; have H2 := Lib.hid (((HeldB.nil (lowA (lowA (lowA (low H1.out hx) (.cells #[.int .u32 a0, .int .i64 a1, .string { data := #[] }, .int .i64 0, .int .i64 0, .int .i64 0, .int .i64 0, .int .i64 a2] 25)) (.cells #[.int .u32 a0, .int .i64 a1, .string { data := #[120] }, .int .i64 0, .int .i64 0, .int .i64 0, .int .i64 0, .int .i64 a2] 25)) (.cells #[.int .u32 a0, .int .i64 a1, .string { data := #[] }, .int .i64 0, .int .i64 0, .int .i64 1, .int .i64 0, .int .i64 a2] 25))).cons (((Blk.new wy #[.int .u32 a0, .int .i64 a1, .string { data := #[] }, .int .i64 0, .int .i64 0, .int .i64 0, .int .i64 0, .int .i64 a2] 25).alloc (.cells #[.int .u32 a0, .int .i64 a1, .string { data := #[120] }, .int .i64 0, .int .i64 0, .int .i64 0, .int .i64 0, .int .i64 a2] 25)).alloc (.cells #[.int .u32 a0, .int .i64 a1, .string { data := #[] }, .int .i64 0, .int .i64 0, .int .i64 1, .int .i64 0, .int .i64 a2] 25))).cons ((Blk.new2 wy (.cells #[.int .u32 a0, .int .i64 a1, .string { data := #[] }, .int .i64 0, .int .i64 0, .int .i64 0, .int .i64 0, .int .i64 a2] 25) #[.int .u32 a0, .int .i64 a1, .string { data := #[120] }, .int .i64 0, .int .i64 0, .int .i64 0, .int .i64 0, .int .i64 a2] 25).alloc (.cells #[.int .u32 a0, .int .i64 a1, .string { data := #[] }, .int .i64 0, .int .i64 0, .int .i64 1, .int .i64 0, .int .i64 a2] 25)) |>.cons (Blk.new3 wy (.cells #[.int .u32 a0, .int .i64 a1, .string { data := #[] }, .int .i64 0, .int .i64 0, .int .i64 0, .int .i64 0, .int .i64 a2] 25) (.cells #[.int .u32 a0, .int .i64 a1, .string { data := #[120] }, .int .i64 0, .int .i64 0, .int .i64 0, .int .i64 0, .int .i64 a2] 25) #[.int .u32 a0, .int .i64 a1, .string { data := #[] }, .int .i64 0, .int .i64 0, .int .i64 1, .int .i64 0, .int .i64 a2] 25)); clear hx))
  refine wp_region_seq (S := HeldB W [((wy.heap.size + 1 + 1), #[.int .u32 a0, .int .i64 a1, .string { data := #[] }, .int .i64 0, .int .i64 0, .int .i64 1, .int .i64 0, .int .i64 a2], 25), ((wy.heap.size + 1), #[.int .u32 a0, .int .i64 a1, .string { data := #[120] }, .int .i64 0, .int .i64 0, .int .i64 0, .int .i64 0, .int .i64 a2], 25), (wy.heap.size, #[.int .u32 a0, .int .i64 a1, .string { data := #[] }, .int .i64 0, .int .i64 0, .int .i64 0, .int .i64 0, .int .i64 a2], 25)]) 40 (by kernel_rfl) (by kernel_rfl) H2.out.drew ?_
  simp only [List.take_succ_cons, List.take_zero, List.drop_succ_cons, List.drop_zero]
  refine wpHeld_val (v := ?vz5n0) (by rfl) ?yz5n0 ?rz5n0
  case yz5n0 => (intro wS hSw; go_simp; try (with_reducible rfl))
  try simp only [Act.put, List.setIfInBounds_toArray, List.set_cons_zero, List.set_cons_succ]
  refine wpHeld_val (v := ?vz5n1) (by rfl) ?yz5n1 ?rz5n1
  case yz5n1 => (intro wS hSw; go_simp; try (with_reducible rfl))
  try simp only [Act.put, List.setIfInBounds_toArray, List.set_cons_zero, List.set_cons_succ]
  refine wpHeld_val (v := ?vz5n2) (by rfl) ?yz5n2 ?rz5n2
  case yz5n2 => (intro wS hSw; obtain ⟨q0_0, q0_1, q0_2, q0_3, q0_4, q0_5, q0_6, q0_7⟩ := (hSw).b0.cells8; obtain ⟨q1_0, q1_1, q1_2, q1_3, q1_4, q1_5, q1_6, q1_7⟩ := (hSw).tl.b0.cells8; obtain ⟨q2_0, q2_1, q2_2, q2_3, q2_4, q2_5, q2_6, q2_7⟩ := (hSw).tl.tl.b0.cells8; go_simp; try (with_reducible rfl))
  try simp only [Act.put, List.setIfInBounds_toArray, List.set_cons_zero, List.set_cons_succ]
  refine wpHeld_val (v := ?vz5n3) (by rfl) ?yz5n3 ?rz5n3
  case yz5n3 => (intro wS hSw; go_simp; try (with_reducible rfl))
  try simp only [Act.put, List.setIfInBounds_toArray, List.set_cons_zero, List.set_cons_succ]
  refine wpHeld_val (v := ?vz5n4) (by rfl) ?yz5n4 ?rz5n4
  case yz5n4 => (intro wS hSw; go_simp; try (with_reducible rfl))
  try simp only [Act.put, List.setIfInBounds_toArray, List.set_cons_zero, List.set_cons_succ]
  refine wpHeld_val (v := ?vz5n5) (by rfl) ?yz5n5 ?rz5n5
  case yz5n5 => (intro wS hSw; go_simp; try (with_reducible rfl))
  try simp only [Act.put, List.setIfInBounds_toArray, List.set_cons_zero, List.set_cons_succ]
  refine wpHeld_run (.agg #[.int .u32 a0, .int .i64 a1, .string { data := #[] }, .int .i64 0, .int .i64 0, .int .i64 0, .int .i64 0, .int .i64 a2]) (by rfl) ?cz5n6 ?rz5n6
  case cz5n6 => (intro wS hSw K hK; go_simp; (go_at_call 15; (with_reducible refine (rbare_any _ _ _ _).mono ?_); rintro e w5 ⟨rfl, hx⟩); go_wp2_with fail; exact hK.out _ (hSw.keep hx))
  try simp only [Act.put, List.setIfInBounds_toArray, List.set_cons_zero, List.set_cons_succ]
  refine wpHeld_val (v := .bool true) (by rfl) ?yz5n7 ?rz5n7
  case yz5n7 => (intro wS hSw; go_simp; try (first | with_reducible rfl | (split <;> omega)))
  try simp only [Act.put, List.setIfInBounds_toArray, List.set_cons_zero, List.set_cons_succ]
  refine wpHeld_val (v := ?vz5n8) (by rfl) ?yz5n8 ?rz5n8
  case yz5n8 => (intro wS hSw; go_simp; try (with_reducible rfl))
  try simp only [Act.put, List.setIfInBounds_toArray, List.set_cons_zero, List.set_cons_succ]
  refine wpHeld_val (v := ?vz5n9) (by rfl) ?yz5n9 ?rz5n9
  case yz5n9 => (intro wS hSw; go_simp; try (with_reducible rfl))
  try simp only [Act.put, List.setIfInBounds_toArray, List.set_cons_zero, List.set_cons_succ]
  refine wpHeld_val (v := ?vz5n10) (by rfl) ?yz5n10 ?rz5n10
  case yz5n10 => (intro wS hSw; obtain ⟨q0_0, q0_1, q0_2, q0_3, q0_4, q0_5, q0_6, q0_7⟩ := (hSw).b0.cells8; obtain ⟨q1_0, q1_1, q1_2, q1_3, q1_4, q1_5, q1_6, q1_7⟩ := (hSw).tl.b0.cells8; obtain ⟨q2_0, q2_1, q2_2, q2_3, q2_4, q2_5, q2_6, q2_7⟩ := (hSw).tl.tl.b0.cells8; go_simp; try (with_reducible rfl))
  try simp only [Act.put, List.setIfInBounds_toArray, List.set_cons_zero, List.set_cons_succ]
  refine wpHeld_run (.bool (decide (RightP a1 { data := #[] } 0 0 0 0 a2))) (by rfl) ?cz5n11 ?rz5n11
  case cz5n11 => (intro wS hSw K hK; go_simp; (go_at_call 10; (with_reducible refine (right_any _ _ _ _ _ _ _ _ _).mono ?_); rintro e w5 ⟨rfl, hx⟩); go_wp2_with fail; exact hK.out _ (hSw.keep hx))
  try simp only [Act.put, List.setIfInBounds_toArray, List.set_cons_zero, List.set_cons_succ]
  refine wpHeld_val (v := ?vz5n12) (by rfl) ?yz5n12 ?rz5n12
  case yz5n12 => (intro wS hSw; go_simp; try (with_reducible rfl))
  try simp only [Act.put, List.setIfInBounds_toArray, List.set_cons_zero, List.set_cons_succ]
  refine wpHeld_val (v := .bool true) (by rfl) ?yz5n13 ?rz5n13
  case yz5n13 => (intro wS hSw; go_simp; try ((have hb := HB.out; have hv := HV.out; unfold RightP okT; rw [sz0]; omega)))
  try simp only [Act.put, List.setIfInBounds_toArray, List.set_cons_zero, List.set_cons_succ]
  refine wpHeld_val (v := ?vz5n14) (by rfl) ?yz5n14 ?rz5n14
  case yz5n14 => (intro wS hSw; go_simp; try (with_reducible rfl))
  try simp only [Act.put, List.setIfInBounds_toArray, List.set_cons_zero, List.set_cons_succ]
  refine wpHeld_val (v := ?vz5n15) (by rfl) ?yz5n15 ?rz5n15
  case yz5n15 => (intro wS hSw; go_simp; try (with_reducible rfl))
  try simp only [Act.put, List.setIfInBounds_toArray, List.set_cons_zero, List.set_cons_succ]
  refine wpHeld_val (v := ?vz5n16) (by rfl) ?yz5n16 ?rz5n16
  case yz5n16 => (intro wS hSw; obtain ⟨q0_0, q0_1, q0_2, q0_3, q0_4, q0_5, q0_6, q0_7⟩ := (hSw).b0.cells8; obtain ⟨q1_0, q1_1, q1_2, q1_3, q1_4, q1_5, q1_6, q1_7⟩ := (hSw).tl.b0.cells8; obtain ⟨q2_0, q2_1, q2_2, q2_3, q2_4, q2_5, q2_6, q2_7⟩ := (hSw).tl.tl.b0.cells8; go_simp; try (with_reducible rfl))
  try simp only [Act.put, List.setIfInBounds_toArray, List.set_cons_zero, List.set_cons_succ]
  refine wpHeld_run (.int .i64 0) (by rfl) ?cz5n17 ?rz5n17
  case cz5n17 => (intro wS hSw K hK; go_simp; (go_at_call 12; (with_reducible refine (over_any _ _ _ _ _ _ _ _ _).mono ?_); rintro e w5 ⟨rfl, hx⟩); go_wp2_with fail; exact hK.out _ (hSw.keep hx))
  try simp only [Act.put, List.setIfInBounds_toArray, List.set_cons_zero, List.set_cons_succ]
  refine wpHeld_val (v := .bool true) (by rfl) ?yz5n18 ?rz5n18
  case yz5n18 => (intro wS hSw; go_simp; try (first | with_reducible rfl | (split <;> omega)))
  try simp only [Act.put, List.setIfInBounds_toArray, List.set_cons_zero, List.set_cons_succ]
  refine wpHeld_val (v := ?vz5n19) (by rfl) ?yz5n19 ?rz5n19
  case yz5n19 => (intro wS hSw; go_simp; try (with_reducible rfl))
  try simp only [Act.put, List.setIfInBounds_toArray, List.set_cons_zero, List.set_cons_succ]
  refine wpHeld_val (v := ?vz5n20) (by rfl) ?yz5n20 ?rz5n20
  case yz5n20 => (intro wS hSw; go_simp; try (with_reducible rfl))
  try simp only [Act.put, List.setIfInBounds_toArray, List.set_cons_zero, List.set_cons_succ]
  refine wpHeld_val (v := ?vz5n21) (by rfl) ?yz5n21 ?rz5n21
  case yz5n21 => (intro wS hSw; obtain ⟨q0_0, q0_1, q0_2, q0_3, q0_4, q0_5, q0_6, q0_7⟩ := (hSw).b0.cells8; obtain ⟨q1_0, q1_1, q1_2, q1_3, q1_4, q1_5, q1_6, q1_7⟩ := (hSw).tl.b0.cells8; obtain ⟨q2_0, q2_1, q2_2, q2_3, q2_4, q2_5, q2_6, q2_7⟩ := (hSw).tl.tl.b0.cells8; go_simp; try (with_reducible rfl))
  try simp only [Act.put, List.setIfInBounds_toArray, List.set_cons_zero, List.set_cons_succ]
  refine wpHeld_run (.bool (decide (RightP a1 { data := #[120] } 0 0 0 0 a2))) (by rfl) ?cz5n22 ?rz5n22
  case cz5n22 => (intro wS hSw K hK; go_simp; (go_at_call 10; (with_reducible refine (right_any _ _ _ _ _ _ _ _ _).mono ?_); rintro e w5 ⟨rfl, hx⟩); go_wp2_with fail; exact hK.out _ (hSw.keep hx))
  try simp only [Act.put, List.setIfInBounds_toArray, List.set_cons_zero, List.set_cons_succ]
  refine wpHeld_val (v := ?vz5n23) (by rfl) ?yz5n23 ?rz5n23
  case yz5n23 => (intro wS hSw; go_simp; try (with_reducible rfl))
  try simp only [Act.put, List.setIfInBounds_toArray, List.set_cons_zero, List.set_cons_succ]
  refine wpHeld_val (v := ?vz5n24) (by rfl) ?yz5n24 ?rz5n24
  case yz5n24 => (intro wS hSw; go_simp; try (with_reducible rfl))
  try simp only [Act.put, List.setIfInBounds_toArray, List.set_cons_zero, List.set_cons_succ]
  refine wpHeld_skip (by rfl) ?_
  try simp only [Act.put, List.setIfInBounds_toArray, List.set_cons_zero, List.set_cons_succ]
  refine wpHeld_skip (by rfl) ?_
  try simp only [Act.put, List.setIfInBounds_toArray, List.set_cons_zero, List.set_cons_succ]
  refine wpHeld_val (v := ?vz5n27) (by rfl) ?yz5n27 ?rz5n27
  case yz5n27 => (intro wS hSw; go_simp; try (with_reducible rfl))
  try simp only [Act.put, List.setIfInBounds_toArray, List.set_cons_zero, List.set_cons_succ]
  refine wpHeld_val (v := ?vz5n28) (by rfl) ?yz5n28 ?rz5n28
  case yz5n28 => (intro wS hSw; go_simp; try (with_reducible rfl))
  try simp only [Act.put, List.setIfInBounds_toArray, List.set_cons_zero, List.set_cons_succ]
  refine wpHeld_skip (by rfl) ?_
  try simp only [Act.put, List.setIfInBounds_toArray, List.set_cons_zero, List.set_cons_succ]
  refine wpHeld_skip (by rfl) ?_
  try simp only [Act.put, List.setIfInBounds_toArray, List.set_cons_zero, List.set_cons_succ]
  refine wpHeld_val (v := ?vz5n31) (by rfl) ?yz5n31 ?rz5n31
  case yz5n31 => (intro wS hSw; go_simp; try (with_reducible rfl))
  try simp only [Act.put, List.setIfInBounds_toArray, List.set_cons_zero, List.set_cons_succ]
  refine wpHeld_val (v := .bool true) (by rfl) ?yz5n32 ?rz5n32
  case yz5n32 => (intro wS hSw; go_simp; try ((have hb := HB.out; have hv := HV.out; unfold RightP okT; rw [sz1]; omega)))
  try simp only [Act.put, List.setIfInBounds_toArray, List.set_cons_zero, List.set_cons_succ]
  refine wpHeld_val (v := ?vz5n33) (by rfl) ?yz5n33 ?rz5n33
  case yz5n33 => (intro wS hSw; go_simp; try (with_reducible rfl))
  try simp only [Act.put, List.setIfInBounds_toArray, List.set_cons_zero, List.set_cons_succ]
  refine wpHeld_val (v := ?vz5n34) (by rfl) ?yz5n34 ?rz5n34
  case yz5n34 => (intro wS hSw; go_simp; try (with_reducible rfl))
  try simp only [Act.put, List.setIfInBounds_toArray, List.set_cons_zero, List.set_cons_succ]
  refine wpHeld_val (v := ?vz5n35) (by rfl) ?yz5n35 ?rz5n35
  case yz5n35 => (intro wS hSw; obtain ⟨q0_0, q0_1, q0_2, q0_3, q0_4, q0_5, q0_6, q0_7⟩ := (hSw).b0.cells8; obtain ⟨q1_0, q1_1, q1_2, q1_3, q1_4, q1_5, q1_6, q1_7⟩ := (hSw).tl.b0.cells8; obtain ⟨q2_0, q2_1, q2_2, q2_3, q2_4, q2_5, q2_6, q2_7⟩ := (hSw).tl.tl.b0.cells8; go_simp; try (with_reducible rfl))
  try simp only [Act.put, List.setIfInBounds_toArray, List.set_cons_zero, List.set_cons_succ]
  refine wpHeld_run (.bool (decide (RightP a1 { data := #[] } 0 0 1 0 a2))) (by rfl) ?cz5n36 ?rz5n36
  case cz5n36 => (intro wS hSw K hK; go_simp; (go_at_call 10; (with_reducible refine (right_any _ _ _ _ _ _ _ _ _).mono ?_); rintro e w5 ⟨rfl, hx⟩); go_wp2_with fail; exact hK.out _ (hSw.keep hx))
  try simp only [Act.put, List.setIfInBounds_toArray, List.set_cons_zero, List.set_cons_succ]
  refine wpHeld_val (v := .bool true) (by rfl) ?yz5n37 ?rz5n37
  case yz5n37 => (intro wS hSw; go_simp; try ((have hb := HB.out; have hv := HV.out; unfold RightP okT; rw [sz0]; omega)))
  try simp only [Act.put, List.setIfInBounds_toArray, List.set_cons_zero, List.set_cons_succ]
  refine wpHeld_val (v := ?vz5n38) (by rfl) ?yz5n38 ?rz5n38
  case yz5n38 => (intro wS hSw; go_simp; try (with_reducible rfl))
  try simp only [Act.put, List.setIfInBounds_toArray, List.set_cons_zero, List.set_cons_succ]
  refine wpHeld_val (v := ?vz5n39) (by rfl) ?yz5n39 ?rz5n39
  case yz5n39 => (intro wS hSw; go_simp; try (with_reducible rfl))
  try simp only [Act.put, List.setIfInBounds_toArray, List.set_cons_zero, List.set_cons_succ]
  refine wpHeld_nil ?_
  intro wS hSw
  go_wp2
  go_ret
  exact ⟨rfl, hSw.2⟩

set_option maxRecDepth 100000 in
set_option maxHeartbeats 1000000 in
theorem bare_5i (a0 : Int) (a1 : Int) (a2 : Int) (W : World) (w0 : (Lit.int .u32 a0).wf = true) (w1 : (Lit.int .i64 a1).wf = true) (w2 : (Lit.int .i64 a2).wf = true) (hb : a1 = 5) (hv : 0 ≤ a2 ∧ a2 ≤ 1099511627776) :
    Calls Try.prog 4 #[.int .u32 a0, .int .i64 a1, .int .i64 a2] W fun e w' => e = .returned (.bool true) ∧ Below W.heap.size W w' := by
  have HB := Lib.hid hb
  have HV := Lib.hid hv
  have k0 : (a1 == 0) = false := beq_eq_false_iff_ne.2 (by omega)
  have k1 : (a1 == 1) = false := beq_eq_false_iff_ne.2 (by omega)
  have k2 : (a1 == 2) = false := beq_eq_false_iff_ne.2 (by omega)
  have k3 : (a1 == 3) = false := beq_eq_false_iff_ne.2 (by omega)
  have k4 : (a1 == 4) = false := beq_eq_false_iff_ne.2 (by omega)
  have k5 : (a1 == 5) = true := beq_iff_eq.2 (by omega)
  clear hb
  obtain ⟨hv1, hv2⟩ := hv
  have h0 : decide (0 ≤ a2) = true := decide_eq_true (by omega)
  have hM : decide (a2 ≤ 1099511627776) = true := decide_eq_true (by omega)
  go_enter Try.func4, Try.ntmps4
  go_upto_region 9 with (first | (go_at_call 7; (with_reducible refine (awake_any _).mono ?_); rintro e w1 ⟨rfl, hx⟩; have H1 := Lib.hid hx; clear hx) | (go_at_call 14; (with_reducible refine (bare_any _ _ _ _).mono ?_); rintro e wy ⟨rfl, hx⟩; have H2 := Lib.hid (((HeldB.nil (lowA (lowA (lowA (low H1.out hx) (.cells #[.int .u32 a0, .int .i64 a1, .string { data := #[] }, .int .i64 0, .int .i64 0, .int .i64 0, .int .i64 0, .int .i64 a2] 25)) (.cells #[.int .u32 a0, .int .i64 a1, .string { data := #[120] }, .int .i64 0, .int .i64 0, .int .i64 0, .int .i64 0, .int .i64 a2] 25)) (.cells #[.int .u32 a0, .int .i64 a1, .string { data := #[] }, .int .i64 0, .int .i64 0, .int .i64 1, .int .i64 0, .int .i64 a2] 25))).cons (((Blk.new wy #[.int .u32 a0, .int .i64 a1, .string { data := #[] }, .int .i64 0, .int .i64 0, .int .i64 0, .int .i64 0, .int .i64 a2] 25).alloc (.cells #[.int .u32 a0, .int .i64 a1, .string { data := #[120] }, .int .i64 0, .int .i64 0, .int .i64 0, .int .i64 0, .int .i64 a2] 25)).alloc (.cells #[.int .u32 a0, .int .i64 a1, .string { data := #[] }, .int .i64 0, .int .i64 0, .int .i64 1, .int .i64 0, .int .i64 a2] 25))).cons ((Blk.new2 wy (.cells #[.int .u32 a0, .int .i64 a1, .string { data := #[] }, .int .i64 0, .int .i64 0, .int .i64 0, .int .i64 0, .int .i64 a2] 25) #[.int .u32 a0, .int .i64 a1, .string { data := #[120] }, .int .i64 0, .int .i64 0, .int .i64 0, .int .i64 0, .int .i64 a2] 25).alloc (.cells #[.int .u32 a0, .int .i64 a1, .string { data := #[] }, .int .i64 0, .int .i64 0, .int .i64 1, .int .i64 0, .int .i64 a2] 25)) |>.cons (Blk.new3 wy (.cells #[.int .u32 a0, .int .i64 a1, .string { data := #[] }, .int .i64 0, .int .i64 0, .int .i64 0, .int .i64 0, .int .i64 a2] 25) (.cells #[.int .u32 a0, .int .i64 a1, .string { data := #[120] }, .int .i64 0, .int .i64 0, .int .i64 0, .int .i64 0, .int .i64 a2] 25) #[.int .u32 a0, .int .i64 a1, .string { data := #[] }, .int .i64 0, .int .i64 0, .int .i64 1, .int .i64 0, .int .i64 a2] 25)); clear hx))
  refine wp_region_seq (S := HeldB W [((wy.heap.size + 1 + 1), #[.int .u32 a0, .int .i64 a1, .string { data := #[] }, .int .i64 0, .int .i64 0, .int .i64 1, .int .i64 0, .int .i64 a2], 25), ((wy.heap.size + 1), #[.int .u32 a0, .int .i64 a1, .string { data := #[120] }, .int .i64 0, .int .i64 0, .int .i64 0, .int .i64 0, .int .i64 a2], 25), (wy.heap.size, #[.int .u32 a0, .int .i64 a1, .string { data := #[] }, .int .i64 0, .int .i64 0, .int .i64 0, .int .i64 0, .int .i64 a2], 25)]) 40 (by kernel_rfl) (by kernel_rfl) H2.out.drew ?_
  simp only [List.take_succ_cons, List.take_zero, List.drop_succ_cons, List.drop_zero]
  refine wpHeld_val (v := ?vz5i0) (by rfl) ?yz5i0 ?rz5i0
  case yz5i0 => (intro wS hSw; go_simp; try (with_reducible rfl))
  try simp only [Act.put, List.setIfInBounds_toArray, List.set_cons_zero, List.set_cons_succ]
  refine wpHeld_val (v := ?vz5i1) (by rfl) ?yz5i1 ?rz5i1
  case yz5i1 => (intro wS hSw; go_simp; try (with_reducible rfl))
  try simp only [Act.put, List.setIfInBounds_toArray, List.set_cons_zero, List.set_cons_succ]
  refine wpHeld_val (v := ?vz5i2) (by rfl) ?yz5i2 ?rz5i2
  case yz5i2 => (intro wS hSw; obtain ⟨q0_0, q0_1, q0_2, q0_3, q0_4, q0_5, q0_6, q0_7⟩ := (hSw).b0.cells8; obtain ⟨q1_0, q1_1, q1_2, q1_3, q1_4, q1_5, q1_6, q1_7⟩ := (hSw).tl.b0.cells8; obtain ⟨q2_0, q2_1, q2_2, q2_3, q2_4, q2_5, q2_6, q2_7⟩ := (hSw).tl.tl.b0.cells8; go_simp; try (with_reducible rfl))
  try simp only [Act.put, List.setIfInBounds_toArray, List.set_cons_zero, List.set_cons_succ]
  refine wpHeld_val (v := ?vz5i3) (by rfl) ?yz5i3 ?rz5i3
  case yz5i3 => (intro wS hSw; go_simp; try (with_reducible rfl))
  try simp only [Act.put, List.setIfInBounds_toArray, List.set_cons_zero, List.set_cons_succ]
  refine wpHeld_val (v := ?vz5i4) (by rfl) ?yz5i4 ?rz5i4
  case yz5i4 => (intro wS hSw; go_simp; try (with_reducible rfl))
  try simp only [Act.put, List.setIfInBounds_toArray, List.set_cons_zero, List.set_cons_succ]
  refine wpHeld_val (v := ?vz5i5) (by rfl) ?yz5i5 ?rz5i5
  case yz5i5 => (intro wS hSw; go_simp; try (with_reducible rfl))
  try simp only [Act.put, List.setIfInBounds_toArray, List.set_cons_zero, List.set_cons_succ]
  refine wpHeld_run (.agg #[.int .u32 a0, .int .i64 a1, .string { data := #[] }, .int .i64 0, .int .i64 0, .int .i64 0, .int .i64 0, .int .i64 a2]) (by rfl) ?cz5i6 ?rz5i6
  case cz5i6 => (intro wS hSw K hK; go_simp; (go_at_call 15; (with_reducible refine (rbare_any _ _ _ _).mono ?_); rintro e w5 ⟨rfl, hx⟩); go_wp2_with fail; exact hK.out _ (hSw.keep hx))
  try simp only [Act.put, List.setIfInBounds_toArray, List.set_cons_zero, List.set_cons_succ]
  refine wpHeld_val (v := .bool true) (by rfl) ?yz5i7 ?rz5i7
  case yz5i7 => (intro wS hSw; go_simp; try (first | with_reducible rfl | (split <;> omega)))
  try simp only [Act.put, List.setIfInBounds_toArray, List.set_cons_zero, List.set_cons_succ]
  refine wpHeld_val (v := ?vz5i8) (by rfl) ?yz5i8 ?rz5i8
  case yz5i8 => (intro wS hSw; go_simp; try (with_reducible rfl))
  try simp only [Act.put, List.setIfInBounds_toArray, List.set_cons_zero, List.set_cons_succ]
  refine wpHeld_val (v := ?vz5i9) (by rfl) ?yz5i9 ?rz5i9
  case yz5i9 => (intro wS hSw; go_simp; try (with_reducible rfl))
  try simp only [Act.put, List.setIfInBounds_toArray, List.set_cons_zero, List.set_cons_succ]
  refine wpHeld_val (v := ?vz5i10) (by rfl) ?yz5i10 ?rz5i10
  case yz5i10 => (intro wS hSw; obtain ⟨q0_0, q0_1, q0_2, q0_3, q0_4, q0_5, q0_6, q0_7⟩ := (hSw).b0.cells8; obtain ⟨q1_0, q1_1, q1_2, q1_3, q1_4, q1_5, q1_6, q1_7⟩ := (hSw).tl.b0.cells8; obtain ⟨q2_0, q2_1, q2_2, q2_3, q2_4, q2_5, q2_6, q2_7⟩ := (hSw).tl.tl.b0.cells8; go_simp; try (with_reducible rfl))
  try simp only [Act.put, List.setIfInBounds_toArray, List.set_cons_zero, List.set_cons_succ]
  refine wpHeld_run (.bool (decide (RightP a1 { data := #[] } 0 0 0 0 a2))) (by rfl) ?cz5i11 ?rz5i11
  case cz5i11 => (intro wS hSw K hK; go_simp; (go_at_call 10; (with_reducible refine (right_any _ _ _ _ _ _ _ _ _).mono ?_); rintro e w5 ⟨rfl, hx⟩); go_wp2_with fail; exact hK.out _ (hSw.keep hx))
  try simp only [Act.put, List.setIfInBounds_toArray, List.set_cons_zero, List.set_cons_succ]
  refine wpHeld_val (v := ?vz5i12) (by rfl) ?yz5i12 ?rz5i12
  case yz5i12 => (intro wS hSw; go_simp; try (with_reducible rfl))
  try simp only [Act.put, List.setIfInBounds_toArray, List.set_cons_zero, List.set_cons_succ]
  refine wpHeld_val (v := .bool true) (by rfl) ?yz5i13 ?rz5i13
  case yz5i13 => (intro wS hSw; go_simp; try ((have hb := HB.out; have hv := HV.out; unfold RightP okT; rw [sz0]; omega)))
  try simp only [Act.put, List.setIfInBounds_toArray, List.set_cons_zero, List.set_cons_succ]
  refine wpHeld_val (v := ?vz5i14) (by rfl) ?yz5i14 ?rz5i14
  case yz5i14 => (intro wS hSw; go_simp; try (with_reducible rfl))
  try simp only [Act.put, List.setIfInBounds_toArray, List.set_cons_zero, List.set_cons_succ]
  refine wpHeld_val (v := ?vz5i15) (by rfl) ?yz5i15 ?rz5i15
  case yz5i15 => (intro wS hSw; go_simp; try (with_reducible rfl))
  try simp only [Act.put, List.setIfInBounds_toArray, List.set_cons_zero, List.set_cons_succ]
  refine wpHeld_val (v := ?vz5i16) (by rfl) ?yz5i16 ?rz5i16
  case yz5i16 => (intro wS hSw; obtain ⟨q0_0, q0_1, q0_2, q0_3, q0_4, q0_5, q0_6, q0_7⟩ := (hSw).b0.cells8; obtain ⟨q1_0, q1_1, q1_2, q1_3, q1_4, q1_5, q1_6, q1_7⟩ := (hSw).tl.b0.cells8; obtain ⟨q2_0, q2_1, q2_2, q2_3, q2_4, q2_5, q2_6, q2_7⟩ := (hSw).tl.tl.b0.cells8; go_simp; try (with_reducible rfl))
  try simp only [Act.put, List.setIfInBounds_toArray, List.set_cons_zero, List.set_cons_succ]
  refine wpHeld_run (.int .i64 0) (by rfl) ?cz5i17 ?rz5i17
  case cz5i17 => (intro wS hSw K hK; go_simp; (go_at_call 12; (with_reducible refine (over_any _ _ _ _ _ _ _ _ _).mono ?_); rintro e w5 ⟨rfl, hx⟩); go_wp2_with fail; exact hK.out _ (hSw.keep hx))
  try simp only [Act.put, List.setIfInBounds_toArray, List.set_cons_zero, List.set_cons_succ]
  refine wpHeld_val (v := .bool true) (by rfl) ?yz5i18 ?rz5i18
  case yz5i18 => (intro wS hSw; go_simp; try (first | with_reducible rfl | (split <;> omega)))
  try simp only [Act.put, List.setIfInBounds_toArray, List.set_cons_zero, List.set_cons_succ]
  refine wpHeld_val (v := ?vz5i19) (by rfl) ?yz5i19 ?rz5i19
  case yz5i19 => (intro wS hSw; go_simp; try (with_reducible rfl))
  try simp only [Act.put, List.setIfInBounds_toArray, List.set_cons_zero, List.set_cons_succ]
  refine wpHeld_val (v := ?vz5i20) (by rfl) ?yz5i20 ?rz5i20
  case yz5i20 => (intro wS hSw; go_simp; try (with_reducible rfl))
  try simp only [Act.put, List.setIfInBounds_toArray, List.set_cons_zero, List.set_cons_succ]
  refine wpHeld_val (v := ?vz5i21) (by rfl) ?yz5i21 ?rz5i21
  case yz5i21 => (intro wS hSw; obtain ⟨q0_0, q0_1, q0_2, q0_3, q0_4, q0_5, q0_6, q0_7⟩ := (hSw).b0.cells8; obtain ⟨q1_0, q1_1, q1_2, q1_3, q1_4, q1_5, q1_6, q1_7⟩ := (hSw).tl.b0.cells8; obtain ⟨q2_0, q2_1, q2_2, q2_3, q2_4, q2_5, q2_6, q2_7⟩ := (hSw).tl.tl.b0.cells8; go_simp; try (with_reducible rfl))
  try simp only [Act.put, List.setIfInBounds_toArray, List.set_cons_zero, List.set_cons_succ]
  refine wpHeld_run (.bool (decide (RightP a1 { data := #[120] } 0 0 0 0 a2))) (by rfl) ?cz5i22 ?rz5i22
  case cz5i22 => (intro wS hSw K hK; go_simp; (go_at_call 10; (with_reducible refine (right_any _ _ _ _ _ _ _ _ _).mono ?_); rintro e w5 ⟨rfl, hx⟩); go_wp2_with fail; exact hK.out _ (hSw.keep hx))
  try simp only [Act.put, List.setIfInBounds_toArray, List.set_cons_zero, List.set_cons_succ]
  refine wpHeld_val (v := ?vz5i23) (by rfl) ?yz5i23 ?rz5i23
  case yz5i23 => (intro wS hSw; go_simp; try (with_reducible rfl))
  try simp only [Act.put, List.setIfInBounds_toArray, List.set_cons_zero, List.set_cons_succ]
  refine wpHeld_val (v := ?vz5i24) (by rfl) ?yz5i24 ?rz5i24
  case yz5i24 => (intro wS hSw; go_simp; try (with_reducible rfl))
  try simp only [Act.put, List.setIfInBounds_toArray, List.set_cons_zero, List.set_cons_succ]
  refine wpHeld_skip (by rfl) ?_
  try simp only [Act.put, List.setIfInBounds_toArray, List.set_cons_zero, List.set_cons_succ]
  refine wpHeld_skip (by rfl) ?_
  try simp only [Act.put, List.setIfInBounds_toArray, List.set_cons_zero, List.set_cons_succ]
  refine wpHeld_val (v := ?vz5i27) (by rfl) ?yz5i27 ?rz5i27
  case yz5i27 => (intro wS hSw; go_simp; try (with_reducible rfl))
  try simp only [Act.put, List.setIfInBounds_toArray, List.set_cons_zero, List.set_cons_succ]
  refine wpHeld_val (v := ?vz5i28) (by rfl) ?yz5i28 ?rz5i28
  case yz5i28 => (intro wS hSw; go_simp; try (with_reducible rfl))
  try simp only [Act.put, List.setIfInBounds_toArray, List.set_cons_zero, List.set_cons_succ]
  refine wpHeld_skip (by rfl) ?_
  try simp only [Act.put, List.setIfInBounds_toArray, List.set_cons_zero, List.set_cons_succ]
  refine wpHeld_skip (by rfl) ?_
  try simp only [Act.put, List.setIfInBounds_toArray, List.set_cons_zero, List.set_cons_succ]
  refine wpHeld_val (v := ?vz5i31) (by rfl) ?yz5i31 ?rz5i31
  case yz5i31 => (intro wS hSw; go_simp; try (with_reducible rfl))
  try simp only [Act.put, List.setIfInBounds_toArray, List.set_cons_zero, List.set_cons_succ]
  refine wpHeld_val (v := .bool true) (by rfl) ?yz5i32 ?rz5i32
  case yz5i32 => (intro wS hSw; go_simp; try ((have hb := HB.out; have hv := HV.out; unfold RightP okT; rw [sz1]; omega)))
  try simp only [Act.put, List.setIfInBounds_toArray, List.set_cons_zero, List.set_cons_succ]
  refine wpHeld_val (v := ?vz5i33) (by rfl) ?yz5i33 ?rz5i33
  case yz5i33 => (intro wS hSw; go_simp; try (with_reducible rfl))
  try simp only [Act.put, List.setIfInBounds_toArray, List.set_cons_zero, List.set_cons_succ]
  refine wpHeld_val (v := ?vz5i34) (by rfl) ?yz5i34 ?rz5i34
  case yz5i34 => (intro wS hSw; go_simp; try (with_reducible rfl))
  try simp only [Act.put, List.setIfInBounds_toArray, List.set_cons_zero, List.set_cons_succ]
  refine wpHeld_val (v := ?vz5i35) (by rfl) ?yz5i35 ?rz5i35
  case yz5i35 => (intro wS hSw; obtain ⟨q0_0, q0_1, q0_2, q0_3, q0_4, q0_5, q0_6, q0_7⟩ := (hSw).b0.cells8; obtain ⟨q1_0, q1_1, q1_2, q1_3, q1_4, q1_5, q1_6, q1_7⟩ := (hSw).tl.b0.cells8; obtain ⟨q2_0, q2_1, q2_2, q2_3, q2_4, q2_5, q2_6, q2_7⟩ := (hSw).tl.tl.b0.cells8; go_simp; try (with_reducible rfl))
  try simp only [Act.put, List.setIfInBounds_toArray, List.set_cons_zero, List.set_cons_succ]
  refine wpHeld_run (.bool (decide (RightP a1 { data := #[] } 0 0 1 0 a2))) (by rfl) ?cz5i36 ?rz5i36
  case cz5i36 => (intro wS hSw K hK; go_simp; (go_at_call 10; (with_reducible refine (right_any _ _ _ _ _ _ _ _ _).mono ?_); rintro e w5 ⟨rfl, hx⟩); go_wp2_with fail; exact hK.out _ (hSw.keep hx))
  try simp only [Act.put, List.setIfInBounds_toArray, List.set_cons_zero, List.set_cons_succ]
  refine wpHeld_val (v := .bool true) (by rfl) ?yz5i37 ?rz5i37
  case yz5i37 => (intro wS hSw; go_simp; try ((have hb := HB.out; have hv := HV.out; unfold RightP okT; rw [sz0]; omega)))
  try simp only [Act.put, List.setIfInBounds_toArray, List.set_cons_zero, List.set_cons_succ]
  refine wpHeld_val (v := ?vz5i38) (by rfl) ?yz5i38 ?rz5i38
  case yz5i38 => (intro wS hSw; go_simp; try (with_reducible rfl))
  try simp only [Act.put, List.setIfInBounds_toArray, List.set_cons_zero, List.set_cons_succ]
  refine wpHeld_val (v := ?vz5i39) (by rfl) ?yz5i39 ?rz5i39
  case yz5i39 => (intro wS hSw; go_simp; try (with_reducible rfl))
  try simp only [Act.put, List.setIfInBounds_toArray, List.set_cons_zero, List.set_cons_succ]
  refine wpHeld_nil ?_
  intro wS hSw
  go_wp2
  go_ret
  exact ⟨rfl, hSw.2⟩

set_option maxRecDepth 100000 in
set_option maxHeartbeats 1000000 in
theorem bare_5b (a0 : Int) (a1 : Int) (a2 : Int) (W : World) (w0 : (Lit.int .u32 a0).wf = true) (w1 : (Lit.int .i64 a1).wf = true) (w2 : (Lit.int .i64 a2).wf = true) (hb : a1 = 5) (hv : 1099511627776 < a2) :
    Calls Try.prog 4 #[.int .u32 a0, .int .i64 a1, .int .i64 a2] W fun e w' => e = .returned (.bool true) ∧ Below W.heap.size W w' := by
  have HB := Lib.hid hb
  have HV := Lib.hid hv
  have k0 : (a1 == 0) = false := beq_eq_false_iff_ne.2 (by omega)
  have k1 : (a1 == 1) = false := beq_eq_false_iff_ne.2 (by omega)
  have k2 : (a1 == 2) = false := beq_eq_false_iff_ne.2 (by omega)
  have k3 : (a1 == 3) = false := beq_eq_false_iff_ne.2 (by omega)
  have k4 : (a1 == 4) = false := beq_eq_false_iff_ne.2 (by omega)
  have k5 : (a1 == 5) = true := beq_iff_eq.2 (by omega)
  clear hb
  skip
  have h0 : decide (0 ≤ a2) = true := decide_eq_true (by omega)
  have hM : decide (a2 ≤ 1099511627776) = false := decide_eq_false (by omega)
  go_enter Try.func4, Try.ntmps4
  go_upto_region 9 with (first | (go_at_call 7; (with_reducible refine (awake_any _).mono ?_); rintro e w1 ⟨rfl, hx⟩; have H1 := Lib.hid hx; clear hx) | (go_at_call 14; (with_reducible refine (bare_any _ _ _ _).mono ?_); rintro e wy ⟨rfl, hx⟩; have H2 := Lib.hid (((HeldB.nil (lowA (lowA (lowA (low H1.out hx) (.cells #[.int .u32 a0, .int .i64 a1, .string { data := #[] }, .int .i64 0, .int .i64 0, .int .i64 0, .int .i64 0, .int .i64 a2] 25)) (.cells #[.int .u32 a0, .int .i64 a1, .string { data := #[120] }, .int .i64 0, .int .i64 0, .int .i64 0, .int .i64 0, .int .i64 a2] 25)) (.cells #[.int .u32 a0, .int .i64 a1, .string { data := #[] }, .int .i64 0, .int .i64 0, .int .i64 1, .int .i64 0, .int .i64 a2] 25))).cons (((Blk.new wy #[.int .u32 a0, .int .i64 a1, .string { data := #[] }, .int .i64 0, .int .i64 0, .int .i64 0, .int .i64 0, .int .i64 a2] 25).alloc (.cells #[.int .u32 a0, .int .i64 a1, .string { data := #[120] }, .int .i64 0, .int .i64 0, .int .i64 0, .int .i64 0, .int .i64 a2] 25)).alloc (.cells #[.int .u32 a0, .int .i64 a1, .string { data := #[] }, .int .i64 0, .int .i64 0, .int .i64 1, .int .i64 0, .int .i64 a2] 25))).cons ((Blk.new2 wy (.cells #[.int .u32 a0, .int .i64 a1, .string { data := #[] }, .int .i64 0, .int .i64 0, .int .i64 0, .int .i64 0, .int .i64 a2] 25) #[.int .u32 a0, .int .i64 a1, .string { data := #[120] }, .int .i64 0, .int .i64 0, .int .i64 0, .int .i64 0, .int .i64 a2] 25).alloc (.cells #[.int .u32 a0, .int .i64 a1, .string { data := #[] }, .int .i64 0, .int .i64 0, .int .i64 1, .int .i64 0, .int .i64 a2] 25)) |>.cons (Blk.new3 wy (.cells #[.int .u32 a0, .int .i64 a1, .string { data := #[] }, .int .i64 0, .int .i64 0, .int .i64 0, .int .i64 0, .int .i64 a2] 25) (.cells #[.int .u32 a0, .int .i64 a1, .string { data := #[120] }, .int .i64 0, .int .i64 0, .int .i64 0, .int .i64 0, .int .i64 a2] 25) #[.int .u32 a0, .int .i64 a1, .string { data := #[] }, .int .i64 0, .int .i64 0, .int .i64 1, .int .i64 0, .int .i64 a2] 25)); clear hx))
  refine wp_region_seq (S := HeldB W [((wy.heap.size + 1 + 1), #[.int .u32 a0, .int .i64 a1, .string { data := #[] }, .int .i64 0, .int .i64 0, .int .i64 1, .int .i64 0, .int .i64 a2], 25), ((wy.heap.size + 1), #[.int .u32 a0, .int .i64 a1, .string { data := #[120] }, .int .i64 0, .int .i64 0, .int .i64 0, .int .i64 0, .int .i64 a2], 25), (wy.heap.size, #[.int .u32 a0, .int .i64 a1, .string { data := #[] }, .int .i64 0, .int .i64 0, .int .i64 0, .int .i64 0, .int .i64 a2], 25)]) 40 (by kernel_rfl) (by kernel_rfl) H2.out.drew ?_
  simp only [List.take_succ_cons, List.take_zero, List.drop_succ_cons, List.drop_zero]
  refine wpHeld_val (v := ?vz5b0) (by rfl) ?yz5b0 ?rz5b0
  case yz5b0 => (intro wS hSw; go_simp; try (with_reducible rfl))
  try simp only [Act.put, List.setIfInBounds_toArray, List.set_cons_zero, List.set_cons_succ]
  refine wpHeld_val (v := ?vz5b1) (by rfl) ?yz5b1 ?rz5b1
  case yz5b1 => (intro wS hSw; go_simp; try (with_reducible rfl))
  try simp only [Act.put, List.setIfInBounds_toArray, List.set_cons_zero, List.set_cons_succ]
  refine wpHeld_val (v := ?vz5b2) (by rfl) ?yz5b2 ?rz5b2
  case yz5b2 => (intro wS hSw; obtain ⟨q0_0, q0_1, q0_2, q0_3, q0_4, q0_5, q0_6, q0_7⟩ := (hSw).b0.cells8; obtain ⟨q1_0, q1_1, q1_2, q1_3, q1_4, q1_5, q1_6, q1_7⟩ := (hSw).tl.b0.cells8; obtain ⟨q2_0, q2_1, q2_2, q2_3, q2_4, q2_5, q2_6, q2_7⟩ := (hSw).tl.tl.b0.cells8; go_simp; try (with_reducible rfl))
  try simp only [Act.put, List.setIfInBounds_toArray, List.set_cons_zero, List.set_cons_succ]
  refine wpHeld_val (v := ?vz5b3) (by rfl) ?yz5b3 ?rz5b3
  case yz5b3 => (intro wS hSw; go_simp; try (with_reducible rfl))
  try simp only [Act.put, List.setIfInBounds_toArray, List.set_cons_zero, List.set_cons_succ]
  refine wpHeld_val (v := ?vz5b4) (by rfl) ?yz5b4 ?rz5b4
  case yz5b4 => (intro wS hSw; go_simp; try (with_reducible rfl))
  try simp only [Act.put, List.setIfInBounds_toArray, List.set_cons_zero, List.set_cons_succ]
  refine wpHeld_val (v := ?vz5b5) (by rfl) ?yz5b5 ?rz5b5
  case yz5b5 => (intro wS hSw; go_simp; try (with_reducible rfl))
  try simp only [Act.put, List.setIfInBounds_toArray, List.set_cons_zero, List.set_cons_succ]
  refine wpHeld_run (.agg #[.int .u32 a0, .int .i64 a1, .string { data := #[] }, .int .i64 0, .int .i64 0, .int .i64 0, .int .i64 0, .int .i64 a2]) (by rfl) ?cz5b6 ?rz5b6
  case cz5b6 => (intro wS hSw K hK; go_simp; (go_at_call 15; (with_reducible refine (rbare_any _ _ _ _).mono ?_); rintro e w5 ⟨rfl, hx⟩); go_wp2_with fail; exact hK.out _ (hSw.keep hx))
  try simp only [Act.put, List.setIfInBounds_toArray, List.set_cons_zero, List.set_cons_succ]
  refine wpHeld_val (v := .bool true) (by rfl) ?yz5b7 ?rz5b7
  case yz5b7 => (intro wS hSw; go_simp; try (first | with_reducible rfl | (split <;> omega)))
  try simp only [Act.put, List.setIfInBounds_toArray, List.set_cons_zero, List.set_cons_succ]
  refine wpHeld_val (v := ?vz5b8) (by rfl) ?yz5b8 ?rz5b8
  case yz5b8 => (intro wS hSw; go_simp; try (with_reducible rfl))
  try simp only [Act.put, List.setIfInBounds_toArray, List.set_cons_zero, List.set_cons_succ]
  refine wpHeld_val (v := ?vz5b9) (by rfl) ?yz5b9 ?rz5b9
  case yz5b9 => (intro wS hSw; go_simp; try (with_reducible rfl))
  try simp only [Act.put, List.setIfInBounds_toArray, List.set_cons_zero, List.set_cons_succ]
  refine wpHeld_val (v := ?vz5b10) (by rfl) ?yz5b10 ?rz5b10
  case yz5b10 => (intro wS hSw; obtain ⟨q0_0, q0_1, q0_2, q0_3, q0_4, q0_5, q0_6, q0_7⟩ := (hSw).b0.cells8; obtain ⟨q1_0, q1_1, q1_2, q1_3, q1_4, q1_5, q1_6, q1_7⟩ := (hSw).tl.b0.cells8; obtain ⟨q2_0, q2_1, q2_2, q2_3, q2_4, q2_5, q2_6, q2_7⟩ := (hSw).tl.tl.b0.cells8; go_simp; try (with_reducible rfl))
  try simp only [Act.put, List.setIfInBounds_toArray, List.set_cons_zero, List.set_cons_succ]
  refine wpHeld_run (.bool (decide (RightP a1 { data := #[] } 0 0 0 0 a2))) (by rfl) ?cz5b11 ?rz5b11
  case cz5b11 => (intro wS hSw K hK; go_simp; (go_at_call 10; (with_reducible refine (right_any _ _ _ _ _ _ _ _ _).mono ?_); rintro e w5 ⟨rfl, hx⟩); go_wp2_with fail; exact hK.out _ (hSw.keep hx))
  try simp only [Act.put, List.setIfInBounds_toArray, List.set_cons_zero, List.set_cons_succ]
  refine wpHeld_val (v := ?vz5b12) (by rfl) ?yz5b12 ?rz5b12
  case yz5b12 => (intro wS hSw; go_simp; try (with_reducible rfl))
  try simp only [Act.put, List.setIfInBounds_toArray, List.set_cons_zero, List.set_cons_succ]
  refine wpHeld_val (v := .bool true) (by rfl) ?yz5b13 ?rz5b13
  case yz5b13 => (intro wS hSw; go_simp; try ((have hb := HB.out; have hv := HV.out; unfold RightP okT; rw [sz0]; omega)))
  try simp only [Act.put, List.setIfInBounds_toArray, List.set_cons_zero, List.set_cons_succ]
  refine wpHeld_val (v := ?vz5b14) (by rfl) ?yz5b14 ?rz5b14
  case yz5b14 => (intro wS hSw; go_simp; try (with_reducible rfl))
  try simp only [Act.put, List.setIfInBounds_toArray, List.set_cons_zero, List.set_cons_succ]
  refine wpHeld_val (v := ?vz5b15) (by rfl) ?yz5b15 ?rz5b15
  case yz5b15 => (intro wS hSw; go_simp; try (with_reducible rfl))
  try simp only [Act.put, List.setIfInBounds_toArray, List.set_cons_zero, List.set_cons_succ]
  refine wpHeld_val (v := ?vz5b16) (by rfl) ?yz5b16 ?rz5b16
  case yz5b16 => (intro wS hSw; obtain ⟨q0_0, q0_1, q0_2, q0_3, q0_4, q0_5, q0_6, q0_7⟩ := (hSw).b0.cells8; obtain ⟨q1_0, q1_1, q1_2, q1_3, q1_4, q1_5, q1_6, q1_7⟩ := (hSw).tl.b0.cells8; obtain ⟨q2_0, q2_1, q2_2, q2_3, q2_4, q2_5, q2_6, q2_7⟩ := (hSw).tl.tl.b0.cells8; go_simp; try (with_reducible rfl))
  try simp only [Act.put, List.setIfInBounds_toArray, List.set_cons_zero, List.set_cons_succ]
  refine wpHeld_run (.int .i64 0) (by rfl) ?cz5b17 ?rz5b17
  case cz5b17 => (intro wS hSw K hK; go_simp; (go_at_call 12; (with_reducible refine (over_any _ _ _ _ _ _ _ _ _).mono ?_); rintro e w5 ⟨rfl, hx⟩); go_wp2_with fail; exact hK.out _ (hSw.keep hx))
  try simp only [Act.put, List.setIfInBounds_toArray, List.set_cons_zero, List.set_cons_succ]
  refine wpHeld_val (v := .bool true) (by rfl) ?yz5b18 ?rz5b18
  case yz5b18 => (intro wS hSw; go_simp; try (first | with_reducible rfl | (split <;> omega)))
  try simp only [Act.put, List.setIfInBounds_toArray, List.set_cons_zero, List.set_cons_succ]
  refine wpHeld_val (v := ?vz5b19) (by rfl) ?yz5b19 ?rz5b19
  case yz5b19 => (intro wS hSw; go_simp; try (with_reducible rfl))
  try simp only [Act.put, List.setIfInBounds_toArray, List.set_cons_zero, List.set_cons_succ]
  refine wpHeld_val (v := ?vz5b20) (by rfl) ?yz5b20 ?rz5b20
  case yz5b20 => (intro wS hSw; go_simp; try (with_reducible rfl))
  try simp only [Act.put, List.setIfInBounds_toArray, List.set_cons_zero, List.set_cons_succ]
  refine wpHeld_val (v := ?vz5b21) (by rfl) ?yz5b21 ?rz5b21
  case yz5b21 => (intro wS hSw; obtain ⟨q0_0, q0_1, q0_2, q0_3, q0_4, q0_5, q0_6, q0_7⟩ := (hSw).b0.cells8; obtain ⟨q1_0, q1_1, q1_2, q1_3, q1_4, q1_5, q1_6, q1_7⟩ := (hSw).tl.b0.cells8; obtain ⟨q2_0, q2_1, q2_2, q2_3, q2_4, q2_5, q2_6, q2_7⟩ := (hSw).tl.tl.b0.cells8; go_simp; try (with_reducible rfl))
  try simp only [Act.put, List.setIfInBounds_toArray, List.set_cons_zero, List.set_cons_succ]
  refine wpHeld_run (.bool (decide (RightP a1 { data := #[120] } 0 0 0 0 a2))) (by rfl) ?cz5b22 ?rz5b22
  case cz5b22 => (intro wS hSw K hK; go_simp; (go_at_call 10; (with_reducible refine (right_any _ _ _ _ _ _ _ _ _).mono ?_); rintro e w5 ⟨rfl, hx⟩); go_wp2_with fail; exact hK.out _ (hSw.keep hx))
  try simp only [Act.put, List.setIfInBounds_toArray, List.set_cons_zero, List.set_cons_succ]
  refine wpHeld_val (v := ?vz5b23) (by rfl) ?yz5b23 ?rz5b23
  case yz5b23 => (intro wS hSw; go_simp; try (with_reducible rfl))
  try simp only [Act.put, List.setIfInBounds_toArray, List.set_cons_zero, List.set_cons_succ]
  refine wpHeld_val (v := ?vz5b24) (by rfl) ?yz5b24 ?rz5b24
  case yz5b24 => (intro wS hSw; go_simp; try (with_reducible rfl))
  try simp only [Act.put, List.setIfInBounds_toArray, List.set_cons_zero, List.set_cons_succ]
  refine wpHeld_skip (by rfl) ?_
  try simp only [Act.put, List.setIfInBounds_toArray, List.set_cons_zero, List.set_cons_succ]
  refine wpHeld_skip (by rfl) ?_
  try simp only [Act.put, List.setIfInBounds_toArray, List.set_cons_zero, List.set_cons_succ]
  refine wpHeld_val (v := ?vz5b27) (by rfl) ?yz5b27 ?rz5b27
  case yz5b27 => (intro wS hSw; go_simp; try (with_reducible rfl))
  try simp only [Act.put, List.setIfInBounds_toArray, List.set_cons_zero, List.set_cons_succ]
  refine wpHeld_val (v := ?vz5b28) (by rfl) ?yz5b28 ?rz5b28
  case yz5b28 => (intro wS hSw; go_simp; try (with_reducible rfl))
  try simp only [Act.put, List.setIfInBounds_toArray, List.set_cons_zero, List.set_cons_succ]
  refine wpHeld_skip (by rfl) ?_
  try simp only [Act.put, List.setIfInBounds_toArray, List.set_cons_zero, List.set_cons_succ]
  refine wpHeld_skip (by rfl) ?_
  try simp only [Act.put, List.setIfInBounds_toArray, List.set_cons_zero, List.set_cons_succ]
  refine wpHeld_val (v := ?vz5b31) (by rfl) ?yz5b31 ?rz5b31
  case yz5b31 => (intro wS hSw; go_simp; try (with_reducible rfl))
  try simp only [Act.put, List.setIfInBounds_toArray, List.set_cons_zero, List.set_cons_succ]
  refine wpHeld_val (v := .bool true) (by rfl) ?yz5b32 ?rz5b32
  case yz5b32 => (intro wS hSw; go_simp; try ((have hb := HB.out; have hv := HV.out; unfold RightP okT; rw [sz1]; omega)))
  try simp only [Act.put, List.setIfInBounds_toArray, List.set_cons_zero, List.set_cons_succ]
  refine wpHeld_val (v := ?vz5b33) (by rfl) ?yz5b33 ?rz5b33
  case yz5b33 => (intro wS hSw; go_simp; try (with_reducible rfl))
  try simp only [Act.put, List.setIfInBounds_toArray, List.set_cons_zero, List.set_cons_succ]
  refine wpHeld_val (v := ?vz5b34) (by rfl) ?yz5b34 ?rz5b34
  case yz5b34 => (intro wS hSw; go_simp; try (with_reducible rfl))
  try simp only [Act.put, List.setIfInBounds_toArray, List.set_cons_zero, List.set_cons_succ]
  refine wpHeld_val (v := ?vz5b35) (by rfl) ?yz5b35 ?rz5b35
  case yz5b35 => (intro wS hSw; obtain ⟨q0_0, q0_1, q0_2, q0_3, q0_4, q0_5, q0_6, q0_7⟩ := (hSw).b0.cells8; obtain ⟨q1_0, q1_1, q1_2, q1_3, q1_4, q1_5, q1_6, q1_7⟩ := (hSw).tl.b0.cells8; obtain ⟨q2_0, q2_1, q2_2, q2_3, q2_4, q2_5, q2_6, q2_7⟩ := (hSw).tl.tl.b0.cells8; go_simp; try (with_reducible rfl))
  try simp only [Act.put, List.setIfInBounds_toArray, List.set_cons_zero, List.set_cons_succ]
  refine wpHeld_run (.bool (decide (RightP a1 { data := #[] } 0 0 1 0 a2))) (by rfl) ?cz5b36 ?rz5b36
  case cz5b36 => (intro wS hSw K hK; go_simp; (go_at_call 10; (with_reducible refine (right_any _ _ _ _ _ _ _ _ _).mono ?_); rintro e w5 ⟨rfl, hx⟩); go_wp2_with fail; exact hK.out _ (hSw.keep hx))
  try simp only [Act.put, List.setIfInBounds_toArray, List.set_cons_zero, List.set_cons_succ]
  refine wpHeld_val (v := .bool true) (by rfl) ?yz5b37 ?rz5b37
  case yz5b37 => (intro wS hSw; go_simp; try ((have hb := HB.out; have hv := HV.out; unfold RightP okT; rw [sz0]; omega)))
  try simp only [Act.put, List.setIfInBounds_toArray, List.set_cons_zero, List.set_cons_succ]
  refine wpHeld_val (v := ?vz5b38) (by rfl) ?yz5b38 ?rz5b38
  case yz5b38 => (intro wS hSw; go_simp; try (with_reducible rfl))
  try simp only [Act.put, List.setIfInBounds_toArray, List.set_cons_zero, List.set_cons_succ]
  refine wpHeld_val (v := ?vz5b39) (by rfl) ?yz5b39 ?rz5b39
  case yz5b39 => (intro wS hSw; go_simp; try (with_reducible rfl))
  try simp only [Act.put, List.setIfInBounds_toArray, List.set_cons_zero, List.set_cons_succ]
  refine wpHeld_nil ?_
  intro wS hSw
  go_wp2
  go_ret
  exact ⟨rfl, hSw.2⟩

set_option maxRecDepth 100000 in
set_option maxHeartbeats 1000000 in
theorem bare_odd (a0 : Int) (a1 : Int) (a2 : Int) (W : World) (w0 : (Lit.int .u32 a0).wf = true) (w1 : (Lit.int .i64 a1).wf = true) (w2 : (Lit.int .i64 a2).wf = true) (hb : a1 < 0 ∨ 5 < a1) (hv : True) :
    Calls Try.prog 4 #[.int .u32 a0, .int .i64 a1, .int .i64 a2] W fun e w' => e = .returned (.bool true) ∧ Below W.heap.size W w' := by
  have HB := Lib.hid hb
  have HV := Lib.hid hv
  have k0 : (a1 == 0) = false := beq_eq_false_iff_ne.2 (by omega)
  have k1 : (a1 == 1) = false := beq_eq_false_iff_ne.2 (by omega)
  have k2 : (a1 == 2) = false := beq_eq_false_iff_ne.2 (by omega)
  have k3 : (a1 == 3) = false := beq_eq_false_iff_ne.2 (by omega)
  have k4 : (a1 == 4) = false := beq_eq_false_iff_ne.2 (by omega)
  have k5 : (a1 == 5) = false := beq_eq_false_iff_ne.2 (by omega)
  clear hb
  skip
  go_enter Try.func4, Try.ntmps4
  go_upto_region 9 with (first | (go_at_call 7; (with_reducible refine (awake_any _).mono ?_); rintro e w1 ⟨rfl, hx⟩; have H1 := Lib.hid hx; clear hx) | (go_at_call 14; (with_reducible refine (bare_any _ _ _ _).mono ?_); rintro e wy ⟨rfl, hx⟩; have H2 := Lib.hid (((HeldB.nil (lowA (lowA (lowA (low H1.out hx) (.cells #[.int .u32 a0, .int .i64 a1, .string { data := #[] }, .int .i64 0, .int .i64 0, .int .i64 0, .int .i64 0, .int .i64 a2] 25)) (.cells #[.int .u32 a0, .int .i64 a1, .string { data := #[120] }, .int .i64 0, .int .i64 0, .int .i64 0, .int .i64 0, .int .i64 a2] 25)) (.cells #[.int .u32 a0, .int .i64 a1, .string { data := #[] }, .int .i64 0, .int .i64 0, .int .i64 1, .int .i64 0, .int .i64 a2] 25))).cons (((Blk.new wy #[.int .u32 a0, .int .i64 a1, .string { data := #[] }, .int .i64 0, .int .i64 0, .int .i64 0, .int .i64 0, .int .i64 a2] 25).alloc (.cells #[.int .u32 a0, .int .i64 a1, .string { data := #[120] }, .int .i64 0, .int .i64 0, .int .i64 0, .int .i64 0, .int .i64 a2] 25)).alloc (.cells #[.int .u32 a0, .int .i64 a1, .string { data := #[] }, .int .i64 0, .int .i64 0, .int .i64 1, .int .i64 0, .int .i64 a2] 25))).cons ((Blk.new2 wy (.cells #[.int .u32 a0, .int .i64 a1, .string { data := #[] }, .int .i64 0, .int .i64 0, .int .i64 0, .int .i64 0, .int .i64 a2] 25) #[.int .u32 a0, .int .i64 a1, .string { data := #[120] }, .int .i64 0, .int .i64 0, .int .i64 0, .int .i64 0, .int .i64 a2] 25).alloc (.cells #[.int .u32 a0, .int .i64 a1, .string { data := #[] }, .int .i64 0, .int .i64 0, .int .i64 1, .int .i64 0, .int .i64 a2] 25)) |>.cons (Blk.new3 wy (.cells #[.int .u32 a0, .int .i64 a1, .string { data := #[] }, .int .i64 0, .int .i64 0, .int .i64 0, .int .i64 0, .int .i64 a2] 25) (.cells #[.int .u32 a0, .int .i64 a1, .string { data := #[120] }, .int .i64 0, .int .i64 0, .int .i64 0, .int .i64 0, .int .i64 a2] 25) #[.int .u32 a0, .int .i64 a1, .string { data := #[] }, .int .i64 0, .int .i64 0, .int .i64 1, .int .i64 0, .int .i64 a2] 25)); clear hx))
  refine wp_region_seq (S := HeldB W [((wy.heap.size + 1 + 1), #[.int .u32 a0, .int .i64 a1, .string { data := #[] }, .int .i64 0, .int .i64 0, .int .i64 1, .int .i64 0, .int .i64 a2], 25), ((wy.heap.size + 1), #[.int .u32 a0, .int .i64 a1, .string { data := #[120] }, .int .i64 0, .int .i64 0, .int .i64 0, .int .i64 0, .int .i64 a2], 25), (wy.heap.size, #[.int .u32 a0, .int .i64 a1, .string { data := #[] }, .int .i64 0, .int .i64 0, .int .i64 0, .int .i64 0, .int .i64 a2], 25)]) 40 (by kernel_rfl) (by kernel_rfl) H2.out.drew ?_
  simp only [List.take_succ_cons, List.take_zero, List.drop_succ_cons, List.drop_zero]
  refine wpHeld_val (v := ?vodd0) (by rfl) ?yodd0 ?rodd0
  case yodd0 => (intro wS hSw; go_simp; try (with_reducible rfl))
  try simp only [Act.put, List.setIfInBounds_toArray, List.set_cons_zero, List.set_cons_succ]
  refine wpHeld_val (v := ?vodd1) (by rfl) ?yodd1 ?rodd1
  case yodd1 => (intro wS hSw; go_simp; try (with_reducible rfl))
  try simp only [Act.put, List.setIfInBounds_toArray, List.set_cons_zero, List.set_cons_succ]
  refine wpHeld_val (v := ?vodd2) (by rfl) ?yodd2 ?rodd2
  case yodd2 => (intro wS hSw; obtain ⟨q0_0, q0_1, q0_2, q0_3, q0_4, q0_5, q0_6, q0_7⟩ := (hSw).b0.cells8; obtain ⟨q1_0, q1_1, q1_2, q1_3, q1_4, q1_5, q1_6, q1_7⟩ := (hSw).tl.b0.cells8; obtain ⟨q2_0, q2_1, q2_2, q2_3, q2_4, q2_5, q2_6, q2_7⟩ := (hSw).tl.tl.b0.cells8; go_simp; try (with_reducible rfl))
  try simp only [Act.put, List.setIfInBounds_toArray, List.set_cons_zero, List.set_cons_succ]
  refine wpHeld_val (v := ?vodd3) (by rfl) ?yodd3 ?rodd3
  case yodd3 => (intro wS hSw; go_simp; try (with_reducible rfl))
  try simp only [Act.put, List.setIfInBounds_toArray, List.set_cons_zero, List.set_cons_succ]
  refine wpHeld_val (v := ?vodd4) (by rfl) ?yodd4 ?rodd4
  case yodd4 => (intro wS hSw; go_simp; try (with_reducible rfl))
  try simp only [Act.put, List.setIfInBounds_toArray, List.set_cons_zero, List.set_cons_succ]
  refine wpHeld_val (v := ?vodd5) (by rfl) ?yodd5 ?rodd5
  case yodd5 => (intro wS hSw; go_simp; try (with_reducible rfl))
  try simp only [Act.put, List.setIfInBounds_toArray, List.set_cons_zero, List.set_cons_succ]
  refine wpHeld_run (.agg #[.int .u32 a0, .int .i64 a1, .string { data := #[] }, .int .i64 0, .int .i64 0, .int .i64 0, .int .i64 0, .int .i64 a2]) (by rfl) ?codd6 ?rodd6
  case codd6 => (intro wS hSw K hK; go_simp; (go_at_call 15; (with_reducible refine (rbare_any _ _ _ _).mono ?_); rintro e w5 ⟨rfl, hx⟩); go_wp2_with fail; exact hK.out _ (hSw.keep hx))
  try simp only [Act.put, List.setIfInBounds_toArray, List.set_cons_zero, List.set_cons_succ]
  refine wpHeld_val (v := .bool true) (by rfl) ?yodd7 ?rodd7
  case yodd7 => (intro wS hSw; go_simp; try (first | with_reducible rfl | (split <;> omega)))
  try simp only [Act.put, List.setIfInBounds_toArray, List.set_cons_zero, List.set_cons_succ]
  refine wpHeld_val (v := ?vodd8) (by rfl) ?yodd8 ?rodd8
  case yodd8 => (intro wS hSw; go_simp; try (with_reducible rfl))
  try simp only [Act.put, List.setIfInBounds_toArray, List.set_cons_zero, List.set_cons_succ]
  refine wpHeld_val (v := ?vodd9) (by rfl) ?yodd9 ?rodd9
  case yodd9 => (intro wS hSw; go_simp; try (with_reducible rfl))
  try simp only [Act.put, List.setIfInBounds_toArray, List.set_cons_zero, List.set_cons_succ]
  refine wpHeld_val (v := ?vodd10) (by rfl) ?yodd10 ?rodd10
  case yodd10 => (intro wS hSw; obtain ⟨q0_0, q0_1, q0_2, q0_3, q0_4, q0_5, q0_6, q0_7⟩ := (hSw).b0.cells8; obtain ⟨q1_0, q1_1, q1_2, q1_3, q1_4, q1_5, q1_6, q1_7⟩ := (hSw).tl.b0.cells8; obtain ⟨q2_0, q2_1, q2_2, q2_3, q2_4, q2_5, q2_6, q2_7⟩ := (hSw).tl.tl.b0.cells8; go_simp; try (with_reducible rfl))
  try simp only [Act.put, List.setIfInBounds_toArray, List.set_cons_zero, List.set_cons_succ]
  refine wpHeld_run (.bool (decide (RightP a1 { data := #[] } 0 0 0 0 a2))) (by rfl) ?codd11 ?rodd11
  case codd11 => (intro wS hSw K hK; go_simp; (go_at_call 10; (with_reducible refine (right_any _ _ _ _ _ _ _ _ _).mono ?_); rintro e w5 ⟨rfl, hx⟩); go_wp2_with fail; exact hK.out _ (hSw.keep hx))
  try simp only [Act.put, List.setIfInBounds_toArray, List.set_cons_zero, List.set_cons_succ]
  refine wpHeld_val (v := ?vodd12) (by rfl) ?yodd12 ?rodd12
  case yodd12 => (intro wS hSw; go_simp; try (with_reducible rfl))
  try simp only [Act.put, List.setIfInBounds_toArray, List.set_cons_zero, List.set_cons_succ]
  refine wpHeld_val (v := .bool true) (by rfl) ?yodd13 ?rodd13
  case yodd13 => (intro wS hSw; go_simp; try ((have hb := HB.out; have hv := HV.out; unfold RightP okT; rw [sz0]; omega)))
  try simp only [Act.put, List.setIfInBounds_toArray, List.set_cons_zero, List.set_cons_succ]
  refine wpHeld_val (v := ?vodd14) (by rfl) ?yodd14 ?rodd14
  case yodd14 => (intro wS hSw; go_simp; try (with_reducible rfl))
  try simp only [Act.put, List.setIfInBounds_toArray, List.set_cons_zero, List.set_cons_succ]
  refine wpHeld_val (v := ?vodd15) (by rfl) ?yodd15 ?rodd15
  case yodd15 => (intro wS hSw; go_simp; try (with_reducible rfl))
  try simp only [Act.put, List.setIfInBounds_toArray, List.set_cons_zero, List.set_cons_succ]
  refine wpHeld_val (v := ?vodd16) (by rfl) ?yodd16 ?rodd16
  case yodd16 => (intro wS hSw; obtain ⟨q0_0, q0_1, q0_2, q0_3, q0_4, q0_5, q0_6, q0_7⟩ := (hSw).b0.cells8; obtain ⟨q1_0, q1_1, q1_2, q1_3, q1_4, q1_5, q1_6, q1_7⟩ := (hSw).tl.b0.cells8; obtain ⟨q2_0, q2_1, q2_2, q2_3, q2_4, q2_5, q2_6, q2_7⟩ := (hSw).tl.tl.b0.cells8; go_simp; try (with_reducible rfl))
  try simp only [Act.put, List.setIfInBounds_toArray, List.set_cons_zero, List.set_cons_succ]
  refine wpHeld_run (.int .i64 0) (by rfl) ?codd17 ?rodd17
  case codd17 => (intro wS hSw K hK; go_simp; (go_at_call 12; (with_reducible refine (over_any _ _ _ _ _ _ _ _ _).mono ?_); rintro e w5 ⟨rfl, hx⟩); go_wp2_with fail; exact hK.out _ (hSw.keep hx))
  try simp only [Act.put, List.setIfInBounds_toArray, List.set_cons_zero, List.set_cons_succ]
  refine wpHeld_val (v := .bool true) (by rfl) ?yodd18 ?rodd18
  case yodd18 => (intro wS hSw; go_simp; try (first | with_reducible rfl | (split <;> omega)))
  try simp only [Act.put, List.setIfInBounds_toArray, List.set_cons_zero, List.set_cons_succ]
  refine wpHeld_val (v := ?vodd19) (by rfl) ?yodd19 ?rodd19
  case yodd19 => (intro wS hSw; go_simp; try (with_reducible rfl))
  try simp only [Act.put, List.setIfInBounds_toArray, List.set_cons_zero, List.set_cons_succ]
  refine wpHeld_val (v := ?vodd20) (by rfl) ?yodd20 ?rodd20
  case yodd20 => (intro wS hSw; go_simp; try (with_reducible rfl))
  try simp only [Act.put, List.setIfInBounds_toArray, List.set_cons_zero, List.set_cons_succ]
  refine wpHeld_val (v := ?vodd21) (by rfl) ?yodd21 ?rodd21
  case yodd21 => (intro wS hSw; obtain ⟨q0_0, q0_1, q0_2, q0_3, q0_4, q0_5, q0_6, q0_7⟩ := (hSw).b0.cells8; obtain ⟨q1_0, q1_1, q1_2, q1_3, q1_4, q1_5, q1_6, q1_7⟩ := (hSw).tl.b0.cells8; obtain ⟨q2_0, q2_1, q2_2, q2_3, q2_4, q2_5, q2_6, q2_7⟩ := (hSw).tl.tl.b0.cells8; go_simp; try (with_reducible rfl))
  try simp only [Act.put, List.setIfInBounds_toArray, List.set_cons_zero, List.set_cons_succ]
  refine wpHeld_run (.bool (decide (RightP a1 { data := #[120] } 0 0 0 0 a2))) (by rfl) ?codd22 ?rodd22
  case codd22 => (intro wS hSw K hK; go_simp; (go_at_call 10; (with_reducible refine (right_any _ _ _ _ _ _ _ _ _).mono ?_); rintro e w5 ⟨rfl, hx⟩); go_wp2_with fail; exact hK.out _ (hSw.keep hx))
  try simp only [Act.put, List.setIfInBounds_toArray, List.set_cons_zero, List.set_cons_succ]
  refine wpHeld_val (v := ?vodd23) (by rfl) ?yodd23 ?rodd23
  case yodd23 => (intro wS hSw; go_simp; try (with_reducible rfl))
  try simp only [Act.put, List.setIfInBounds_toArray, List.set_cons_zero, List.set_cons_succ]
  refine wpHeld_val (v := ?vodd24) (by rfl) ?yodd24 ?rodd24
  case yodd24 => (intro wS hSw; go_simp; try (with_reducible rfl))
  try simp only [Act.put, List.setIfInBounds_toArray, List.set_cons_zero, List.set_cons_succ]
  refine wpHeld_skip (by rfl) ?_
  try simp only [Act.put, List.setIfInBounds_toArray, List.set_cons_zero, List.set_cons_succ]
  refine wpHeld_skip (by rfl) ?_
  try simp only [Act.put, List.setIfInBounds_toArray, List.set_cons_zero, List.set_cons_succ]
  refine wpHeld_val (v := ?vodd27) (by rfl) ?yodd27 ?rodd27
  case yodd27 => (intro wS hSw; go_simp; try (with_reducible rfl))
  try simp only [Act.put, List.setIfInBounds_toArray, List.set_cons_zero, List.set_cons_succ]
  refine wpHeld_val (v := ?vodd28) (by rfl) ?yodd28 ?rodd28
  case yodd28 => (intro wS hSw; go_simp; try (with_reducible rfl))
  try simp only [Act.put, List.setIfInBounds_toArray, List.set_cons_zero, List.set_cons_succ]
  refine wpHeld_skip (by rfl) ?_
  try simp only [Act.put, List.setIfInBounds_toArray, List.set_cons_zero, List.set_cons_succ]
  refine wpHeld_skip (by rfl) ?_
  try simp only [Act.put, List.setIfInBounds_toArray, List.set_cons_zero, List.set_cons_succ]
  refine wpHeld_val (v := ?vodd31) (by rfl) ?yodd31 ?rodd31
  case yodd31 => (intro wS hSw; go_simp; try (with_reducible rfl))
  try simp only [Act.put, List.setIfInBounds_toArray, List.set_cons_zero, List.set_cons_succ]
  refine wpHeld_val (v := .bool true) (by rfl) ?yodd32 ?rodd32
  case yodd32 => (intro wS hSw; go_simp; try ((have hb := HB.out; have hv := HV.out; unfold RightP okT; rw [sz1]; omega)))
  try simp only [Act.put, List.setIfInBounds_toArray, List.set_cons_zero, List.set_cons_succ]
  refine wpHeld_val (v := ?vodd33) (by rfl) ?yodd33 ?rodd33
  case yodd33 => (intro wS hSw; go_simp; try (with_reducible rfl))
  try simp only [Act.put, List.setIfInBounds_toArray, List.set_cons_zero, List.set_cons_succ]
  refine wpHeld_val (v := ?vodd34) (by rfl) ?yodd34 ?rodd34
  case yodd34 => (intro wS hSw; go_simp; try (with_reducible rfl))
  try simp only [Act.put, List.setIfInBounds_toArray, List.set_cons_zero, List.set_cons_succ]
  refine wpHeld_val (v := ?vodd35) (by rfl) ?yodd35 ?rodd35
  case yodd35 => (intro wS hSw; obtain ⟨q0_0, q0_1, q0_2, q0_3, q0_4, q0_5, q0_6, q0_7⟩ := (hSw).b0.cells8; obtain ⟨q1_0, q1_1, q1_2, q1_3, q1_4, q1_5, q1_6, q1_7⟩ := (hSw).tl.b0.cells8; obtain ⟨q2_0, q2_1, q2_2, q2_3, q2_4, q2_5, q2_6, q2_7⟩ := (hSw).tl.tl.b0.cells8; go_simp; try (with_reducible rfl))
  try simp only [Act.put, List.setIfInBounds_toArray, List.set_cons_zero, List.set_cons_succ]
  refine wpHeld_run (.bool (decide (RightP a1 { data := #[] } 0 0 1 0 a2))) (by rfl) ?codd36 ?rodd36
  case codd36 => (intro wS hSw K hK; go_simp; (go_at_call 10; (with_reducible refine (right_any _ _ _ _ _ _ _ _ _).mono ?_); rintro e w5 ⟨rfl, hx⟩); go_wp2_with fail; exact hK.out _ (hSw.keep hx))
  try simp only [Act.put, List.setIfInBounds_toArray, List.set_cons_zero, List.set_cons_succ]
  refine wpHeld_val (v := .bool true) (by rfl) ?yodd37 ?rodd37
  case yodd37 => (intro wS hSw; go_simp; try ((have hb := HB.out; have hv := HV.out; unfold RightP okT; rw [sz0]; omega)))
  try simp only [Act.put, List.setIfInBounds_toArray, List.set_cons_zero, List.set_cons_succ]
  refine wpHeld_val (v := ?vodd38) (by rfl) ?yodd38 ?rodd38
  case yodd38 => (intro wS hSw; go_simp; try (with_reducible rfl))
  try simp only [Act.put, List.setIfInBounds_toArray, List.set_cons_zero, List.set_cons_succ]
  refine wpHeld_val (v := ?vodd39) (by rfl) ?yodd39 ?rodd39
  case yodd39 => (intro wS hSw; go_simp; try (with_reducible rfl))
  try simp only [Act.put, List.setIfInBounds_toArray, List.set_cons_zero, List.set_cons_succ]
  refine wpHeld_nil ?_
  intro wS hSw
  go_wp2
  go_ret
  exact ⟨rfl, hSw.2⟩

end Go.Proofs.Ytihekjoeibljpaa
