/- What nobody has may be, of Free, Backup and Abandoned alone. -/
import Derived.Test.YtihekjoeibljpaaLaw2
namespace Go.Proofs.Ytihekjoeibljpaa
open Go.ChangeShapes Go.WideShapes Go.ChangeAt Go.RowKit
set_option linter.unusedVariables false
set_option linter.unusedSimpArgs false

set_option maxRecDepth 100000 in
set_option maxHeartbeats 1000000 in
theorem bare_2n (a0 : Int) (a1 : Int) (a2 : Int) (W : World) (w0 : (Lit.int .u32 a0).wf = true) (w1 : (Lit.int .i64 a1).wf = true) (w2 : (Lit.int .i64 a2).wf = true) (hb : a1 = 2) (hv : a2 < 0) :
    Calls Try.prog 4 #[.int .u32 a0, .int .i64 a1, .int .i64 a2] W fun e w' => e = .returned (.bool true) ∧ Below W.heap.size W w' := by
  have HB := Lib.hid hb
  have HV := Lib.hid hv
  have k0 : (a1 == 0) = false := beq_eq_false_iff_ne.2 (by omega)
  have k1 : (a1 == 1) = false := beq_eq_false_iff_ne.2 (by omega)
  have k2 : (a1 == 2) = true := beq_iff_eq.2 (by omega)
  have k3 : (a1 == 3) = false := beq_eq_false_iff_ne.2 (by omega)
  have k4 : (a1 == 4) = false := beq_eq_false_iff_ne.2 (by omega)
  have k5 : (a1 == 5) = false := beq_eq_false_iff_ne.2 (by omega)
  clear hb
  skip
  have h0 : decide (0 ≤ a2) = false := decide_eq_false (by omega)
  go_enter Try.func4, Try.ntmps4
  go_upto_region 9 with (first | (go_at_call 7; (with_reducible refine (awake_any _).mono ?_); rintro e w1 ⟨rfl, hx⟩; have H1 := Lib.hid hx; clear hx) | (go_at_call 14; (with_reducible refine (bare_any _ _ _ _).mono ?_); rintro e wy ⟨rfl, hx⟩; have H2 := Lib.hid (((HeldB.nil (lowA (lowA (lowA (low H1.out hx) (.cells #[.int .u32 a0, .int .i64 a1, .string { data := #[] }, .int .i64 0, .int .i64 0, .int .i64 0, .int .i64 0, .int .i64 a2] 25)) (.cells #[.int .u32 a0, .int .i64 a1, .string { data := #[120] }, .int .i64 0, .int .i64 0, .int .i64 0, .int .i64 0, .int .i64 a2] 25)) (.cells #[.int .u32 a0, .int .i64 a1, .string { data := #[] }, .int .i64 0, .int .i64 0, .int .i64 1, .int .i64 0, .int .i64 a2] 25))).cons (((Blk.new wy #[.int .u32 a0, .int .i64 a1, .string { data := #[] }, .int .i64 0, .int .i64 0, .int .i64 0, .int .i64 0, .int .i64 a2] 25).alloc (.cells #[.int .u32 a0, .int .i64 a1, .string { data := #[120] }, .int .i64 0, .int .i64 0, .int .i64 0, .int .i64 0, .int .i64 a2] 25)).alloc (.cells #[.int .u32 a0, .int .i64 a1, .string { data := #[] }, .int .i64 0, .int .i64 0, .int .i64 1, .int .i64 0, .int .i64 a2] 25))).cons ((Blk.new2 wy (.cells #[.int .u32 a0, .int .i64 a1, .string { data := #[] }, .int .i64 0, .int .i64 0, .int .i64 0, .int .i64 0, .int .i64 a2] 25) #[.int .u32 a0, .int .i64 a1, .string { data := #[120] }, .int .i64 0, .int .i64 0, .int .i64 0, .int .i64 0, .int .i64 a2] 25).alloc (.cells #[.int .u32 a0, .int .i64 a1, .string { data := #[] }, .int .i64 0, .int .i64 0, .int .i64 1, .int .i64 0, .int .i64 a2] 25)) |>.cons (Blk.new3 wy (.cells #[.int .u32 a0, .int .i64 a1, .string { data := #[] }, .int .i64 0, .int .i64 0, .int .i64 0, .int .i64 0, .int .i64 a2] 25) (.cells #[.int .u32 a0, .int .i64 a1, .string { data := #[120] }, .int .i64 0, .int .i64 0, .int .i64 0, .int .i64 0, .int .i64 a2] 25) #[.int .u32 a0, .int .i64 a1, .string { data := #[] }, .int .i64 0, .int .i64 0, .int .i64 1, .int .i64 0, .int .i64 a2] 25)); clear hx))
  refine wp_region_seq (S := HeldB W [((wy.heap.size + 1 + 1), #[.int .u32 a0, .int .i64 a1, .string { data := #[] }, .int .i64 0, .int .i64 0, .int .i64 1, .int .i64 0, .int .i64 a2], 25), ((wy.heap.size + 1), #[.int .u32 a0, .int .i64 a1, .string { data := #[120] }, .int .i64 0, .int .i64 0, .int .i64 0, .int .i64 0, .int .i64 a2], 25), (wy.heap.size, #[.int .u32 a0, .int .i64 a1, .string { data := #[] }, .int .i64 0, .int .i64 0, .int .i64 0, .int .i64 0, .int .i64 a2], 25)]) 40 (by kernel_rfl) (by kernel_rfl) H2.out.drew ?_
  simp only [List.take_succ_cons, List.take_zero, List.drop_succ_cons, List.drop_zero]
  refine wpHeld_val (v := ?vz2n0) (by rfl) ?yz2n0 ?rz2n0
  case yz2n0 => (intro wS hSw; go_simp; try (with_reducible rfl))
  try simp only [Act.put, List.setIfInBounds_toArray, List.set_cons_zero, List.set_cons_succ]
  refine wpHeld_val (v := ?vz2n1) (by rfl) ?yz2n1 ?rz2n1
  case yz2n1 => (intro wS hSw; go_simp; try (with_reducible rfl))
  try simp only [Act.put, List.setIfInBounds_toArray, List.set_cons_zero, List.set_cons_succ]
  refine wpHeld_val (v := ?vz2n2) (by rfl) ?yz2n2 ?rz2n2
  case yz2n2 => (intro wS hSw; obtain ⟨q0_0, q0_1, q0_2, q0_3, q0_4, q0_5, q0_6, q0_7⟩ := (hSw).b0.cells8; obtain ⟨q1_0, q1_1, q1_2, q1_3, q1_4, q1_5, q1_6, q1_7⟩ := (hSw).tl.b0.cells8; obtain ⟨q2_0, q2_1, q2_2, q2_3, q2_4, q2_5, q2_6, q2_7⟩ := (hSw).tl.tl.b0.cells8; go_simp; try (with_reducible rfl))
  try simp only [Act.put, List.setIfInBounds_toArray, List.set_cons_zero, List.set_cons_succ]
  refine wpHeld_val (v := ?vz2n3) (by rfl) ?yz2n3 ?rz2n3
  case yz2n3 => (intro wS hSw; go_simp; try (with_reducible rfl))
  try simp only [Act.put, List.setIfInBounds_toArray, List.set_cons_zero, List.set_cons_succ]
  refine wpHeld_val (v := ?vz2n4) (by rfl) ?yz2n4 ?rz2n4
  case yz2n4 => (intro wS hSw; go_simp; try (with_reducible rfl))
  try simp only [Act.put, List.setIfInBounds_toArray, List.set_cons_zero, List.set_cons_succ]
  refine wpHeld_val (v := ?vz2n5) (by rfl) ?yz2n5 ?rz2n5
  case yz2n5 => (intro wS hSw; go_simp; try (with_reducible rfl))
  try simp only [Act.put, List.setIfInBounds_toArray, List.set_cons_zero, List.set_cons_succ]
  refine wpHeld_run (.agg #[.int .u32 a0, .int .i64 a1, .string { data := #[] }, .int .i64 0, .int .i64 0, .int .i64 0, .int .i64 0, .int .i64 a2]) (by rfl) ?cz2n6 ?rz2n6
  case cz2n6 => (intro wS hSw K hK; go_simp; (go_at_call 15; (with_reducible refine (rbare_any _ _ _ _).mono ?_); rintro e w5 ⟨rfl, hx⟩); go_wp2_with fail; exact hK.out _ (hSw.keep hx))
  try simp only [Act.put, List.setIfInBounds_toArray, List.set_cons_zero, List.set_cons_succ]
  refine wpHeld_val (v := .bool true) (by rfl) ?yz2n7 ?rz2n7
  case yz2n7 => (intro wS hSw; go_simp; try (first | with_reducible rfl | (split <;> omega)))
  try simp only [Act.put, List.setIfInBounds_toArray, List.set_cons_zero, List.set_cons_succ]
  refine wpHeld_val (v := ?vz2n8) (by rfl) ?yz2n8 ?rz2n8
  case yz2n8 => (intro wS hSw; go_simp; try (with_reducible rfl))
  try simp only [Act.put, List.setIfInBounds_toArray, List.set_cons_zero, List.set_cons_succ]
  refine wpHeld_val (v := ?vz2n9) (by rfl) ?yz2n9 ?rz2n9
  case yz2n9 => (intro wS hSw; go_simp; try (with_reducible rfl))
  try simp only [Act.put, List.setIfInBounds_toArray, List.set_cons_zero, List.set_cons_succ]
  refine wpHeld_val (v := ?vz2n10) (by rfl) ?yz2n10 ?rz2n10
  case yz2n10 => (intro wS hSw; obtain ⟨q0_0, q0_1, q0_2, q0_3, q0_4, q0_5, q0_6, q0_7⟩ := (hSw).b0.cells8; obtain ⟨q1_0, q1_1, q1_2, q1_3, q1_4, q1_5, q1_6, q1_7⟩ := (hSw).tl.b0.cells8; obtain ⟨q2_0, q2_1, q2_2, q2_3, q2_4, q2_5, q2_6, q2_7⟩ := (hSw).tl.tl.b0.cells8; go_simp; try (with_reducible rfl))
  try simp only [Act.put, List.setIfInBounds_toArray, List.set_cons_zero, List.set_cons_succ]
  refine wpHeld_run (.bool (decide (RightP a1 { data := #[] } 0 0 0 0 a2))) (by rfl) ?cz2n11 ?rz2n11
  case cz2n11 => (intro wS hSw K hK; go_simp; (go_at_call 10; (with_reducible refine (right_any _ _ _ _ _ _ _ _ _).mono ?_); rintro e w5 ⟨rfl, hx⟩); go_wp2_with fail; exact hK.out _ (hSw.keep hx))
  try simp only [Act.put, List.setIfInBounds_toArray, List.set_cons_zero, List.set_cons_succ]
  refine wpHeld_val (v := ?vz2n12) (by rfl) ?yz2n12 ?rz2n12
  case yz2n12 => (intro wS hSw; go_simp; try (with_reducible rfl))
  try simp only [Act.put, List.setIfInBounds_toArray, List.set_cons_zero, List.set_cons_succ]
  refine wpHeld_val (v := .bool true) (by rfl) ?yz2n13 ?rz2n13
  case yz2n13 => (intro wS hSw; go_simp; try ((have hb := HB.out; have hv := HV.out; unfold RightP okT; rw [sz0]; omega)))
  try simp only [Act.put, List.setIfInBounds_toArray, List.set_cons_zero, List.set_cons_succ]
  refine wpHeld_val (v := ?vz2n14) (by rfl) ?yz2n14 ?rz2n14
  case yz2n14 => (intro wS hSw; go_simp; try (with_reducible rfl))
  try simp only [Act.put, List.setIfInBounds_toArray, List.set_cons_zero, List.set_cons_succ]
  refine wpHeld_val (v := ?vz2n15) (by rfl) ?yz2n15 ?rz2n15
  case yz2n15 => (intro wS hSw; go_simp; try (with_reducible rfl))
  try simp only [Act.put, List.setIfInBounds_toArray, List.set_cons_zero, List.set_cons_succ]
  refine wpHeld_val (v := ?vz2n16) (by rfl) ?yz2n16 ?rz2n16
  case yz2n16 => (intro wS hSw; obtain ⟨q0_0, q0_1, q0_2, q0_3, q0_4, q0_5, q0_6, q0_7⟩ := (hSw).b0.cells8; obtain ⟨q1_0, q1_1, q1_2, q1_3, q1_4, q1_5, q1_6, q1_7⟩ := (hSw).tl.b0.cells8; obtain ⟨q2_0, q2_1, q2_2, q2_3, q2_4, q2_5, q2_6, q2_7⟩ := (hSw).tl.tl.b0.cells8; go_simp; try (with_reducible rfl))
  try simp only [Act.put, List.setIfInBounds_toArray, List.set_cons_zero, List.set_cons_succ]
  refine wpHeld_run (.int .i64 0) (by rfl) ?cz2n17 ?rz2n17
  case cz2n17 => (intro wS hSw K hK; go_simp; (go_at_call 12; (with_reducible refine (over_any _ _ _ _ _ _ _ _ _).mono ?_); rintro e w5 ⟨rfl, hx⟩); go_wp2_with fail; exact hK.out _ (hSw.keep hx))
  try simp only [Act.put, List.setIfInBounds_toArray, List.set_cons_zero, List.set_cons_succ]
  refine wpHeld_val (v := .bool true) (by rfl) ?yz2n18 ?rz2n18
  case yz2n18 => (intro wS hSw; go_simp; try (first | with_reducible rfl | (split <;> omega)))
  try simp only [Act.put, List.setIfInBounds_toArray, List.set_cons_zero, List.set_cons_succ]
  refine wpHeld_val (v := ?vz2n19) (by rfl) ?yz2n19 ?rz2n19
  case yz2n19 => (intro wS hSw; go_simp; try (with_reducible rfl))
  try simp only [Act.put, List.setIfInBounds_toArray, List.set_cons_zero, List.set_cons_succ]
  refine wpHeld_val (v := ?vz2n20) (by rfl) ?yz2n20 ?rz2n20
  case yz2n20 => (intro wS hSw; go_simp; try (with_reducible rfl))
  try simp only [Act.put, List.setIfInBounds_toArray, List.set_cons_zero, List.set_cons_succ]
  refine wpHeld_val (v := ?vz2n21) (by rfl) ?yz2n21 ?rz2n21
  case yz2n21 => (intro wS hSw; obtain ⟨q0_0, q0_1, q0_2, q0_3, q0_4, q0_5, q0_6, q0_7⟩ := (hSw).b0.cells8; obtain ⟨q1_0, q1_1, q1_2, q1_3, q1_4, q1_5, q1_6, q1_7⟩ := (hSw).tl.b0.cells8; obtain ⟨q2_0, q2_1, q2_2, q2_3, q2_4, q2_5, q2_6, q2_7⟩ := (hSw).tl.tl.b0.cells8; go_simp; try (with_reducible rfl))
  try simp only [Act.put, List.setIfInBounds_toArray, List.set_cons_zero, List.set_cons_succ]
  refine wpHeld_run (.bool (decide (RightP a1 { data := #[120] } 0 0 0 0 a2))) (by rfl) ?cz2n22 ?rz2n22
  case cz2n22 => (intro wS hSw K hK; go_simp; (go_at_call 10; (with_reducible refine (right_any _ _ _ _ _ _ _ _ _).mono ?_); rintro e w5 ⟨rfl, hx⟩); go_wp2_with fail; exact hK.out _ (hSw.keep hx))
  try simp only [Act.put, List.setIfInBounds_toArray, List.set_cons_zero, List.set_cons_succ]
  refine wpHeld_val (v := ?vz2n23) (by rfl) ?yz2n23 ?rz2n23
  case yz2n23 => (intro wS hSw; go_simp; try (with_reducible rfl))
  try simp only [Act.put, List.setIfInBounds_toArray, List.set_cons_zero, List.set_cons_succ]
  refine wpHeld_val (v := ?vz2n24) (by rfl) ?yz2n24 ?rz2n24
  case yz2n24 => (intro wS hSw; go_simp; try (with_reducible rfl))
  try simp only [Act.put, List.setIfInBounds_toArray, List.set_cons_zero, List.set_cons_succ]
  refine wpHeld_val (v := ?vz2n25) (by rfl) ?yz2n25 ?rz2n25
  case yz2n25 => (intro wS hSw; go_simp; try (with_reducible rfl))
  try simp only [Act.put, List.setIfInBounds_toArray, List.set_cons_zero, List.set_cons_succ]
  refine wpHeld_val (v := ?vz2n26) (by rfl) ?yz2n26 ?rz2n26
  case yz2n26 => (intro wS hSw; go_simp; try (with_reducible rfl))
  try simp only [Act.put, List.setIfInBounds_toArray, List.set_cons_zero, List.set_cons_succ]
  refine wpHeld_val (v := ?vz2n27) (by rfl) ?yz2n27 ?rz2n27
  case yz2n27 => (intro wS hSw; go_simp; try (with_reducible rfl))
  try simp only [Act.put, List.setIfInBounds_toArray, List.set_cons_zero, List.set_cons_succ]
  refine wpHeld_val (v := ?vz2n28) (by rfl) ?yz2n28 ?rz2n28
  case yz2n28 => (intro wS hSw; go_simp; try (with_reducible rfl))
  try simp only [Act.put, List.setIfInBounds_toArray, List.set_cons_zero, List.set_cons_succ]
  refine wpHeld_skip (by rfl) ?_
  try simp only [Act.put, List.setIfInBounds_toArray, List.set_cons_zero, List.set_cons_succ]
  refine wpHeld_skip (by rfl) ?_
  try simp only [Act.put, List.setIfInBounds_toArray, List.set_cons_zero, List.set_cons_succ]
  refine wpHeld_val (v := ?vz2n31) (by rfl) ?yz2n31 ?rz2n31
  case yz2n31 => (intro wS hSw; go_simp; try (with_reducible rfl))
  try simp only [Act.put, List.setIfInBounds_toArray, List.set_cons_zero, List.set_cons_succ]
  refine wpHeld_val (v := .bool true) (by rfl) ?yz2n32 ?rz2n32
  case yz2n32 => (intro wS hSw; go_simp; try ((have hb := HB.out; have hv := HV.out; unfold RightP okT; rw [sz1]; omega)))
  try simp only [Act.put, List.setIfInBounds_toArray, List.set_cons_zero, List.set_cons_succ]
  refine wpHeld_val (v := ?vz2n33) (by rfl) ?yz2n33 ?rz2n33
  case yz2n33 => (intro wS hSw; go_simp; try (with_reducible rfl))
  try simp only [Act.put, List.setIfInBounds_toArray, List.set_cons_zero, List.set_cons_succ]
  refine wpHeld_val (v := ?vz2n34) (by rfl) ?yz2n34 ?rz2n34
  case yz2n34 => (intro wS hSw; go_simp; try (with_reducible rfl))
  try simp only [Act.put, List.setIfInBounds_toArray, List.set_cons_zero, List.set_cons_succ]
  refine wpHeld_val (v := ?vz2n35) (by rfl) ?yz2n35 ?rz2n35
  case yz2n35 => (intro wS hSw; obtain ⟨q0_0, q0_1, q0_2, q0_3, q0_4, q0_5, q0_6, q0_7⟩ := (hSw).b0.cells8; obtain ⟨q1_0, q1_1, q1_2, q1_3, q1_4, q1_5, q1_6, q1_7⟩ := (hSw).tl.b0.cells8; obtain ⟨q2_0, q2_1, q2_2, q2_3, q2_4, q2_5, q2_6, q2_7⟩ := (hSw).tl.tl.b0.cells8; go_simp; try (with_reducible rfl))
  try simp only [Act.put, List.setIfInBounds_toArray, List.set_cons_zero, List.set_cons_succ]
  refine wpHeld_run (.bool (decide (RightP a1 { data := #[] } 0 0 1 0 a2))) (by rfl) ?cz2n36 ?rz2n36
  case cz2n36 => (intro wS hSw K hK; go_simp; (go_at_call 10; (with_reducible refine (right_any _ _ _ _ _ _ _ _ _).mono ?_); rintro e w5 ⟨rfl, hx⟩); go_wp2_with fail; exact hK.out _ (hSw.keep hx))
  try simp only [Act.put, List.setIfInBounds_toArray, List.set_cons_zero, List.set_cons_succ]
  refine wpHeld_val (v := .bool true) (by rfl) ?yz2n37 ?rz2n37
  case yz2n37 => (intro wS hSw; go_simp; try ((have hb := HB.out; have hv := HV.out; unfold RightP okT; rw [sz0]; omega)))
  try simp only [Act.put, List.setIfInBounds_toArray, List.set_cons_zero, List.set_cons_succ]
  refine wpHeld_val (v := ?vz2n38) (by rfl) ?yz2n38 ?rz2n38
  case yz2n38 => (intro wS hSw; go_simp; try (with_reducible rfl))
  try simp only [Act.put, List.setIfInBounds_toArray, List.set_cons_zero, List.set_cons_succ]
  refine wpHeld_val (v := ?vz2n39) (by rfl) ?yz2n39 ?rz2n39
  case yz2n39 => (intro wS hSw; go_simp; try (with_reducible rfl))
  try simp only [Act.put, List.setIfInBounds_toArray, List.set_cons_zero, List.set_cons_succ]
  refine wpHeld_nil ?_
  intro wS hSw
  go_wp2
  go_ret
  exact ⟨rfl, hSw.2⟩

set_option maxRecDepth 100000 in
set_option maxHeartbeats 1000000 in
theorem bare_2i (a0 : Int) (a1 : Int) (a2 : Int) (W : World) (w0 : (Lit.int .u32 a0).wf = true) (w1 : (Lit.int .i64 a1).wf = true) (w2 : (Lit.int .i64 a2).wf = true) (hb : a1 = 2) (hv : 0 ≤ a2 ∧ a2 ≤ 1099511627776) :
    Calls Try.prog 4 #[.int .u32 a0, .int .i64 a1, .int .i64 a2] W fun e w' => e = .returned (.bool true) ∧ Below W.heap.size W w' := by
  have HB := Lib.hid hb
  have HV := Lib.hid hv
  have k0 : (a1 == 0) = false := beq_eq_false_iff_ne.2 (by omega)
  have k1 : (a1 == 1) = false := beq_eq_false_iff_ne.2 (by omega)
  have k2 : (a1 == 2) = true := beq_iff_eq.2 (by omega)
  have k3 : (a1 == 3) = false := beq_eq_false_iff_ne.2 (by omega)
  have k4 : (a1 == 4) = false := beq_eq_false_iff_ne.2 (by omega)
  have k5 : (a1 == 5) = false := beq_eq_false_iff_ne.2 (by omega)
  clear hb
  obtain ⟨hv1, hv2⟩ := hv
  have h0 : decide (0 ≤ a2) = true := decide_eq_true (by omega)
  have hM : decide (a2 ≤ 1099511627776) = true := decide_eq_true (by omega)
  go_enter Try.func4, Try.ntmps4
  go_upto_region 9 with (first | (go_at_call 7; (with_reducible refine (awake_any _).mono ?_); rintro e w1 ⟨rfl, hx⟩; have H1 := Lib.hid hx; clear hx) | (go_at_call 14; (with_reducible refine (bare_any _ _ _ _).mono ?_); rintro e wy ⟨rfl, hx⟩; have H2 := Lib.hid (((HeldB.nil (lowA (lowA (lowA (low H1.out hx) (.cells #[.int .u32 a0, .int .i64 a1, .string { data := #[] }, .int .i64 0, .int .i64 0, .int .i64 0, .int .i64 0, .int .i64 a2] 25)) (.cells #[.int .u32 a0, .int .i64 a1, .string { data := #[120] }, .int .i64 0, .int .i64 0, .int .i64 0, .int .i64 0, .int .i64 a2] 25)) (.cells #[.int .u32 a0, .int .i64 a1, .string { data := #[] }, .int .i64 0, .int .i64 0, .int .i64 1, .int .i64 0, .int .i64 a2] 25))).cons (((Blk.new wy #[.int .u32 a0, .int .i64 a1, .string { data := #[] }, .int .i64 0, .int .i64 0, .int .i64 0, .int .i64 0, .int .i64 a2] 25).alloc (.cells #[.int .u32 a0, .int .i64 a1, .string { data := #[120] }, .int .i64 0, .int .i64 0, .int .i64 0, .int .i64 0, .int .i64 a2] 25)).alloc (.cells #[.int .u32 a0, .int .i64 a1, .string { data := #[] }, .int .i64 0, .int .i64 0, .int .i64 1, .int .i64 0, .int .i64 a2] 25))).cons ((Blk.new2 wy (.cells #[.int .u32 a0, .int .i64 a1, .string { data := #[] }, .int .i64 0, .int .i64 0, .int .i64 0, .int .i64 0, .int .i64 a2] 25) #[.int .u32 a0, .int .i64 a1, .string { data := #[120] }, .int .i64 0, .int .i64 0, .int .i64 0, .int .i64 0, .int .i64 a2] 25).alloc (.cells #[.int .u32 a0, .int .i64 a1, .string { data := #[] }, .int .i64 0, .int .i64 0, .int .i64 1, .int .i64 0, .int .i64 a2] 25)) |>.cons (Blk.new3 wy (.cells #[.int .u32 a0, .int .i64 a1, .string { data := #[] }, .int .i64 0, .int .i64 0, .int .i64 0, .int .i64 0, .int .i64 a2] 25) (.cells #[.int .u32 a0, .int .i64 a1, .string { data := #[120] }, .int .i64 0, .int .i64 0, .int .i64 0, .int .i64 0, .int .i64 a2] 25) #[.int .u32 a0, .int .i64 a1, .string { data := #[] }, .int .i64 0, .int .i64 0, .int .i64 1, .int .i64 0, .int .i64 a2] 25)); clear hx))
  refine wp_region_seq (S := HeldB W [((wy.heap.size + 1 + 1), #[.int .u32 a0, .int .i64 a1, .string { data := #[] }, .int .i64 0, .int .i64 0, .int .i64 1, .int .i64 0, .int .i64 a2], 25), ((wy.heap.size + 1), #[.int .u32 a0, .int .i64 a1, .string { data := #[120] }, .int .i64 0, .int .i64 0, .int .i64 0, .int .i64 0, .int .i64 a2], 25), (wy.heap.size, #[.int .u32 a0, .int .i64 a1, .string { data := #[] }, .int .i64 0, .int .i64 0, .int .i64 0, .int .i64 0, .int .i64 a2], 25)]) 40 (by kernel_rfl) (by kernel_rfl) H2.out.drew ?_
  simp only [List.take_succ_cons, List.take_zero, List.drop_succ_cons, List.drop_zero]
  refine wpHeld_val (v := ?vz2i0) (by rfl) ?yz2i0 ?rz2i0
  case yz2i0 => (intro wS hSw; go_simp; try (with_reducible rfl))
  try simp only [Act.put, List.setIfInBounds_toArray, List.set_cons_zero, List.set_cons_succ]
  refine wpHeld_val (v := ?vz2i1) (by rfl) ?yz2i1 ?rz2i1
  case yz2i1 => (intro wS hSw; go_simp; try (with_reducible rfl))
  try simp only [Act.put, List.setIfInBounds_toArray, List.set_cons_zero, List.set_cons_succ]
  refine wpHeld_val (v := ?vz2i2) (by rfl) ?yz2i2 ?rz2i2
  case yz2i2 => (intro wS hSw; obtain ⟨q0_0, q0_1, q0_2, q0_3, q0_4, q0_5, q0_6, q0_7⟩ := (hSw).b0.cells8; obtain ⟨q1_0, q1_1, q1_2, q1_3, q1_4, q1_5, q1_6, q1_7⟩ := (hSw).tl.b0.cells8; obtain ⟨q2_0, q2_1, q2_2, q2_3, q2_4, q2_5, q2_6, q2_7⟩ := (hSw).tl.tl.b0.cells8; go_simp; try (with_reducible rfl))
  try simp only [Act.put, List.setIfInBounds_toArray, List.set_cons_zero, List.set_cons_succ]
  refine wpHeld_val (v := ?vz2i3) (by rfl) ?yz2i3 ?rz2i3
  case yz2i3 => (intro wS hSw; go_simp; try (with_reducible rfl))
  try simp only [Act.put, List.setIfInBounds_toArray, List.set_cons_zero, List.set_cons_succ]
  refine wpHeld_val (v := ?vz2i4) (by rfl) ?yz2i4 ?rz2i4
  case yz2i4 => (intro wS hSw; go_simp; try (with_reducible rfl))
  try simp only [Act.put, List.setIfInBounds_toArray, List.set_cons_zero, List.set_cons_succ]
  refine wpHeld_val (v := ?vz2i5) (by rfl) ?yz2i5 ?rz2i5
  case yz2i5 => (intro wS hSw; go_simp; try (with_reducible rfl))
  try simp only [Act.put, List.setIfInBounds_toArray, List.set_cons_zero, List.set_cons_succ]
  refine wpHeld_run (.agg #[.int .u32 a0, .int .i64 a1, .string { data := #[] }, .int .i64 0, .int .i64 0, .int .i64 0, .int .i64 0, .int .i64 a2]) (by rfl) ?cz2i6 ?rz2i6
  case cz2i6 => (intro wS hSw K hK; go_simp; (go_at_call 15; (with_reducible refine (rbare_any _ _ _ _).mono ?_); rintro e w5 ⟨rfl, hx⟩); go_wp2_with fail; exact hK.out _ (hSw.keep hx))
  try simp only [Act.put, List.setIfInBounds_toArray, List.set_cons_zero, List.set_cons_succ]
  refine wpHeld_val (v := .bool true) (by rfl) ?yz2i7 ?rz2i7
  case yz2i7 => (intro wS hSw; go_simp; try (first | with_reducible rfl | (split <;> omega)))
  try simp only [Act.put, List.setIfInBounds_toArray, List.set_cons_zero, List.set_cons_succ]
  refine wpHeld_val (v := ?vz2i8) (by rfl) ?yz2i8 ?rz2i8
  case yz2i8 => (intro wS hSw; go_simp; try (with_reducible rfl))
  try simp only [Act.put, List.setIfInBounds_toArray, List.set_cons_zero, List.set_cons_succ]
  refine wpHeld_val (v := ?vz2i9) (by rfl) ?yz2i9 ?rz2i9
  case yz2i9 => (intro wS hSw; go_simp; try (with_reducible rfl))
  try simp only [Act.put, List.setIfInBounds_toArray, List.set_cons_zero, List.set_cons_succ]
  refine wpHeld_val (v := ?vz2i10) (by rfl) ?yz2i10 ?rz2i10
  case yz2i10 => (intro wS hSw; obtain ⟨q0_0, q0_1, q0_2, q0_3, q0_4, q0_5, q0_6, q0_7⟩ := (hSw).b0.cells8; obtain ⟨q1_0, q1_1, q1_2, q1_3, q1_4, q1_5, q1_6, q1_7⟩ := (hSw).tl.b0.cells8; obtain ⟨q2_0, q2_1, q2_2, q2_3, q2_4, q2_5, q2_6, q2_7⟩ := (hSw).tl.tl.b0.cells8; go_simp; try (with_reducible rfl))
  try simp only [Act.put, List.setIfInBounds_toArray, List.set_cons_zero, List.set_cons_succ]
  refine wpHeld_run (.bool (decide (RightP a1 { data := #[] } 0 0 0 0 a2))) (by rfl) ?cz2i11 ?rz2i11
  case cz2i11 => (intro wS hSw K hK; go_simp; (go_at_call 10; (with_reducible refine (right_any _ _ _ _ _ _ _ _ _).mono ?_); rintro e w5 ⟨rfl, hx⟩); go_wp2_with fail; exact hK.out _ (hSw.keep hx))
  try simp only [Act.put, List.setIfInBounds_toArray, List.set_cons_zero, List.set_cons_succ]
  refine wpHeld_val (v := ?vz2i12) (by rfl) ?yz2i12 ?rz2i12
  case yz2i12 => (intro wS hSw; go_simp; try (with_reducible rfl))
  try simp only [Act.put, List.setIfInBounds_toArray, List.set_cons_zero, List.set_cons_succ]
  refine wpHeld_val (v := .bool true) (by rfl) ?yz2i13 ?rz2i13
  case yz2i13 => (intro wS hSw; go_simp; try ((have hb := HB.out; have hv := HV.out; unfold RightP okT; rw [sz0]; omega)))
  try simp only [Act.put, List.setIfInBounds_toArray, List.set_cons_zero, List.set_cons_succ]
  refine wpHeld_val (v := ?vz2i14) (by rfl) ?yz2i14 ?rz2i14
  case yz2i14 => (intro wS hSw; go_simp; try (with_reducible rfl))
  try simp only [Act.put, List.setIfInBounds_toArray, List.set_cons_zero, List.set_cons_succ]
  refine wpHeld_val (v := ?vz2i15) (by rfl) ?yz2i15 ?rz2i15
  case yz2i15 => (intro wS hSw; go_simp; try (with_reducible rfl))
  try simp only [Act.put, List.setIfInBounds_toArray, List.set_cons_zero, List.set_cons_succ]
  refine wpHeld_val (v := ?vz2i16) (by rfl) ?yz2i16 ?rz2i16
  case yz2i16 => (intro wS hSw; obtain ⟨q0_0, q0_1, q0_2, q0_3, q0_4, q0_5, q0_6, q0_7⟩ := (hSw).b0.cells8; obtain ⟨q1_0, q1_1, q1_2, q1_3, q1_4, q1_5, q1_6, q1_7⟩ := (hSw).tl.b0.cells8; obtain ⟨q2_0, q2_1, q2_2, q2_3, q2_4, q2_5, q2_6, q2_7⟩ := (hSw).tl.tl.b0.cells8; go_simp; try (with_reducible rfl))
  try simp only [Act.put, List.setIfInBounds_toArray, List.set_cons_zero, List.set_cons_succ]
  refine wpHeld_run (.int .i64 0) (by rfl) ?cz2i17 ?rz2i17
  case cz2i17 => (intro wS hSw K hK; go_simp; (go_at_call 12; (with_reducible refine (over_any _ _ _ _ _ _ _ _ _).mono ?_); rintro e w5 ⟨rfl, hx⟩); go_wp2_with fail; exact hK.out _ (hSw.keep hx))
  try simp only [Act.put, List.setIfInBounds_toArray, List.set_cons_zero, List.set_cons_succ]
  refine wpHeld_val (v := .bool true) (by rfl) ?yz2i18 ?rz2i18
  case yz2i18 => (intro wS hSw; go_simp; try (first | with_reducible rfl | (split <;> omega)))
  try simp only [Act.put, List.setIfInBounds_toArray, List.set_cons_zero, List.set_cons_succ]
  refine wpHeld_val (v := ?vz2i19) (by rfl) ?yz2i19 ?rz2i19
  case yz2i19 => (intro wS hSw; go_simp; try (with_reducible rfl))
  try simp only [Act.put, List.setIfInBounds_toArray, List.set_cons_zero, List.set_cons_succ]
  refine wpHeld_val (v := ?vz2i20) (by rfl) ?yz2i20 ?rz2i20
  case yz2i20 => (intro wS hSw; go_simp; try (with_reducible rfl))
  try simp only [Act.put, List.setIfInBounds_toArray, List.set_cons_zero, List.set_cons_succ]
  refine wpHeld_val (v := ?vz2i21) (by rfl) ?yz2i21 ?rz2i21
  case yz2i21 => (intro wS hSw; obtain ⟨q0_0, q0_1, q0_2, q0_3, q0_4, q0_5, q0_6, q0_7⟩ := (hSw).b0.cells8; obtain ⟨q1_0, q1_1, q1_2, q1_3, q1_4, q1_5, q1_6, q1_7⟩ := (hSw).tl.b0.cells8; obtain ⟨q2_0, q2_1, q2_2, q2_3, q2_4, q2_5, q2_6, q2_7⟩ := (hSw).tl.tl.b0.cells8; go_simp; try (with_reducible rfl))
  try simp only [Act.put, List.setIfInBounds_toArray, List.set_cons_zero, List.set_cons_succ]
  refine wpHeld_run (.bool (decide (RightP a1 { data := #[120] } 0 0 0 0 a2))) (by rfl) ?cz2i22 ?rz2i22
  case cz2i22 => (intro wS hSw K hK; go_simp; (go_at_call 10; (with_reducible refine (right_any _ _ _ _ _ _ _ _ _).mono ?_); rintro e w5 ⟨rfl, hx⟩); go_wp2_with fail; exact hK.out _ (hSw.keep hx))
  try simp only [Act.put, List.setIfInBounds_toArray, List.set_cons_zero, List.set_cons_succ]
  refine wpHeld_val (v := ?vz2i23) (by rfl) ?yz2i23 ?rz2i23
  case yz2i23 => (intro wS hSw; go_simp; try (with_reducible rfl))
  try simp only [Act.put, List.setIfInBounds_toArray, List.set_cons_zero, List.set_cons_succ]
  refine wpHeld_val (v := ?vz2i24) (by rfl) ?yz2i24 ?rz2i24
  case yz2i24 => (intro wS hSw; go_simp; try (with_reducible rfl))
  try simp only [Act.put, List.setIfInBounds_toArray, List.set_cons_zero, List.set_cons_succ]
  refine wpHeld_val (v := ?vz2i25) (by rfl) ?yz2i25 ?rz2i25
  case yz2i25 => (intro wS hSw; go_simp; try (with_reducible rfl))
  try simp only [Act.put, List.setIfInBounds_toArray, List.set_cons_zero, List.set_cons_succ]
  refine wpHeld_val (v := ?vz2i26) (by rfl) ?yz2i26 ?rz2i26
  case yz2i26 => (intro wS hSw; go_simp; try (with_reducible rfl))
  try simp only [Act.put, List.setIfInBounds_toArray, List.set_cons_zero, List.set_cons_succ]
  refine wpHeld_val (v := ?vz2i27) (by rfl) ?yz2i27 ?rz2i27
  case yz2i27 => (intro wS hSw; go_simp; try (with_reducible rfl))
  try simp only [Act.put, List.setIfInBounds_toArray, List.set_cons_zero, List.set_cons_succ]
  refine wpHeld_val (v := ?vz2i28) (by rfl) ?yz2i28 ?rz2i28
  case yz2i28 => (intro wS hSw; go_simp; try (with_reducible rfl))
  try simp only [Act.put, List.setIfInBounds_toArray, List.set_cons_zero, List.set_cons_succ]
  refine wpHeld_val (v := ?vz2i29) (by rfl) ?yz2i29 ?rz2i29
  case yz2i29 => (intro wS hSw; go_simp; try (with_reducible rfl))
  try simp only [Act.put, List.setIfInBounds_toArray, List.set_cons_zero, List.set_cons_succ]
  refine wpHeld_val (v := ?vz2i30) (by rfl) ?yz2i30 ?rz2i30
  case yz2i30 => (intro wS hSw; go_simp; try (with_reducible rfl))
  try simp only [Act.put, List.setIfInBounds_toArray, List.set_cons_zero, List.set_cons_succ]
  refine wpHeld_val (v := ?vz2i31) (by rfl) ?yz2i31 ?rz2i31
  case yz2i31 => (intro wS hSw; go_simp; try (with_reducible rfl))
  try simp only [Act.put, List.setIfInBounds_toArray, List.set_cons_zero, List.set_cons_succ]
  refine wpHeld_val (v := .bool true) (by rfl) ?yz2i32 ?rz2i32
  case yz2i32 => (intro wS hSw; go_simp; try ((have hb := HB.out; have hv := HV.out; unfold RightP okT; rw [sz1]; omega)))
  try simp only [Act.put, List.setIfInBounds_toArray, List.set_cons_zero, List.set_cons_succ]
  refine wpHeld_val (v := ?vz2i33) (by rfl) ?yz2i33 ?rz2i33
  case yz2i33 => (intro wS hSw; go_simp; try (with_reducible rfl))
  try simp only [Act.put, List.setIfInBounds_toArray, List.set_cons_zero, List.set_cons_succ]
  refine wpHeld_val (v := ?vz2i34) (by rfl) ?yz2i34 ?rz2i34
  case yz2i34 => (intro wS hSw; go_simp; try (with_reducible rfl))
  try simp only [Act.put, List.setIfInBounds_toArray, List.set_cons_zero, List.set_cons_succ]
  refine wpHeld_val (v := ?vz2i35) (by rfl) ?yz2i35 ?rz2i35
  case yz2i35 => (intro wS hSw; obtain ⟨q0_0, q0_1, q0_2, q0_3, q0_4, q0_5, q0_6, q0_7⟩ := (hSw).b0.cells8; obtain ⟨q1_0, q1_1, q1_2, q1_3, q1_4, q1_5, q1_6, q1_7⟩ := (hSw).tl.b0.cells8; obtain ⟨q2_0, q2_1, q2_2, q2_3, q2_4, q2_5, q2_6, q2_7⟩ := (hSw).tl.tl.b0.cells8; go_simp; try (with_reducible rfl))
  try simp only [Act.put, List.setIfInBounds_toArray, List.set_cons_zero, List.set_cons_succ]
  refine wpHeld_run (.bool (decide (RightP a1 { data := #[] } 0 0 1 0 a2))) (by rfl) ?cz2i36 ?rz2i36
  case cz2i36 => (intro wS hSw K hK; go_simp; (go_at_call 10; (with_reducible refine (right_any _ _ _ _ _ _ _ _ _).mono ?_); rintro e w5 ⟨rfl, hx⟩); go_wp2_with fail; exact hK.out _ (hSw.keep hx))
  try simp only [Act.put, List.setIfInBounds_toArray, List.set_cons_zero, List.set_cons_succ]
  refine wpHeld_val (v := .bool true) (by rfl) ?yz2i37 ?rz2i37
  case yz2i37 => (intro wS hSw; go_simp; try ((have hb := HB.out; have hv := HV.out; unfold RightP okT; rw [sz0]; omega)))
  try simp only [Act.put, List.setIfInBounds_toArray, List.set_cons_zero, List.set_cons_succ]
  refine wpHeld_val (v := ?vz2i38) (by rfl) ?yz2i38 ?rz2i38
  case yz2i38 => (intro wS hSw; go_simp; try (with_reducible rfl))
  try simp only [Act.put, List.setIfInBounds_toArray, List.set_cons_zero, List.set_cons_succ]
  refine wpHeld_val (v := ?vz2i39) (by rfl) ?yz2i39 ?rz2i39
  case yz2i39 => (intro wS hSw; go_simp; try (with_reducible rfl))
  try simp only [Act.put, List.setIfInBounds_toArray, List.set_cons_zero, List.set_cons_succ]
  refine wpHeld_nil ?_
  intro wS hSw
  go_wp2
  go_ret
  exact ⟨rfl, hSw.2⟩

set_option maxRecDepth 100000 in
set_option maxHeartbeats 1000000 in
theorem bare_2b (a0 : Int) (a1 : Int) (a2 : Int) (W : World) (w0 : (Lit.int .u32 a0).wf = true) (w1 : (Lit.int .i64 a1).wf = true) (w2 : (Lit.int .i64 a2).wf = true) (hb : a1 = 2) (hv : 1099511627776 < a2) :
    Calls Try.prog 4 #[.int .u32 a0, .int .i64 a1, .int .i64 a2] W fun e w' => e = .returned (.bool true) ∧ Below W.heap.size W w' := by
  have HB := Lib.hid hb
  have HV := Lib.hid hv
  have k0 : (a1 == 0) = false := beq_eq_false_iff_ne.2 (by omega)
  have k1 : (a1 == 1) = false := beq_eq_false_iff_ne.2 (by omega)
  have k2 : (a1 == 2) = true := beq_iff_eq.2 (by omega)
  have k3 : (a1 == 3) = false := beq_eq_false_iff_ne.2 (by omega)
  have k4 : (a1 == 4) = false := beq_eq_false_iff_ne.2 (by omega)
  have k5 : (a1 == 5) = false := beq_eq_false_iff_ne.2 (by omega)
  clear hb
  skip
  have h0 : decide (0 ≤ a2) = true := decide_eq_true (by omega)
  have hM : decide (a2 ≤ 1099511627776) = false := decide_eq_false (by omega)
  go_enter Try.func4, Try.ntmps4
  go_upto_region 9 with (first | (go_at_call 7; (with_reducible refine (awake_any _).mono ?_); rintro e w1 ⟨rfl, hx⟩; have H1 := Lib.hid hx; clear hx) | (go_at_call 14; (with_reducible refine (bare_any _ _ _ _).mono ?_); rintro e wy ⟨rfl, hx⟩; have H2 := Lib.hid (((HeldB.nil (lowA (lowA (lowA (low H1.out hx) (.cells #[.int .u32 a0, .int .i64 a1, .string { data := #[] }, .int .i64 0, .int .i64 0, .int .i64 0, .int .i64 0, .int .i64 a2] 25)) (.cells #[.int .u32 a0, .int .i64 a1, .string { data := #[120] }, .int .i64 0, .int .i64 0, .int .i64 0, .int .i64 0, .int .i64 a2] 25)) (.cells #[.int .u32 a0, .int .i64 a1, .string { data := #[] }, .int .i64 0, .int .i64 0, .int .i64 1, .int .i64 0, .int .i64 a2] 25))).cons (((Blk.new wy #[.int .u32 a0, .int .i64 a1, .string { data := #[] }, .int .i64 0, .int .i64 0, .int .i64 0, .int .i64 0, .int .i64 a2] 25).alloc (.cells #[.int .u32 a0, .int .i64 a1, .string { data := #[120] }, .int .i64 0, .int .i64 0, .int .i64 0, .int .i64 0, .int .i64 a2] 25)).alloc (.cells #[.int .u32 a0, .int .i64 a1, .string { data := #[] }, .int .i64 0, .int .i64 0, .int .i64 1, .int .i64 0, .int .i64 a2] 25))).cons ((Blk.new2 wy (.cells #[.int .u32 a0, .int .i64 a1, .string { data := #[] }, .int .i64 0, .int .i64 0, .int .i64 0, .int .i64 0, .int .i64 a2] 25) #[.int .u32 a0, .int .i64 a1, .string { data := #[120] }, .int .i64 0, .int .i64 0, .int .i64 0, .int .i64 0, .int .i64 a2] 25).alloc (.cells #[.int .u32 a0, .int .i64 a1, .string { data := #[] }, .int .i64 0, .int .i64 0, .int .i64 1, .int .i64 0, .int .i64 a2] 25)) |>.cons (Blk.new3 wy (.cells #[.int .u32 a0, .int .i64 a1, .string { data := #[] }, .int .i64 0, .int .i64 0, .int .i64 0, .int .i64 0, .int .i64 a2] 25) (.cells #[.int .u32 a0, .int .i64 a1, .string { data := #[120] }, .int .i64 0, .int .i64 0, .int .i64 0, .int .i64 0, .int .i64 a2] 25) #[.int .u32 a0, .int .i64 a1, .string { data := #[] }, .int .i64 0, .int .i64 0, .int .i64 1, .int .i64 0, .int .i64 a2] 25)); clear hx))
  refine wp_region_seq (S := HeldB W [((wy.heap.size + 1 + 1), #[.int .u32 a0, .int .i64 a1, .string { data := #[] }, .int .i64 0, .int .i64 0, .int .i64 1, .int .i64 0, .int .i64 a2], 25), ((wy.heap.size + 1), #[.int .u32 a0, .int .i64 a1, .string { data := #[120] }, .int .i64 0, .int .i64 0, .int .i64 0, .int .i64 0, .int .i64 a2], 25), (wy.heap.size, #[.int .u32 a0, .int .i64 a1, .string { data := #[] }, .int .i64 0, .int .i64 0, .int .i64 0, .int .i64 0, .int .i64 a2], 25)]) 40 (by kernel_rfl) (by kernel_rfl) H2.out.drew ?_
  simp only [List.take_succ_cons, List.take_zero, List.drop_succ_cons, List.drop_zero]
  refine wpHeld_val (v := ?vz2b0) (by rfl) ?yz2b0 ?rz2b0
  case yz2b0 => (intro wS hSw; go_simp; try (with_reducible rfl))
  try simp only [Act.put, List.setIfInBounds_toArray, List.set_cons_zero, List.set_cons_succ]
  refine wpHeld_val (v := ?vz2b1) (by rfl) ?yz2b1 ?rz2b1
  case yz2b1 => (intro wS hSw; go_simp; try (with_reducible rfl))
  try simp only [Act.put, List.setIfInBounds_toArray, List.set_cons_zero, List.set_cons_succ]
  refine wpHeld_val (v := ?vz2b2) (by rfl) ?yz2b2 ?rz2b2
  case yz2b2 => (intro wS hSw; obtain ⟨q0_0, q0_1, q0_2, q0_3, q0_4, q0_5, q0_6, q0_7⟩ := (hSw).b0.cells8; obtain ⟨q1_0, q1_1, q1_2, q1_3, q1_4, q1_5, q1_6, q1_7⟩ := (hSw).tl.b0.cells8; obtain ⟨q2_0, q2_1, q2_2, q2_3, q2_4, q2_5, q2_6, q2_7⟩ := (hSw).tl.tl.b0.cells8; go_simp; try (with_reducible rfl))
  try simp only [Act.put, List.setIfInBounds_toArray, List.set_cons_zero, List.set_cons_succ]
  refine wpHeld_val (v := ?vz2b3) (by rfl) ?yz2b3 ?rz2b3
  case yz2b3 => (intro wS hSw; go_simp; try (with_reducible rfl))
  try simp only [Act.put, List.setIfInBounds_toArray, List.set_cons_zero, List.set_cons_succ]
  refine wpHeld_val (v := ?vz2b4) (by rfl) ?yz2b4 ?rz2b4
  case yz2b4 => (intro wS hSw; go_simp; try (with_reducible rfl))
  try simp only [Act.put, List.setIfInBounds_toArray, List.set_cons_zero, List.set_cons_succ]
  refine wpHeld_val (v := ?vz2b5) (by rfl) ?yz2b5 ?rz2b5
  case yz2b5 => (intro wS hSw; go_simp; try (with_reducible rfl))
  try simp only [Act.put, List.setIfInBounds_toArray, List.set_cons_zero, List.set_cons_succ]
  refine wpHeld_run (.agg #[.int .u32 a0, .int .i64 a1, .string { data := #[] }, .int .i64 0, .int .i64 0, .int .i64 0, .int .i64 0, .int .i64 a2]) (by rfl) ?cz2b6 ?rz2b6
  case cz2b6 => (intro wS hSw K hK; go_simp; (go_at_call 15; (with_reducible refine (rbare_any _ _ _ _).mono ?_); rintro e w5 ⟨rfl, hx⟩); go_wp2_with fail; exact hK.out _ (hSw.keep hx))
  try simp only [Act.put, List.setIfInBounds_toArray, List.set_cons_zero, List.set_cons_succ]
  refine wpHeld_val (v := .bool true) (by rfl) ?yz2b7 ?rz2b7
  case yz2b7 => (intro wS hSw; go_simp; try (first | with_reducible rfl | (split <;> omega)))
  try simp only [Act.put, List.setIfInBounds_toArray, List.set_cons_zero, List.set_cons_succ]
  refine wpHeld_val (v := ?vz2b8) (by rfl) ?yz2b8 ?rz2b8
  case yz2b8 => (intro wS hSw; go_simp; try (with_reducible rfl))
  try simp only [Act.put, List.setIfInBounds_toArray, List.set_cons_zero, List.set_cons_succ]
  refine wpHeld_val (v := ?vz2b9) (by rfl) ?yz2b9 ?rz2b9
  case yz2b9 => (intro wS hSw; go_simp; try (with_reducible rfl))
  try simp only [Act.put, List.setIfInBounds_toArray, List.set_cons_zero, List.set_cons_succ]
  refine wpHeld_val (v := ?vz2b10) (by rfl) ?yz2b10 ?rz2b10
  case yz2b10 => (intro wS hSw; obtain ⟨q0_0, q0_1, q0_2, q0_3, q0_4, q0_5, q0_6, q0_7⟩ := (hSw).b0.cells8; obtain ⟨q1_0, q1_1, q1_2, q1_3, q1_4, q1_5, q1_6, q1_7⟩ := (hSw).tl.b0.cells8; obtain ⟨q2_0, q2_1, q2_2, q2_3, q2_4, q2_5, q2_6, q2_7⟩ := (hSw).tl.tl.b0.cells8; go_simp; try (with_reducible rfl))
  try simp only [Act.put, List.setIfInBounds_toArray, List.set_cons_zero, List.set_cons_succ]
  refine wpHeld_run (.bool (decide (RightP a1 { data := #[] } 0 0 0 0 a2))) (by rfl) ?cz2b11 ?rz2b11
  case cz2b11 => (intro wS hSw K hK; go_simp; (go_at_call 10; (with_reducible refine (right_any _ _ _ _ _ _ _ _ _).mono ?_); rintro e w5 ⟨rfl, hx⟩); go_wp2_with fail; exact hK.out _ (hSw.keep hx))
  try simp only [Act.put, List.setIfInBounds_toArray, List.set_cons_zero, List.set_cons_succ]
  refine wpHeld_val (v := ?vz2b12) (by rfl) ?yz2b12 ?rz2b12
  case yz2b12 => (intro wS hSw; go_simp; try (with_reducible rfl))
  try simp only [Act.put, List.setIfInBounds_toArray, List.set_cons_zero, List.set_cons_succ]
  refine wpHeld_val (v := .bool true) (by rfl) ?yz2b13 ?rz2b13
  case yz2b13 => (intro wS hSw; go_simp; try ((have hb := HB.out; have hv := HV.out; unfold RightP okT; rw [sz0]; omega)))
  try simp only [Act.put, List.setIfInBounds_toArray, List.set_cons_zero, List.set_cons_succ]
  refine wpHeld_val (v := ?vz2b14) (by rfl) ?yz2b14 ?rz2b14
  case yz2b14 => (intro wS hSw; go_simp; try (with_reducible rfl))
  try simp only [Act.put, List.setIfInBounds_toArray, List.set_cons_zero, List.set_cons_succ]
  refine wpHeld_val (v := ?vz2b15) (by rfl) ?yz2b15 ?rz2b15
  case yz2b15 => (intro wS hSw; go_simp; try (with_reducible rfl))
  try simp only [Act.put, List.setIfInBounds_toArray, List.set_cons_zero, List.set_cons_succ]
  refine wpHeld_val (v := ?vz2b16) (by rfl) ?yz2b16 ?rz2b16
  case yz2b16 => (intro wS hSw; obtain ⟨q0_0, q0_1, q0_2, q0_3, q0_4, q0_5, q0_6, q0_7⟩ := (hSw).b0.cells8; obtain ⟨q1_0, q1_1, q1_2, q1_3, q1_4, q1_5, q1_6, q1_7⟩ := (hSw).tl.b0.cells8; obtain ⟨q2_0, q2_1, q2_2, q2_3, q2_4, q2_5, q2_6, q2_7⟩ := (hSw).tl.tl.b0.cells8; go_simp; try (with_reducible rfl))
  try simp only [Act.put, List.setIfInBounds_toArray, List.set_cons_zero, List.set_cons_succ]
  refine wpHeld_run (.int .i64 0) (by rfl) ?cz2b17 ?rz2b17
  case cz2b17 => (intro wS hSw K hK; go_simp; (go_at_call 12; (with_reducible refine (over_any _ _ _ _ _ _ _ _ _).mono ?_); rintro e w5 ⟨rfl, hx⟩); go_wp2_with fail; exact hK.out _ (hSw.keep hx))
  try simp only [Act.put, List.setIfInBounds_toArray, List.set_cons_zero, List.set_cons_succ]
  refine wpHeld_val (v := .bool true) (by rfl) ?yz2b18 ?rz2b18
  case yz2b18 => (intro wS hSw; go_simp; try (first | with_reducible rfl | (split <;> omega)))
  try simp only [Act.put, List.setIfInBounds_toArray, List.set_cons_zero, List.set_cons_succ]
  refine wpHeld_val (v := ?vz2b19) (by rfl) ?yz2b19 ?rz2b19
  case yz2b19 => (intro wS hSw; go_simp; try (with_reducible rfl))
  try simp only [Act.put, List.setIfInBounds_toArray, List.set_cons_zero, List.set_cons_succ]
  refine wpHeld_val (v := ?vz2b20) (by rfl) ?yz2b20 ?rz2b20
  case yz2b20 => (intro wS hSw; go_simp; try (with_reducible rfl))
  try simp only [Act.put, List.setIfInBounds_toArray, List.set_cons_zero, List.set_cons_succ]
  refine wpHeld_val (v := ?vz2b21) (by rfl) ?yz2b21 ?rz2b21
  case yz2b21 => (intro wS hSw; obtain ⟨q0_0, q0_1, q0_2, q0_3, q0_4, q0_5, q0_6, q0_7⟩ := (hSw).b0.cells8; obtain ⟨q1_0, q1_1, q1_2, q1_3, q1_4, q1_5, q1_6, q1_7⟩ := (hSw).tl.b0.cells8; obtain ⟨q2_0, q2_1, q2_2, q2_3, q2_4, q2_5, q2_6, q2_7⟩ := (hSw).tl.tl.b0.cells8; go_simp; try (with_reducible rfl))
  try simp only [Act.put, List.setIfInBounds_toArray, List.set_cons_zero, List.set_cons_succ]
  refine wpHeld_run (.bool (decide (RightP a1 { data := #[120] } 0 0 0 0 a2))) (by rfl) ?cz2b22 ?rz2b22
  case cz2b22 => (intro wS hSw K hK; go_simp; (go_at_call 10; (with_reducible refine (right_any _ _ _ _ _ _ _ _ _).mono ?_); rintro e w5 ⟨rfl, hx⟩); go_wp2_with fail; exact hK.out _ (hSw.keep hx))
  try simp only [Act.put, List.setIfInBounds_toArray, List.set_cons_zero, List.set_cons_succ]
  refine wpHeld_val (v := ?vz2b23) (by rfl) ?yz2b23 ?rz2b23
  case yz2b23 => (intro wS hSw; go_simp; try (with_reducible rfl))
  try simp only [Act.put, List.setIfInBounds_toArray, List.set_cons_zero, List.set_cons_succ]
  refine wpHeld_val (v := ?vz2b24) (by rfl) ?yz2b24 ?rz2b24
  case yz2b24 => (intro wS hSw; go_simp; try (with_reducible rfl))
  try simp only [Act.put, List.setIfInBounds_toArray, List.set_cons_zero, List.set_cons_succ]
  refine wpHeld_val (v := ?vz2b25) (by rfl) ?yz2b25 ?rz2b25
  case yz2b25 => (intro wS hSw; go_simp; try (with_reducible rfl))
  try simp only [Act.put, List.setIfInBounds_toArray, List.set_cons_zero, List.set_cons_succ]
  refine wpHeld_val (v := ?vz2b26) (by rfl) ?yz2b26 ?rz2b26
  case yz2b26 => (intro wS hSw; go_simp; try (with_reducible rfl))
  try simp only [Act.put, List.setIfInBounds_toArray, List.set_cons_zero, List.set_cons_succ]
  refine wpHeld_val (v := ?vz2b27) (by rfl) ?yz2b27 ?rz2b27
  case yz2b27 => (intro wS hSw; go_simp; try (with_reducible rfl))
  try simp only [Act.put, List.setIfInBounds_toArray, List.set_cons_zero, List.set_cons_succ]
  refine wpHeld_val (v := ?vz2b28) (by rfl) ?yz2b28 ?rz2b28
  case yz2b28 => (intro wS hSw; go_simp; try (with_reducible rfl))
  try simp only [Act.put, List.setIfInBounds_toArray, List.set_cons_zero, List.set_cons_succ]
  refine wpHeld_val (v := ?vz2b29) (by rfl) ?yz2b29 ?rz2b29
  case yz2b29 => (intro wS hSw; go_simp; try (with_reducible rfl))
  try simp only [Act.put, List.setIfInBounds_toArray, List.set_cons_zero, List.set_cons_succ]
  refine wpHeld_val (v := ?vz2b30) (by rfl) ?yz2b30 ?rz2b30
  case yz2b30 => (intro wS hSw; go_simp; try (with_reducible rfl))
  try simp only [Act.put, List.setIfInBounds_toArray, List.set_cons_zero, List.set_cons_succ]
  refine wpHeld_val (v := ?vz2b31) (by rfl) ?yz2b31 ?rz2b31
  case yz2b31 => (intro wS hSw; go_simp; try (with_reducible rfl))
  try simp only [Act.put, List.setIfInBounds_toArray, List.set_cons_zero, List.set_cons_succ]
  refine wpHeld_val (v := .bool true) (by rfl) ?yz2b32 ?rz2b32
  case yz2b32 => (intro wS hSw; go_simp; try ((have hb := HB.out; have hv := HV.out; unfold RightP okT; rw [sz1]; omega)))
  try simp only [Act.put, List.setIfInBounds_toArray, List.set_cons_zero, List.set_cons_succ]
  refine wpHeld_val (v := ?vz2b33) (by rfl) ?yz2b33 ?rz2b33
  case yz2b33 => (intro wS hSw; go_simp; try (with_reducible rfl))
  try simp only [Act.put, List.setIfInBounds_toArray, List.set_cons_zero, List.set_cons_succ]
  refine wpHeld_val (v := ?vz2b34) (by rfl) ?yz2b34 ?rz2b34
  case yz2b34 => (intro wS hSw; go_simp; try (with_reducible rfl))
  try simp only [Act.put, List.setIfInBounds_toArray, List.set_cons_zero, List.set_cons_succ]
  refine wpHeld_val (v := ?vz2b35) (by rfl) ?yz2b35 ?rz2b35
  case yz2b35 => (intro wS hSw; obtain ⟨q0_0, q0_1, q0_2, q0_3, q0_4, q0_5, q0_6, q0_7⟩ := (hSw).b0.cells8; obtain ⟨q1_0, q1_1, q1_2, q1_3, q1_4, q1_5, q1_6, q1_7⟩ := (hSw).tl.b0.cells8; obtain ⟨q2_0, q2_1, q2_2, q2_3, q2_4, q2_5, q2_6, q2_7⟩ := (hSw).tl.tl.b0.cells8; go_simp; try (with_reducible rfl))
  try simp only [Act.put, List.setIfInBounds_toArray, List.set_cons_zero, List.set_cons_succ]
  refine wpHeld_run (.bool (decide (RightP a1 { data := #[] } 0 0 1 0 a2))) (by rfl) ?cz2b36 ?rz2b36
  case cz2b36 => (intro wS hSw K hK; go_simp; (go_at_call 10; (with_reducible refine (right_any _ _ _ _ _ _ _ _ _).mono ?_); rintro e w5 ⟨rfl, hx⟩); go_wp2_with fail; exact hK.out _ (hSw.keep hx))
  try simp only [Act.put, List.setIfInBounds_toArray, List.set_cons_zero, List.set_cons_succ]
  refine wpHeld_val (v := .bool true) (by rfl) ?yz2b37 ?rz2b37
  case yz2b37 => (intro wS hSw; go_simp; try ((have hb := HB.out; have hv := HV.out; unfold RightP okT; rw [sz0]; omega)))
  try simp only [Act.put, List.setIfInBounds_toArray, List.set_cons_zero, List.set_cons_succ]
  refine wpHeld_val (v := ?vz2b38) (by rfl) ?yz2b38 ?rz2b38
  case yz2b38 => (intro wS hSw; go_simp; try (with_reducible rfl))
  try simp only [Act.put, List.setIfInBounds_toArray, List.set_cons_zero, List.set_cons_succ]
  refine wpHeld_val (v := ?vz2b39) (by rfl) ?yz2b39 ?rz2b39
  case yz2b39 => (intro wS hSw; go_simp; try (with_reducible rfl))
  try simp only [Act.put, List.setIfInBounds_toArray, List.set_cons_zero, List.set_cons_succ]
  refine wpHeld_nil ?_
  intro wS hSw
  go_wp2
  go_ret
  exact ⟨rfl, hSw.2⟩

set_option maxRecDepth 100000 in
set_option maxHeartbeats 1000000 in
theorem bare_3n (a0 : Int) (a1 : Int) (a2 : Int) (W : World) (w0 : (Lit.int .u32 a0).wf = true) (w1 : (Lit.int .i64 a1).wf = true) (w2 : (Lit.int .i64 a2).wf = true) (hb : a1 = 3) (hv : a2 < 0) :
    Calls Try.prog 4 #[.int .u32 a0, .int .i64 a1, .int .i64 a2] W fun e w' => e = .returned (.bool true) ∧ Below W.heap.size W w' := by
  have HB := Lib.hid hb
  have HV := Lib.hid hv
  have k0 : (a1 == 0) = false := beq_eq_false_iff_ne.2 (by omega)
  have k1 : (a1 == 1) = false := beq_eq_false_iff_ne.2 (by omega)
  have k2 : (a1 == 2) = false := beq_eq_false_iff_ne.2 (by omega)
  have k3 : (a1 == 3) = true := beq_iff_eq.2 (by omega)
  have k4 : (a1 == 4) = false := beq_eq_false_iff_ne.2 (by omega)
  have k5 : (a1 == 5) = false := beq_eq_false_iff_ne.2 (by omega)
  clear hb
  skip
  have h0 : decide (0 ≤ a2) = false := decide_eq_false (by omega)
  go_enter Try.func4, Try.ntmps4
  go_upto_region 9 with (first | (go_at_call 7; (with_reducible refine (awake_any _).mono ?_); rintro e w1 ⟨rfl, hx⟩; have H1 := Lib.hid hx; clear hx) | (go_at_call 14; (with_reducible refine (bare_any _ _ _ _).mono ?_); rintro e wy ⟨rfl, hx⟩; have H2 := Lib.hid (((HeldB.nil (lowA (lowA (lowA (low H1.out hx) (.cells #[.int .u32 a0, .int .i64 a1, .string { data := #[] }, .int .i64 0, .int .i64 0, .int .i64 0, .int .i64 0, .int .i64 a2] 25)) (.cells #[.int .u32 a0, .int .i64 a1, .string { data := #[120] }, .int .i64 0, .int .i64 0, .int .i64 0, .int .i64 0, .int .i64 a2] 25)) (.cells #[.int .u32 a0, .int .i64 a1, .string { data := #[] }, .int .i64 0, .int .i64 0, .int .i64 1, .int .i64 0, .int .i64 a2] 25))).cons (((Blk.new wy #[.int .u32 a0, .int .i64 a1, .string { data := #[] }, .int .i64 0, .int .i64 0, .int .i64 0, .int .i64 0, .int .i64 a2] 25).alloc (.cells #[.int .u32 a0, .int .i64 a1, .string { data := #[120] }, .int .i64 0, .int .i64 0, .int .i64 0, .int .i64 0, .int .i64 a2] 25)).alloc (.cells #[.int .u32 a0, .int .i64 a1, .string { data := #[] }, .int .i64 0, .int .i64 0, .int .i64 1, .int .i64 0, .int .i64 a2] 25))).cons ((Blk.new2 wy (.cells #[.int .u32 a0, .int .i64 a1, .string { data := #[] }, .int .i64 0, .int .i64 0, .int .i64 0, .int .i64 0, .int .i64 a2] 25) #[.int .u32 a0, .int .i64 a1, .string { data := #[120] }, .int .i64 0, .int .i64 0, .int .i64 0, .int .i64 0, .int .i64 a2] 25).alloc (.cells #[.int .u32 a0, .int .i64 a1, .string { data := #[] }, .int .i64 0, .int .i64 0, .int .i64 1, .int .i64 0, .int .i64 a2] 25)) |>.cons (Blk.new3 wy (.cells #[.int .u32 a0, .int .i64 a1, .string { data := #[] }, .int .i64 0, .int .i64 0, .int .i64 0, .int .i64 0, .int .i64 a2] 25) (.cells #[.int .u32 a0, .int .i64 a1, .string { data := #[120] }, .int .i64 0, .int .i64 0, .int .i64 0, .int .i64 0, .int .i64 a2] 25) #[.int .u32 a0, .int .i64 a1, .string { data := #[] }, .int .i64 0, .int .i64 0, .int .i64 1, .int .i64 0, .int .i64 a2] 25)); clear hx))
  refine wp_region_seq (S := HeldB W [((wy.heap.size + 1 + 1), #[.int .u32 a0, .int .i64 a1, .string { data := #[] }, .int .i64 0, .int .i64 0, .int .i64 1, .int .i64 0, .int .i64 a2], 25), ((wy.heap.size + 1), #[.int .u32 a0, .int .i64 a1, .string { data := #[120] }, .int .i64 0, .int .i64 0, .int .i64 0, .int .i64 0, .int .i64 a2], 25), (wy.heap.size, #[.int .u32 a0, .int .i64 a1, .string { data := #[] }, .int .i64 0, .int .i64 0, .int .i64 0, .int .i64 0, .int .i64 a2], 25)]) 40 (by kernel_rfl) (by kernel_rfl) H2.out.drew ?_
  simp only [List.take_succ_cons, List.take_zero, List.drop_succ_cons, List.drop_zero]
  refine wpHeld_val (v := ?vz3n0) (by rfl) ?yz3n0 ?rz3n0
  case yz3n0 => (intro wS hSw; go_simp; try (with_reducible rfl))
  try simp only [Act.put, List.setIfInBounds_toArray, List.set_cons_zero, List.set_cons_succ]
  refine wpHeld_val (v := ?vz3n1) (by rfl) ?yz3n1 ?rz3n1
  case yz3n1 => (intro wS hSw; go_simp; try (with_reducible rfl))
  try simp only [Act.put, List.setIfInBounds_toArray, List.set_cons_zero, List.set_cons_succ]
  refine wpHeld_val (v := ?vz3n2) (by rfl) ?yz3n2 ?rz3n2
  case yz3n2 => (intro wS hSw; obtain ⟨q0_0, q0_1, q0_2, q0_3, q0_4, q0_5, q0_6, q0_7⟩ := (hSw).b0.cells8; obtain ⟨q1_0, q1_1, q1_2, q1_3, q1_4, q1_5, q1_6, q1_7⟩ := (hSw).tl.b0.cells8; obtain ⟨q2_0, q2_1, q2_2, q2_3, q2_4, q2_5, q2_6, q2_7⟩ := (hSw).tl.tl.b0.cells8; go_simp; try (with_reducible rfl))
  try simp only [Act.put, List.setIfInBounds_toArray, List.set_cons_zero, List.set_cons_succ]
  refine wpHeld_val (v := ?vz3n3) (by rfl) ?yz3n3 ?rz3n3
  case yz3n3 => (intro wS hSw; go_simp; try (with_reducible rfl))
  try simp only [Act.put, List.setIfInBounds_toArray, List.set_cons_zero, List.set_cons_succ]
  refine wpHeld_val (v := ?vz3n4) (by rfl) ?yz3n4 ?rz3n4
  case yz3n4 => (intro wS hSw; go_simp; try (with_reducible rfl))
  try simp only [Act.put, List.setIfInBounds_toArray, List.set_cons_zero, List.set_cons_succ]
  refine wpHeld_val (v := ?vz3n5) (by rfl) ?yz3n5 ?rz3n5
  case yz3n5 => (intro wS hSw; go_simp; try (with_reducible rfl))
  try simp only [Act.put, List.setIfInBounds_toArray, List.set_cons_zero, List.set_cons_succ]
  refine wpHeld_run (.agg #[.int .u32 a0, .int .i64 a1, .string { data := #[] }, .int .i64 0, .int .i64 0, .int .i64 0, .int .i64 0, .int .i64 a2]) (by rfl) ?cz3n6 ?rz3n6
  case cz3n6 => (intro wS hSw K hK; go_simp; (go_at_call 15; (with_reducible refine (rbare_any _ _ _ _).mono ?_); rintro e w5 ⟨rfl, hx⟩); go_wp2_with fail; exact hK.out _ (hSw.keep hx))
  try simp only [Act.put, List.setIfInBounds_toArray, List.set_cons_zero, List.set_cons_succ]
  refine wpHeld_val (v := .bool true) (by rfl) ?yz3n7 ?rz3n7
  case yz3n7 => (intro wS hSw; go_simp; try (first | with_reducible rfl | (split <;> omega)))
  try simp only [Act.put, List.setIfInBounds_toArray, List.set_cons_zero, List.set_cons_succ]
  refine wpHeld_val (v := ?vz3n8) (by rfl) ?yz3n8 ?rz3n8
  case yz3n8 => (intro wS hSw; go_simp; try (with_reducible rfl))
  try simp only [Act.put, List.setIfInBounds_toArray, List.set_cons_zero, List.set_cons_succ]
  refine wpHeld_val (v := ?vz3n9) (by rfl) ?yz3n9 ?rz3n9
  case yz3n9 => (intro wS hSw; go_simp; try (with_reducible rfl))
  try simp only [Act.put, List.setIfInBounds_toArray, List.set_cons_zero, List.set_cons_succ]
  refine wpHeld_val (v := ?vz3n10) (by rfl) ?yz3n10 ?rz3n10
  case yz3n10 => (intro wS hSw; obtain ⟨q0_0, q0_1, q0_2, q0_3, q0_4, q0_5, q0_6, q0_7⟩ := (hSw).b0.cells8; obtain ⟨q1_0, q1_1, q1_2, q1_3, q1_4, q1_5, q1_6, q1_7⟩ := (hSw).tl.b0.cells8; obtain ⟨q2_0, q2_1, q2_2, q2_3, q2_4, q2_5, q2_6, q2_7⟩ := (hSw).tl.tl.b0.cells8; go_simp; try (with_reducible rfl))
  try simp only [Act.put, List.setIfInBounds_toArray, List.set_cons_zero, List.set_cons_succ]
  refine wpHeld_run (.bool (decide (RightP a1 { data := #[] } 0 0 0 0 a2))) (by rfl) ?cz3n11 ?rz3n11
  case cz3n11 => (intro wS hSw K hK; go_simp; (go_at_call 10; (with_reducible refine (right_any _ _ _ _ _ _ _ _ _).mono ?_); rintro e w5 ⟨rfl, hx⟩); go_wp2_with fail; exact hK.out _ (hSw.keep hx))
  try simp only [Act.put, List.setIfInBounds_toArray, List.set_cons_zero, List.set_cons_succ]
  refine wpHeld_val (v := ?vz3n12) (by rfl) ?yz3n12 ?rz3n12
  case yz3n12 => (intro wS hSw; go_simp; try (with_reducible rfl))
  try simp only [Act.put, List.setIfInBounds_toArray, List.set_cons_zero, List.set_cons_succ]
  refine wpHeld_val (v := .bool true) (by rfl) ?yz3n13 ?rz3n13
  case yz3n13 => (intro wS hSw; go_simp; try ((have hb := HB.out; have hv := HV.out; unfold RightP okT; rw [sz0]; omega)))
  try simp only [Act.put, List.setIfInBounds_toArray, List.set_cons_zero, List.set_cons_succ]
  refine wpHeld_val (v := ?vz3n14) (by rfl) ?yz3n14 ?rz3n14
  case yz3n14 => (intro wS hSw; go_simp; try (with_reducible rfl))
  try simp only [Act.put, List.setIfInBounds_toArray, List.set_cons_zero, List.set_cons_succ]
  refine wpHeld_val (v := ?vz3n15) (by rfl) ?yz3n15 ?rz3n15
  case yz3n15 => (intro wS hSw; go_simp; try (with_reducible rfl))
  try simp only [Act.put, List.setIfInBounds_toArray, List.set_cons_zero, List.set_cons_succ]
  refine wpHeld_val (v := ?vz3n16) (by rfl) ?yz3n16 ?rz3n16
  case yz3n16 => (intro wS hSw; obtain ⟨q0_0, q0_1, q0_2, q0_3, q0_4, q0_5, q0_6, q0_7⟩ := (hSw).b0.cells8; obtain ⟨q1_0, q1_1, q1_2, q1_3, q1_4, q1_5, q1_6, q1_7⟩ := (hSw).tl.b0.cells8; obtain ⟨q2_0, q2_1, q2_2, q2_3, q2_4, q2_5, q2_6, q2_7⟩ := (hSw).tl.tl.b0.cells8; go_simp; try (with_reducible rfl))
  try simp only [Act.put, List.setIfInBounds_toArray, List.set_cons_zero, List.set_cons_succ]
  refine wpHeld_run (.int .i64 0) (by rfl) ?cz3n17 ?rz3n17
  case cz3n17 => (intro wS hSw K hK; go_simp; (go_at_call 12; (with_reducible refine (over_any _ _ _ _ _ _ _ _ _).mono ?_); rintro e w5 ⟨rfl, hx⟩); go_wp2_with fail; exact hK.out _ (hSw.keep hx))
  try simp only [Act.put, List.setIfInBounds_toArray, List.set_cons_zero, List.set_cons_succ]
  refine wpHeld_val (v := .bool true) (by rfl) ?yz3n18 ?rz3n18
  case yz3n18 => (intro wS hSw; go_simp; try (first | with_reducible rfl | (split <;> omega)))
  try simp only [Act.put, List.setIfInBounds_toArray, List.set_cons_zero, List.set_cons_succ]
  refine wpHeld_val (v := ?vz3n19) (by rfl) ?yz3n19 ?rz3n19
  case yz3n19 => (intro wS hSw; go_simp; try (with_reducible rfl))
  try simp only [Act.put, List.setIfInBounds_toArray, List.set_cons_zero, List.set_cons_succ]
  refine wpHeld_val (v := ?vz3n20) (by rfl) ?yz3n20 ?rz3n20
  case yz3n20 => (intro wS hSw; go_simp; try (with_reducible rfl))
  try simp only [Act.put, List.setIfInBounds_toArray, List.set_cons_zero, List.set_cons_succ]
  refine wpHeld_val (v := ?vz3n21) (by rfl) ?yz3n21 ?rz3n21
  case yz3n21 => (intro wS hSw; obtain ⟨q0_0, q0_1, q0_2, q0_3, q0_4, q0_5, q0_6, q0_7⟩ := (hSw).b0.cells8; obtain ⟨q1_0, q1_1, q1_2, q1_3, q1_4, q1_5, q1_6, q1_7⟩ := (hSw).tl.b0.cells8; obtain ⟨q2_0, q2_1, q2_2, q2_3, q2_4, q2_5, q2_6, q2_7⟩ := (hSw).tl.tl.b0.cells8; go_simp; try (with_reducible rfl))
  try simp only [Act.put, List.setIfInBounds_toArray, List.set_cons_zero, List.set_cons_succ]
  refine wpHeld_run (.bool (decide (RightP a1 { data := #[120] } 0 0 0 0 a2))) (by rfl) ?cz3n22 ?rz3n22
  case cz3n22 => (intro wS hSw K hK; go_simp; (go_at_call 10; (with_reducible refine (right_any _ _ _ _ _ _ _ _ _).mono ?_); rintro e w5 ⟨rfl, hx⟩); go_wp2_with fail; exact hK.out _ (hSw.keep hx))
  try simp only [Act.put, List.setIfInBounds_toArray, List.set_cons_zero, List.set_cons_succ]
  refine wpHeld_val (v := ?vz3n23) (by rfl) ?yz3n23 ?rz3n23
  case yz3n23 => (intro wS hSw; go_simp; try (with_reducible rfl))
  try simp only [Act.put, List.setIfInBounds_toArray, List.set_cons_zero, List.set_cons_succ]
  refine wpHeld_val (v := ?vz3n24) (by rfl) ?yz3n24 ?rz3n24
  case yz3n24 => (intro wS hSw; go_simp; try (with_reducible rfl))
  try simp only [Act.put, List.setIfInBounds_toArray, List.set_cons_zero, List.set_cons_succ]
  refine wpHeld_val (v := ?vz3n25) (by rfl) ?yz3n25 ?rz3n25
  case yz3n25 => (intro wS hSw; go_simp; try (with_reducible rfl))
  try simp only [Act.put, List.setIfInBounds_toArray, List.set_cons_zero, List.set_cons_succ]
  refine wpHeld_val (v := ?vz3n26) (by rfl) ?yz3n26 ?rz3n26
  case yz3n26 => (intro wS hSw; go_simp; try (with_reducible rfl))
  try simp only [Act.put, List.setIfInBounds_toArray, List.set_cons_zero, List.set_cons_succ]
  refine wpHeld_val (v := ?vz3n27) (by rfl) ?yz3n27 ?rz3n27
  case yz3n27 => (intro wS hSw; go_simp; try (with_reducible rfl))
  try simp only [Act.put, List.setIfInBounds_toArray, List.set_cons_zero, List.set_cons_succ]
  refine wpHeld_val (v := ?vz3n28) (by rfl) ?yz3n28 ?rz3n28
  case yz3n28 => (intro wS hSw; go_simp; try (with_reducible rfl))
  try simp only [Act.put, List.setIfInBounds_toArray, List.set_cons_zero, List.set_cons_succ]
  refine wpHeld_skip (by rfl) ?_
  try simp only [Act.put, List.setIfInBounds_toArray, List.set_cons_zero, List.set_cons_succ]
  refine wpHeld_skip (by rfl) ?_
  try simp only [Act.put, List.setIfInBounds_toArray, List.set_cons_zero, List.set_cons_succ]
  refine wpHeld_val (v := ?vz3n31) (by rfl) ?yz3n31 ?rz3n31
  case yz3n31 => (intro wS hSw; go_simp; try (with_reducible rfl))
  try simp only [Act.put, List.setIfInBounds_toArray, List.set_cons_zero, List.set_cons_succ]
  refine wpHeld_val (v := .bool true) (by rfl) ?yz3n32 ?rz3n32
  case yz3n32 => (intro wS hSw; go_simp; try ((have hb := HB.out; have hv := HV.out; unfold RightP okT; rw [sz1]; omega)))
  try simp only [Act.put, List.setIfInBounds_toArray, List.set_cons_zero, List.set_cons_succ]
  refine wpHeld_val (v := ?vz3n33) (by rfl) ?yz3n33 ?rz3n33
  case yz3n33 => (intro wS hSw; go_simp; try (with_reducible rfl))
  try simp only [Act.put, List.setIfInBounds_toArray, List.set_cons_zero, List.set_cons_succ]
  refine wpHeld_val (v := ?vz3n34) (by rfl) ?yz3n34 ?rz3n34
  case yz3n34 => (intro wS hSw; go_simp; try (with_reducible rfl))
  try simp only [Act.put, List.setIfInBounds_toArray, List.set_cons_zero, List.set_cons_succ]
  refine wpHeld_val (v := ?vz3n35) (by rfl) ?yz3n35 ?rz3n35
  case yz3n35 => (intro wS hSw; obtain ⟨q0_0, q0_1, q0_2, q0_3, q0_4, q0_5, q0_6, q0_7⟩ := (hSw).b0.cells8; obtain ⟨q1_0, q1_1, q1_2, q1_3, q1_4, q1_5, q1_6, q1_7⟩ := (hSw).tl.b0.cells8; obtain ⟨q2_0, q2_1, q2_2, q2_3, q2_4, q2_5, q2_6, q2_7⟩ := (hSw).tl.tl.b0.cells8; go_simp; try (with_reducible rfl))
  try simp only [Act.put, List.setIfInBounds_toArray, List.set_cons_zero, List.set_cons_succ]
  refine wpHeld_run (.bool (decide (RightP a1 { data := #[] } 0 0 1 0 a2))) (by rfl) ?cz3n36 ?rz3n36
  case cz3n36 => (intro wS hSw K hK; go_simp; (go_at_call 10; (with_reducible refine (right_any _ _ _ _ _ _ _ _ _).mono ?_); rintro e w5 ⟨rfl, hx⟩); go_wp2_with fail; exact hK.out _ (hSw.keep hx))
  try simp only [Act.put, List.setIfInBounds_toArray, List.set_cons_zero, List.set_cons_succ]
  refine wpHeld_val (v := .bool true) (by rfl) ?yz3n37 ?rz3n37
  case yz3n37 => (intro wS hSw; go_simp; try ((have hb := HB.out; have hv := HV.out; unfold RightP okT; rw [sz0]; omega)))
  try simp only [Act.put, List.setIfInBounds_toArray, List.set_cons_zero, List.set_cons_succ]
  refine wpHeld_val (v := ?vz3n38) (by rfl) ?yz3n38 ?rz3n38
  case yz3n38 => (intro wS hSw; go_simp; try (with_reducible rfl))
  try simp only [Act.put, List.setIfInBounds_toArray, List.set_cons_zero, List.set_cons_succ]
  refine wpHeld_val (v := ?vz3n39) (by rfl) ?yz3n39 ?rz3n39
  case yz3n39 => (intro wS hSw; go_simp; try (with_reducible rfl))
  try simp only [Act.put, List.setIfInBounds_toArray, List.set_cons_zero, List.set_cons_succ]
  refine wpHeld_nil ?_
  intro wS hSw
  go_wp2
  go_ret
  exact ⟨rfl, hSw.2⟩

set_option maxRecDepth 100000 in
set_option maxHeartbeats 1000000 in
theorem bare_3i (a0 : Int) (a1 : Int) (a2 : Int) (W : World) (w0 : (Lit.int .u32 a0).wf = true) (w1 : (Lit.int .i64 a1).wf = true) (w2 : (Lit.int .i64 a2).wf = true) (hb : a1 = 3) (hv : 0 ≤ a2 ∧ a2 ≤ 1099511627776) :
    Calls Try.prog 4 #[.int .u32 a0, .int .i64 a1, .int .i64 a2] W fun e w' => e = .returned (.bool true) ∧ Below W.heap.size W w' := by
  have HB := Lib.hid hb
  have HV := Lib.hid hv
  have k0 : (a1 == 0) = false := beq_eq_false_iff_ne.2 (by omega)
  have k1 : (a1 == 1) = false := beq_eq_false_iff_ne.2 (by omega)
  have k2 : (a1 == 2) = false := beq_eq_false_iff_ne.2 (by omega)
  have k3 : (a1 == 3) = true := beq_iff_eq.2 (by omega)
  have k4 : (a1 == 4) = false := beq_eq_false_iff_ne.2 (by omega)
  have k5 : (a1 == 5) = false := beq_eq_false_iff_ne.2 (by omega)
  clear hb
  obtain ⟨hv1, hv2⟩ := hv
  have h0 : decide (0 ≤ a2) = true := decide_eq_true (by omega)
  have hM : decide (a2 ≤ 1099511627776) = true := decide_eq_true (by omega)
  go_enter Try.func4, Try.ntmps4
  go_upto_region 9 with (first | (go_at_call 7; (with_reducible refine (awake_any _).mono ?_); rintro e w1 ⟨rfl, hx⟩; have H1 := Lib.hid hx; clear hx) | (go_at_call 14; (with_reducible refine (bare_any _ _ _ _).mono ?_); rintro e wy ⟨rfl, hx⟩; have H2 := Lib.hid (((HeldB.nil (lowA (lowA (lowA (low H1.out hx) (.cells #[.int .u32 a0, .int .i64 a1, .string { data := #[] }, .int .i64 0, .int .i64 0, .int .i64 0, .int .i64 0, .int .i64 a2] 25)) (.cells #[.int .u32 a0, .int .i64 a1, .string { data := #[120] }, .int .i64 0, .int .i64 0, .int .i64 0, .int .i64 0, .int .i64 a2] 25)) (.cells #[.int .u32 a0, .int .i64 a1, .string { data := #[] }, .int .i64 0, .int .i64 0, .int .i64 1, .int .i64 0, .int .i64 a2] 25))).cons (((Blk.new wy #[.int .u32 a0, .int .i64 a1, .string { data := #[] }, .int .i64 0, .int .i64 0, .int .i64 0, .int .i64 0, .int .i64 a2] 25).alloc (.cells #[.int .u32 a0, .int .i64 a1, .string { data := #[120] }, .int .i64 0, .int .i64 0, .int .i64 0, .int .i64 0, .int .i64 a2] 25)).alloc (.cells #[.int .u32 a0, .int .i64 a1, .string { data := #[] }, .int .i64 0, .int .i64 0, .int .i64 1, .int .i64 0, .int .i64 a2] 25))).cons ((Blk.new2 wy (.cells #[.int .u32 a0, .int .i64 a1, .string { data := #[] }, .int .i64 0, .int .i64 0, .int .i64 0, .int .i64 0, .int .i64 a2] 25) #[.int .u32 a0, .int .i64 a1, .string { data := #[120] }, .int .i64 0, .int .i64 0, .int .i64 0, .int .i64 0, .int .i64 a2] 25).alloc (.cells #[.int .u32 a0, .int .i64 a1, .string { data := #[] }, .int .i64 0, .int .i64 0, .int .i64 1, .int .i64 0, .int .i64 a2] 25)) |>.cons (Blk.new3 wy (.cells #[.int .u32 a0, .int .i64 a1, .string { data := #[] }, .int .i64 0, .int .i64 0, .int .i64 0, .int .i64 0, .int .i64 a2] 25) (.cells #[.int .u32 a0, .int .i64 a1, .string { data := #[120] }, .int .i64 0, .int .i64 0, .int .i64 0, .int .i64 0, .int .i64 a2] 25) #[.int .u32 a0, .int .i64 a1, .string { data := #[] }, .int .i64 0, .int .i64 0, .int .i64 1, .int .i64 0, .int .i64 a2] 25)); clear hx))
  refine wp_region_seq (S := HeldB W [((wy.heap.size + 1 + 1), #[.int .u32 a0, .int .i64 a1, .string { data := #[] }, .int .i64 0, .int .i64 0, .int .i64 1, .int .i64 0, .int .i64 a2], 25), ((wy.heap.size + 1), #[.int .u32 a0, .int .i64 a1, .string { data := #[120] }, .int .i64 0, .int .i64 0, .int .i64 0, .int .i64 0, .int .i64 a2], 25), (wy.heap.size, #[.int .u32 a0, .int .i64 a1, .string { data := #[] }, .int .i64 0, .int .i64 0, .int .i64 0, .int .i64 0, .int .i64 a2], 25)]) 40 (by kernel_rfl) (by kernel_rfl) H2.out.drew ?_
  simp only [List.take_succ_cons, List.take_zero, List.drop_succ_cons, List.drop_zero]
  refine wpHeld_val (v := ?vz3i0) (by rfl) ?yz3i0 ?rz3i0
  case yz3i0 => (intro wS hSw; go_simp; try (with_reducible rfl))
  try simp only [Act.put, List.setIfInBounds_toArray, List.set_cons_zero, List.set_cons_succ]
  refine wpHeld_val (v := ?vz3i1) (by rfl) ?yz3i1 ?rz3i1
  case yz3i1 => (intro wS hSw; go_simp; try (with_reducible rfl))
  try simp only [Act.put, List.setIfInBounds_toArray, List.set_cons_zero, List.set_cons_succ]
  refine wpHeld_val (v := ?vz3i2) (by rfl) ?yz3i2 ?rz3i2
  case yz3i2 => (intro wS hSw; obtain ⟨q0_0, q0_1, q0_2, q0_3, q0_4, q0_5, q0_6, q0_7⟩ := (hSw).b0.cells8; obtain ⟨q1_0, q1_1, q1_2, q1_3, q1_4, q1_5, q1_6, q1_7⟩ := (hSw).tl.b0.cells8; obtain ⟨q2_0, q2_1, q2_2, q2_3, q2_4, q2_5, q2_6, q2_7⟩ := (hSw).tl.tl.b0.cells8; go_simp; try (with_reducible rfl))
  try simp only [Act.put, List.setIfInBounds_toArray, List.set_cons_zero, List.set_cons_succ]
  refine wpHeld_val (v := ?vz3i3) (by rfl) ?yz3i3 ?rz3i3
  case yz3i3 => (intro wS hSw; go_simp; try (with_reducible rfl))
  try simp only [Act.put, List.setIfInBounds_toArray, List.set_cons_zero, List.set_cons_succ]
  refine wpHeld_val (v := ?vz3i4) (by rfl) ?yz3i4 ?rz3i4
  case yz3i4 => (intro wS hSw; go_simp; try (with_reducible rfl))
  try simp only [Act.put, List.setIfInBounds_toArray, List.set_cons_zero, List.set_cons_succ]
  refine wpHeld_val (v := ?vz3i5) (by rfl) ?yz3i5 ?rz3i5
  case yz3i5 => (intro wS hSw; go_simp; try (with_reducible rfl))
  try simp only [Act.put, List.setIfInBounds_toArray, List.set_cons_zero, List.set_cons_succ]
  refine wpHeld_run (.agg #[.int .u32 a0, .int .i64 a1, .string { data := #[] }, .int .i64 0, .int .i64 0, .int .i64 0, .int .i64 0, .int .i64 a2]) (by rfl) ?cz3i6 ?rz3i6
  case cz3i6 => (intro wS hSw K hK; go_simp; (go_at_call 15; (with_reducible refine (rbare_any _ _ _ _).mono ?_); rintro e w5 ⟨rfl, hx⟩); go_wp2_with fail; exact hK.out _ (hSw.keep hx))
  try simp only [Act.put, List.setIfInBounds_toArray, List.set_cons_zero, List.set_cons_succ]
  refine wpHeld_val (v := .bool true) (by rfl) ?yz3i7 ?rz3i7
  case yz3i7 => (intro wS hSw; go_simp; try (first | with_reducible rfl | (split <;> omega)))
  try simp only [Act.put, List.setIfInBounds_toArray, List.set_cons_zero, List.set_cons_succ]
  refine wpHeld_val (v := ?vz3i8) (by rfl) ?yz3i8 ?rz3i8
  case yz3i8 => (intro wS hSw; go_simp; try (with_reducible rfl))
  try simp only [Act.put, List.setIfInBounds_toArray, List.set_cons_zero, List.set_cons_succ]
  refine wpHeld_val (v := ?vz3i9) (by rfl) ?yz3i9 ?rz3i9
  case yz3i9 => (intro wS hSw; go_simp; try (with_reducible rfl))
  try simp only [Act.put, List.setIfInBounds_toArray, List.set_cons_zero, List.set_cons_succ]
  refine wpHeld_val (v := ?vz3i10) (by rfl) ?yz3i10 ?rz3i10
  case yz3i10 => (intro wS hSw; obtain ⟨q0_0, q0_1, q0_2, q0_3, q0_4, q0_5, q0_6, q0_7⟩ := (hSw).b0.cells8; obtain ⟨q1_0, q1_1, q1_2, q1_3, q1_4, q1_5, q1_6, q1_7⟩ := (hSw).tl.b0.cells8; obtain ⟨q2_0, q2_1, q2_2, q2_3, q2_4, q2_5, q2_6, q2_7⟩ := (hSw).tl.tl.b0.cells8; go_simp; try (with_reducible rfl))
  try simp only [Act.put, List.setIfInBounds_toArray, List.set_cons_zero, List.set_cons_succ]
  refine wpHeld_run (.bool (decide (RightP a1 { data := #[] } 0 0 0 0 a2))) (by rfl) ?cz3i11 ?rz3i11
  case cz3i11 => (intro wS hSw K hK; go_simp; (go_at_call 10; (with_reducible refine (right_any _ _ _ _ _ _ _ _ _).mono ?_); rintro e w5 ⟨rfl, hx⟩); go_wp2_with fail; exact hK.out _ (hSw.keep hx))
  try simp only [Act.put, List.setIfInBounds_toArray, List.set_cons_zero, List.set_cons_succ]
  refine wpHeld_val (v := ?vz3i12) (by rfl) ?yz3i12 ?rz3i12
  case yz3i12 => (intro wS hSw; go_simp; try (with_reducible rfl))
  try simp only [Act.put, List.setIfInBounds_toArray, List.set_cons_zero, List.set_cons_succ]
  refine wpHeld_val (v := .bool true) (by rfl) ?yz3i13 ?rz3i13
  case yz3i13 => (intro wS hSw; go_simp; try ((have hb := HB.out; have hv := HV.out; unfold RightP okT; rw [sz0]; omega)))
  try simp only [Act.put, List.setIfInBounds_toArray, List.set_cons_zero, List.set_cons_succ]
  refine wpHeld_val (v := ?vz3i14) (by rfl) ?yz3i14 ?rz3i14
  case yz3i14 => (intro wS hSw; go_simp; try (with_reducible rfl))
  try simp only [Act.put, List.setIfInBounds_toArray, List.set_cons_zero, List.set_cons_succ]
  refine wpHeld_val (v := ?vz3i15) (by rfl) ?yz3i15 ?rz3i15
  case yz3i15 => (intro wS hSw; go_simp; try (with_reducible rfl))
  try simp only [Act.put, List.setIfInBounds_toArray, List.set_cons_zero, List.set_cons_succ]
  refine wpHeld_val (v := ?vz3i16) (by rfl) ?yz3i16 ?rz3i16
  case yz3i16 => (intro wS hSw; obtain ⟨q0_0, q0_1, q0_2, q0_3, q0_4, q0_5, q0_6, q0_7⟩ := (hSw).b0.cells8; obtain ⟨q1_0, q1_1, q1_2, q1_3, q1_4, q1_5, q1_6, q1_7⟩ := (hSw).tl.b0.cells8; obtain ⟨q2_0, q2_1, q2_2, q2_3, q2_4, q2_5, q2_6, q2_7⟩ := (hSw).tl.tl.b0.cells8; go_simp; try (with_reducible rfl))
  try simp only [Act.put, List.setIfInBounds_toArray, List.set_cons_zero, List.set_cons_succ]
  refine wpHeld_run (.int .i64 0) (by rfl) ?cz3i17 ?rz3i17
  case cz3i17 => (intro wS hSw K hK; go_simp; (go_at_call 12; (with_reducible refine (over_any _ _ _ _ _ _ _ _ _).mono ?_); rintro e w5 ⟨rfl, hx⟩); go_wp2_with fail; exact hK.out _ (hSw.keep hx))
  try simp only [Act.put, List.setIfInBounds_toArray, List.set_cons_zero, List.set_cons_succ]
  refine wpHeld_val (v := .bool true) (by rfl) ?yz3i18 ?rz3i18
  case yz3i18 => (intro wS hSw; go_simp; try (first | with_reducible rfl | (split <;> omega)))
  try simp only [Act.put, List.setIfInBounds_toArray, List.set_cons_zero, List.set_cons_succ]
  refine wpHeld_val (v := ?vz3i19) (by rfl) ?yz3i19 ?rz3i19
  case yz3i19 => (intro wS hSw; go_simp; try (with_reducible rfl))
  try simp only [Act.put, List.setIfInBounds_toArray, List.set_cons_zero, List.set_cons_succ]
  refine wpHeld_val (v := ?vz3i20) (by rfl) ?yz3i20 ?rz3i20
  case yz3i20 => (intro wS hSw; go_simp; try (with_reducible rfl))
  try simp only [Act.put, List.setIfInBounds_toArray, List.set_cons_zero, List.set_cons_succ]
  refine wpHeld_val (v := ?vz3i21) (by rfl) ?yz3i21 ?rz3i21
  case yz3i21 => (intro wS hSw; obtain ⟨q0_0, q0_1, q0_2, q0_3, q0_4, q0_5, q0_6, q0_7⟩ := (hSw).b0.cells8; obtain ⟨q1_0, q1_1, q1_2, q1_3, q1_4, q1_5, q1_6, q1_7⟩ := (hSw).tl.b0.cells8; obtain ⟨q2_0, q2_1, q2_2, q2_3, q2_4, q2_5, q2_6, q2_7⟩ := (hSw).tl.tl.b0.cells8; go_simp; try (with_reducible rfl))
  try simp only [Act.put, List.setIfInBounds_toArray, List.set_cons_zero, List.set_cons_succ]
  refine wpHeld_run (.bool (decide (RightP a1 { data := #[120] } 0 0 0 0 a2))) (by rfl) ?cz3i22 ?rz3i22
  case cz3i22 => (intro wS hSw K hK; go_simp; (go_at_call 10; (with_reducible refine (right_any _ _ _ _ _ _ _ _ _).mono ?_); rintro e w5 ⟨rfl, hx⟩); go_wp2_with fail; exact hK.out _ (hSw.keep hx))
  try simp only [Act.put, List.setIfInBounds_toArray, List.set_cons_zero, List.set_cons_succ]
  refine wpHeld_val (v := ?vz3i23) (by rfl) ?yz3i23 ?rz3i23
  case yz3i23 => (intro wS hSw; go_simp; try (with_reducible rfl))
  try simp only [Act.put, List.setIfInBounds_toArray, List.set_cons_zero, List.set_cons_succ]
  refine wpHeld_val (v := ?vz3i24) (by rfl) ?yz3i24 ?rz3i24
  case yz3i24 => (intro wS hSw; go_simp; try (with_reducible rfl))
  try simp only [Act.put, List.setIfInBounds_toArray, List.set_cons_zero, List.set_cons_succ]
  refine wpHeld_val (v := ?vz3i25) (by rfl) ?yz3i25 ?rz3i25
  case yz3i25 => (intro wS hSw; go_simp; try (with_reducible rfl))
  try simp only [Act.put, List.setIfInBounds_toArray, List.set_cons_zero, List.set_cons_succ]
  refine wpHeld_val (v := ?vz3i26) (by rfl) ?yz3i26 ?rz3i26
  case yz3i26 => (intro wS hSw; go_simp; try (with_reducible rfl))
  try simp only [Act.put, List.setIfInBounds_toArray, List.set_cons_zero, List.set_cons_succ]
  refine wpHeld_val (v := ?vz3i27) (by rfl) ?yz3i27 ?rz3i27
  case yz3i27 => (intro wS hSw; go_simp; try (with_reducible rfl))
  try simp only [Act.put, List.setIfInBounds_toArray, List.set_cons_zero, List.set_cons_succ]
  refine wpHeld_val (v := ?vz3i28) (by rfl) ?yz3i28 ?rz3i28
  case yz3i28 => (intro wS hSw; go_simp; try (with_reducible rfl))
  try simp only [Act.put, List.setIfInBounds_toArray, List.set_cons_zero, List.set_cons_succ]
  refine wpHeld_val (v := ?vz3i29) (by rfl) ?yz3i29 ?rz3i29
  case yz3i29 => (intro wS hSw; go_simp; try (with_reducible rfl))
  try simp only [Act.put, List.setIfInBounds_toArray, List.set_cons_zero, List.set_cons_succ]
  refine wpHeld_val (v := ?vz3i30) (by rfl) ?yz3i30 ?rz3i30
  case yz3i30 => (intro wS hSw; go_simp; try (with_reducible rfl))
  try simp only [Act.put, List.setIfInBounds_toArray, List.set_cons_zero, List.set_cons_succ]
  refine wpHeld_val (v := ?vz3i31) (by rfl) ?yz3i31 ?rz3i31
  case yz3i31 => (intro wS hSw; go_simp; try (with_reducible rfl))
  try simp only [Act.put, List.setIfInBounds_toArray, List.set_cons_zero, List.set_cons_succ]
  refine wpHeld_val (v := .bool true) (by rfl) ?yz3i32 ?rz3i32
  case yz3i32 => (intro wS hSw; go_simp; try ((have hb := HB.out; have hv := HV.out; unfold RightP okT; rw [sz1]; omega)))
  try simp only [Act.put, List.setIfInBounds_toArray, List.set_cons_zero, List.set_cons_succ]
  refine wpHeld_val (v := ?vz3i33) (by rfl) ?yz3i33 ?rz3i33
  case yz3i33 => (intro wS hSw; go_simp; try (with_reducible rfl))
  try simp only [Act.put, List.setIfInBounds_toArray, List.set_cons_zero, List.set_cons_succ]
  refine wpHeld_val (v := ?vz3i34) (by rfl) ?yz3i34 ?rz3i34
  case yz3i34 => (intro wS hSw; go_simp; try (with_reducible rfl))
  try simp only [Act.put, List.setIfInBounds_toArray, List.set_cons_zero, List.set_cons_succ]
  refine wpHeld_val (v := ?vz3i35) (by rfl) ?yz3i35 ?rz3i35
  case yz3i35 => (intro wS hSw; obtain ⟨q0_0, q0_1, q0_2, q0_3, q0_4, q0_5, q0_6, q0_7⟩ := (hSw).b0.cells8; obtain ⟨q1_0, q1_1, q1_2, q1_3, q1_4, q1_5, q1_6, q1_7⟩ := (hSw).tl.b0.cells8; obtain ⟨q2_0, q2_1, q2_2, q2_3, q2_4, q2_5, q2_6, q2_7⟩ := (hSw).tl.tl.b0.cells8; go_simp; try (with_reducible rfl))
  try simp only [Act.put, List.setIfInBounds_toArray, List.set_cons_zero, List.set_cons_succ]
  refine wpHeld_run (.bool (decide (RightP a1 { data := #[] } 0 0 1 0 a2))) (by rfl) ?cz3i36 ?rz3i36
  case cz3i36 => (intro wS hSw K hK; go_simp; (go_at_call 10; (with_reducible refine (right_any _ _ _ _ _ _ _ _ _).mono ?_); rintro e w5 ⟨rfl, hx⟩); go_wp2_with fail; exact hK.out _ (hSw.keep hx))
  try simp only [Act.put, List.setIfInBounds_toArray, List.set_cons_zero, List.set_cons_succ]
  refine wpHeld_val (v := .bool true) (by rfl) ?yz3i37 ?rz3i37
  case yz3i37 => (intro wS hSw; go_simp; try ((have hb := HB.out; have hv := HV.out; unfold RightP okT; rw [sz0]; omega)))
  try simp only [Act.put, List.setIfInBounds_toArray, List.set_cons_zero, List.set_cons_succ]
  refine wpHeld_val (v := ?vz3i38) (by rfl) ?yz3i38 ?rz3i38
  case yz3i38 => (intro wS hSw; go_simp; try (with_reducible rfl))
  try simp only [Act.put, List.setIfInBounds_toArray, List.set_cons_zero, List.set_cons_succ]
  refine wpHeld_val (v := ?vz3i39) (by rfl) ?yz3i39 ?rz3i39
  case yz3i39 => (intro wS hSw; go_simp; try (with_reducible rfl))
  try simp only [Act.put, List.setIfInBounds_toArray, List.set_cons_zero, List.set_cons_succ]
  refine wpHeld_nil ?_
  intro wS hSw
  go_wp2
  go_ret
  exact ⟨rfl, hSw.2⟩

set_option maxRecDepth 100000 in
set_option maxHeartbeats 1000000 in
theorem bare_3b (a0 : Int) (a1 : Int) (a2 : Int) (W : World) (w0 : (Lit.int .u32 a0).wf = true) (w1 : (Lit.int .i64 a1).wf = true) (w2 : (Lit.int .i64 a2).wf = true) (hb : a1 = 3) (hv : 1099511627776 < a2) :
    Calls Try.prog 4 #[.int .u32 a0, .int .i64 a1, .int .i64 a2] W fun e w' => e = .returned (.bool true) ∧ Below W.heap.size W w' := by
  have HB := Lib.hid hb
  have HV := Lib.hid hv
  have k0 : (a1 == 0) = false := beq_eq_false_iff_ne.2 (by omega)
  have k1 : (a1 == 1) = false := beq_eq_false_iff_ne.2 (by omega)
  have k2 : (a1 == 2) = false := beq_eq_false_iff_ne.2 (by omega)
  have k3 : (a1 == 3) = true := beq_iff_eq.2 (by omega)
  have k4 : (a1 == 4) = false := beq_eq_false_iff_ne.2 (by omega)
  have k5 : (a1 == 5) = false := beq_eq_false_iff_ne.2 (by omega)
  clear hb
  skip
  have h0 : decide (0 ≤ a2) = true := decide_eq_true (by omega)
  have hM : decide (a2 ≤ 1099511627776) = false := decide_eq_false (by omega)
  go_enter Try.func4, Try.ntmps4
  go_upto_region 9 with (first | (go_at_call 7; (with_reducible refine (awake_any _).mono ?_); rintro e w1 ⟨rfl, hx⟩; have H1 := Lib.hid hx; clear hx) | (go_at_call 14; (with_reducible refine (bare_any _ _ _ _).mono ?_); rintro e wy ⟨rfl, hx⟩; have H2 := Lib.hid (((HeldB.nil (lowA (lowA (lowA (low H1.out hx) (.cells #[.int .u32 a0, .int .i64 a1, .string { data := #[] }, .int .i64 0, .int .i64 0, .int .i64 0, .int .i64 0, .int .i64 a2] 25)) (.cells #[.int .u32 a0, .int .i64 a1, .string { data := #[120] }, .int .i64 0, .int .i64 0, .int .i64 0, .int .i64 0, .int .i64 a2] 25)) (.cells #[.int .u32 a0, .int .i64 a1, .string { data := #[] }, .int .i64 0, .int .i64 0, .int .i64 1, .int .i64 0, .int .i64 a2] 25))).cons (((Blk.new wy #[.int .u32 a0, .int .i64 a1, .string { data := #[] }, .int .i64 0, .int .i64 0, .int .i64 0, .int .i64 0, .int .i64 a2] 25).alloc (.cells #[.int .u32 a0, .int .i64 a1, .string { data := #[120] }, .int .i64 0, .int .i64 0, .int .i64 0, .int .i64 0, .int .i64 a2] 25)).alloc (.cells #[.int .u32 a0, .int .i64 a1, .string { data := #[] }, .int .i64 0, .int .i64 0, .int .i64 1, .int .i64 0, .int .i64 a2] 25))).cons ((Blk.new2 wy (.cells #[.int .u32 a0, .int .i64 a1, .string { data := #[] }, .int .i64 0, .int .i64 0, .int .i64 0, .int .i64 0, .int .i64 a2] 25) #[.int .u32 a0, .int .i64 a1, .string { data := #[120] }, .int .i64 0, .int .i64 0, .int .i64 0, .int .i64 0, .int .i64 a2] 25).alloc (.cells #[.int .u32 a0, .int .i64 a1, .string { data := #[] }, .int .i64 0, .int .i64 0, .int .i64 1, .int .i64 0, .int .i64 a2] 25)) |>.cons (Blk.new3 wy (.cells #[.int .u32 a0, .int .i64 a1, .string { data := #[] }, .int .i64 0, .int .i64 0, .int .i64 0, .int .i64 0, .int .i64 a2] 25) (.cells #[.int .u32 a0, .int .i64 a1, .string { data := #[120] }, .int .i64 0, .int .i64 0, .int .i64 0, .int .i64 0, .int .i64 a2] 25) #[.int .u32 a0, .int .i64 a1, .string { data := #[] }, .int .i64 0, .int .i64 0, .int .i64 1, .int .i64 0, .int .i64 a2] 25)); clear hx))
  refine wp_region_seq (S := HeldB W [((wy.heap.size + 1 + 1), #[.int .u32 a0, .int .i64 a1, .string { data := #[] }, .int .i64 0, .int .i64 0, .int .i64 1, .int .i64 0, .int .i64 a2], 25), ((wy.heap.size + 1), #[.int .u32 a0, .int .i64 a1, .string { data := #[120] }, .int .i64 0, .int .i64 0, .int .i64 0, .int .i64 0, .int .i64 a2], 25), (wy.heap.size, #[.int .u32 a0, .int .i64 a1, .string { data := #[] }, .int .i64 0, .int .i64 0, .int .i64 0, .int .i64 0, .int .i64 a2], 25)]) 40 (by kernel_rfl) (by kernel_rfl) H2.out.drew ?_
  simp only [List.take_succ_cons, List.take_zero, List.drop_succ_cons, List.drop_zero]
  refine wpHeld_val (v := ?vz3b0) (by rfl) ?yz3b0 ?rz3b0
  case yz3b0 => (intro wS hSw; go_simp; try (with_reducible rfl))
  try simp only [Act.put, List.setIfInBounds_toArray, List.set_cons_zero, List.set_cons_succ]
  refine wpHeld_val (v := ?vz3b1) (by rfl) ?yz3b1 ?rz3b1
  case yz3b1 => (intro wS hSw; go_simp; try (with_reducible rfl))
  try simp only [Act.put, List.setIfInBounds_toArray, List.set_cons_zero, List.set_cons_succ]
  refine wpHeld_val (v := ?vz3b2) (by rfl) ?yz3b2 ?rz3b2
  case yz3b2 => (intro wS hSw; obtain ⟨q0_0, q0_1, q0_2, q0_3, q0_4, q0_5, q0_6, q0_7⟩ := (hSw).b0.cells8; obtain ⟨q1_0, q1_1, q1_2, q1_3, q1_4, q1_5, q1_6, q1_7⟩ := (hSw).tl.b0.cells8; obtain ⟨q2_0, q2_1, q2_2, q2_3, q2_4, q2_5, q2_6, q2_7⟩ := (hSw).tl.tl.b0.cells8; go_simp; try (with_reducible rfl))
  try simp only [Act.put, List.setIfInBounds_toArray, List.set_cons_zero, List.set_cons_succ]
  refine wpHeld_val (v := ?vz3b3) (by rfl) ?yz3b3 ?rz3b3
  case yz3b3 => (intro wS hSw; go_simp; try (with_reducible rfl))
  try simp only [Act.put, List.setIfInBounds_toArray, List.set_cons_zero, List.set_cons_succ]
  refine wpHeld_val (v := ?vz3b4) (by rfl) ?yz3b4 ?rz3b4
  case yz3b4 => (intro wS hSw; go_simp; try (with_reducible rfl))
  try simp only [Act.put, List.setIfInBounds_toArray, List.set_cons_zero, List.set_cons_succ]
  refine wpHeld_val (v := ?vz3b5) (by rfl) ?yz3b5 ?rz3b5
  case yz3b5 => (intro wS hSw; go_simp; try (with_reducible rfl))
  try simp only [Act.put, List.setIfInBounds_toArray, List.set_cons_zero, List.set_cons_succ]
  refine wpHeld_run (.agg #[.int .u32 a0, .int .i64 a1, .string { data := #[] }, .int .i64 0, .int .i64 0, .int .i64 0, .int .i64 0, .int .i64 a2]) (by rfl) ?cz3b6 ?rz3b6
  case cz3b6 => (intro wS hSw K hK; go_simp; (go_at_call 15; (with_reducible refine (rbare_any _ _ _ _).mono ?_); rintro e w5 ⟨rfl, hx⟩); go_wp2_with fail; exact hK.out _ (hSw.keep hx))
  try simp only [Act.put, List.setIfInBounds_toArray, List.set_cons_zero, List.set_cons_succ]
  refine wpHeld_val (v := .bool true) (by rfl) ?yz3b7 ?rz3b7
  case yz3b7 => (intro wS hSw; go_simp; try (first | with_reducible rfl | (split <;> omega)))
  try simp only [Act.put, List.setIfInBounds_toArray, List.set_cons_zero, List.set_cons_succ]
  refine wpHeld_val (v := ?vz3b8) (by rfl) ?yz3b8 ?rz3b8
  case yz3b8 => (intro wS hSw; go_simp; try (with_reducible rfl))
  try simp only [Act.put, List.setIfInBounds_toArray, List.set_cons_zero, List.set_cons_succ]
  refine wpHeld_val (v := ?vz3b9) (by rfl) ?yz3b9 ?rz3b9
  case yz3b9 => (intro wS hSw; go_simp; try (with_reducible rfl))
  try simp only [Act.put, List.setIfInBounds_toArray, List.set_cons_zero, List.set_cons_succ]
  refine wpHeld_val (v := ?vz3b10) (by rfl) ?yz3b10 ?rz3b10
  case yz3b10 => (intro wS hSw; obtain ⟨q0_0, q0_1, q0_2, q0_3, q0_4, q0_5, q0_6, q0_7⟩ := (hSw).b0.cells8; obtain ⟨q1_0, q1_1, q1_2, q1_3, q1_4, q1_5, q1_6, q1_7⟩ := (hSw).tl.b0.cells8; obtain ⟨q2_0, q2_1, q2_2, q2_3, q2_4, q2_5, q2_6, q2_7⟩ := (hSw).tl.tl.b0.cells8; go_simp; try (with_reducible rfl))
  try simp only [Act.put, List.setIfInBounds_toArray, List.set_cons_zero, List.set_cons_succ]
  refine wpHeld_run (.bool (decide (RightP a1 { data := #[] } 0 0 0 0 a2))) (by rfl) ?cz3b11 ?rz3b11
  case cz3b11 => (intro wS hSw K hK; go_simp; (go_at_call 10; (with_reducible refine (right_any _ _ _ _ _ _ _ _ _).mono ?_); rintro e w5 ⟨rfl, hx⟩); go_wp2_with fail; exact hK.out _ (hSw.keep hx))
  try simp only [Act.put, List.setIfInBounds_toArray, List.set_cons_zero, List.set_cons_succ]
  refine wpHeld_val (v := ?vz3b12) (by rfl) ?yz3b12 ?rz3b12
  case yz3b12 => (intro wS hSw; go_simp; try (with_reducible rfl))
  try simp only [Act.put, List.setIfInBounds_toArray, List.set_cons_zero, List.set_cons_succ]
  refine wpHeld_val (v := .bool true) (by rfl) ?yz3b13 ?rz3b13
  case yz3b13 => (intro wS hSw; go_simp; try ((have hb := HB.out; have hv := HV.out; unfold RightP okT; rw [sz0]; omega)))
  try simp only [Act.put, List.setIfInBounds_toArray, List.set_cons_zero, List.set_cons_succ]
  refine wpHeld_val (v := ?vz3b14) (by rfl) ?yz3b14 ?rz3b14
  case yz3b14 => (intro wS hSw; go_simp; try (with_reducible rfl))
  try simp only [Act.put, List.setIfInBounds_toArray, List.set_cons_zero, List.set_cons_succ]
  refine wpHeld_val (v := ?vz3b15) (by rfl) ?yz3b15 ?rz3b15
  case yz3b15 => (intro wS hSw; go_simp; try (with_reducible rfl))
  try simp only [Act.put, List.setIfInBounds_toArray, List.set_cons_zero, List.set_cons_succ]
  refine wpHeld_val (v := ?vz3b16) (by rfl) ?yz3b16 ?rz3b16
  case yz3b16 => (intro wS hSw; obtain ⟨q0_0, q0_1, q0_2, q0_3, q0_4, q0_5, q0_6, q0_7⟩ := (hSw).b0.cells8; obtain ⟨q1_0, q1_1, q1_2, q1_3, q1_4, q1_5, q1_6, q1_7⟩ := (hSw).tl.b0.cells8; obtain ⟨q2_0, q2_1, q2_2, q2_3, q2_4, q2_5, q2_6, q2_7⟩ := (hSw).tl.tl.b0.cells8; go_simp; try (with_reducible rfl))
  try simp only [Act.put, List.setIfInBounds_toArray, List.set_cons_zero, List.set_cons_succ]
  refine wpHeld_run (.int .i64 0) (by rfl) ?cz3b17 ?rz3b17
  case cz3b17 => (intro wS hSw K hK; go_simp; (go_at_call 12; (with_reducible refine (over_any _ _ _ _ _ _ _ _ _).mono ?_); rintro e w5 ⟨rfl, hx⟩); go_wp2_with fail; exact hK.out _ (hSw.keep hx))
  try simp only [Act.put, List.setIfInBounds_toArray, List.set_cons_zero, List.set_cons_succ]
  refine wpHeld_val (v := .bool true) (by rfl) ?yz3b18 ?rz3b18
  case yz3b18 => (intro wS hSw; go_simp; try (first | with_reducible rfl | (split <;> omega)))
  try simp only [Act.put, List.setIfInBounds_toArray, List.set_cons_zero, List.set_cons_succ]
  refine wpHeld_val (v := ?vz3b19) (by rfl) ?yz3b19 ?rz3b19
  case yz3b19 => (intro wS hSw; go_simp; try (with_reducible rfl))
  try simp only [Act.put, List.setIfInBounds_toArray, List.set_cons_zero, List.set_cons_succ]
  refine wpHeld_val (v := ?vz3b20) (by rfl) ?yz3b20 ?rz3b20
  case yz3b20 => (intro wS hSw; go_simp; try (with_reducible rfl))
  try simp only [Act.put, List.setIfInBounds_toArray, List.set_cons_zero, List.set_cons_succ]
  refine wpHeld_val (v := ?vz3b21) (by rfl) ?yz3b21 ?rz3b21
  case yz3b21 => (intro wS hSw; obtain ⟨q0_0, q0_1, q0_2, q0_3, q0_4, q0_5, q0_6, q0_7⟩ := (hSw).b0.cells8; obtain ⟨q1_0, q1_1, q1_2, q1_3, q1_4, q1_5, q1_6, q1_7⟩ := (hSw).tl.b0.cells8; obtain ⟨q2_0, q2_1, q2_2, q2_3, q2_4, q2_5, q2_6, q2_7⟩ := (hSw).tl.tl.b0.cells8; go_simp; try (with_reducible rfl))
  try simp only [Act.put, List.setIfInBounds_toArray, List.set_cons_zero, List.set_cons_succ]
  refine wpHeld_run (.bool (decide (RightP a1 { data := #[120] } 0 0 0 0 a2))) (by rfl) ?cz3b22 ?rz3b22
  case cz3b22 => (intro wS hSw K hK; go_simp; (go_at_call 10; (with_reducible refine (right_any _ _ _ _ _ _ _ _ _).mono ?_); rintro e w5 ⟨rfl, hx⟩); go_wp2_with fail; exact hK.out _ (hSw.keep hx))
  try simp only [Act.put, List.setIfInBounds_toArray, List.set_cons_zero, List.set_cons_succ]
  refine wpHeld_val (v := ?vz3b23) (by rfl) ?yz3b23 ?rz3b23
  case yz3b23 => (intro wS hSw; go_simp; try (with_reducible rfl))
  try simp only [Act.put, List.setIfInBounds_toArray, List.set_cons_zero, List.set_cons_succ]
  refine wpHeld_val (v := ?vz3b24) (by rfl) ?yz3b24 ?rz3b24
  case yz3b24 => (intro wS hSw; go_simp; try (with_reducible rfl))
  try simp only [Act.put, List.setIfInBounds_toArray, List.set_cons_zero, List.set_cons_succ]
  refine wpHeld_val (v := ?vz3b25) (by rfl) ?yz3b25 ?rz3b25
  case yz3b25 => (intro wS hSw; go_simp; try (with_reducible rfl))
  try simp only [Act.put, List.setIfInBounds_toArray, List.set_cons_zero, List.set_cons_succ]
  refine wpHeld_val (v := ?vz3b26) (by rfl) ?yz3b26 ?rz3b26
  case yz3b26 => (intro wS hSw; go_simp; try (with_reducible rfl))
  try simp only [Act.put, List.setIfInBounds_toArray, List.set_cons_zero, List.set_cons_succ]
  refine wpHeld_val (v := ?vz3b27) (by rfl) ?yz3b27 ?rz3b27
  case yz3b27 => (intro wS hSw; go_simp; try (with_reducible rfl))
  try simp only [Act.put, List.setIfInBounds_toArray, List.set_cons_zero, List.set_cons_succ]
  refine wpHeld_val (v := ?vz3b28) (by rfl) ?yz3b28 ?rz3b28
  case yz3b28 => (intro wS hSw; go_simp; try (with_reducible rfl))
  try simp only [Act.put, List.setIfInBounds_toArray, List.set_cons_zero, List.set_cons_succ]
  refine wpHeld_val (v := ?vz3b29) (by rfl) ?yz3b29 ?rz3b29
  case yz3b29 => (intro wS hSw; go_simp; try (with_reducible rfl))
  try simp only [Act.put, List.setIfInBounds_toArray, List.set_cons_zero, List.set_cons_succ]
  refine wpHeld_val (v := ?vz3b30) (by rfl) ?yz3b30 ?rz3b30
  case yz3b30 => (intro wS hSw; go_simp; try (with_reducible rfl))
  try simp only [Act.put, List.setIfInBounds_toArray, List.set_cons_zero, List.set_cons_succ]
  refine wpHeld_val (v := ?vz3b31) (by rfl) ?yz3b31 ?rz3b31
  case yz3b31 => (intro wS hSw; go_simp; try (with_reducible rfl))
  try simp only [Act.put, List.setIfInBounds_toArray, List.set_cons_zero, List.set_cons_succ]
  refine wpHeld_val (v := .bool true) (by rfl) ?yz3b32 ?rz3b32
  case yz3b32 => (intro wS hSw; go_simp; try ((have hb := HB.out; have hv := HV.out; unfold RightP okT; rw [sz1]; omega)))
  try simp only [Act.put, List.setIfInBounds_toArray, List.set_cons_zero, List.set_cons_succ]
  refine wpHeld_val (v := ?vz3b33) (by rfl) ?yz3b33 ?rz3b33
  case yz3b33 => (intro wS hSw; go_simp; try (with_reducible rfl))
  try simp only [Act.put, List.setIfInBounds_toArray, List.set_cons_zero, List.set_cons_succ]
  refine wpHeld_val (v := ?vz3b34) (by rfl) ?yz3b34 ?rz3b34
  case yz3b34 => (intro wS hSw; go_simp; try (with_reducible rfl))
  try simp only [Act.put, List.setIfInBounds_toArray, List.set_cons_zero, List.set_cons_succ]
  refine wpHeld_val (v := ?vz3b35) (by rfl) ?yz3b35 ?rz3b35
  case yz3b35 => (intro wS hSw; obtain ⟨q0_0, q0_1, q0_2, q0_3, q0_4, q0_5, q0_6, q0_7⟩ := (hSw).b0.cells8; obtain ⟨q1_0, q1_1, q1_2, q1_3, q1_4, q1_5, q1_6, q1_7⟩ := (hSw).tl.b0.cells8; obtain ⟨q2_0, q2_1, q2_2, q2_3, q2_4, q2_5, q2_6, q2_7⟩ := (hSw).tl.tl.b0.cells8; go_simp; try (with_reducible rfl))
  try simp only [Act.put, List.setIfInBounds_toArray, List.set_cons_zero, List.set_cons_succ]
  refine wpHeld_run (.bool (decide (RightP a1 { data := #[] } 0 0 1 0 a2))) (by rfl) ?cz3b36 ?rz3b36
  case cz3b36 => (intro wS hSw K hK; go_simp; (go_at_call 10; (with_reducible refine (right_any _ _ _ _ _ _ _ _ _).mono ?_); rintro e w5 ⟨rfl, hx⟩); go_wp2_with fail; exact hK.out _ (hSw.keep hx))
  try simp only [Act.put, List.setIfInBounds_toArray, List.set_cons_zero, List.set_cons_succ]
  refine wpHeld_val (v := .bool true) (by rfl) ?yz3b37 ?rz3b37
  case yz3b37 => (intro wS hSw; go_simp; try ((have hb := HB.out; have hv := HV.out; unfold RightP okT; rw [sz0]; omega)))
  try simp only [Act.put, List.setIfInBounds_toArray, List.set_cons_zero, List.set_cons_succ]
  refine wpHeld_val (v := ?vz3b38) (by rfl) ?yz3b38 ?rz3b38
  case yz3b38 => (intro wS hSw; go_simp; try (with_reducible rfl))
  try simp only [Act.put, List.setIfInBounds_toArray, List.set_cons_zero, List.set_cons_succ]
  refine wpHeld_val (v := ?vz3b39) (by rfl) ?yz3b39 ?rz3b39
  case yz3b39 => (intro wS hSw; go_simp; try (with_reducible rfl))
  try simp only [Act.put, List.setIfInBounds_toArray, List.set_cons_zero, List.set_cons_succ]
  refine wpHeld_nil ?_
  intro wS hSw
  go_wp2
  go_ret
  exact ⟨rfl, hSw.2⟩

set_option maxRecDepth 100000 in
set_option maxHeartbeats 1000000 in
theorem bare_4n (a0 : Int) (a1 : Int) (a2 : Int) (W : World) (w0 : (Lit.int .u32 a0).wf = true) (w1 : (Lit.int .i64 a1).wf = true) (w2 : (Lit.int .i64 a2).wf = true) (hb : a1 = 4) (hv : a2 < 0) :
    Calls Try.prog 4 #[.int .u32 a0, .int .i64 a1, .int .i64 a2] W fun e w' => e = .returned (.bool true) ∧ Below W.heap.size W w' := by
  have HB := Lib.hid hb
  have HV := Lib.hid hv
  have k0 : (a1 == 0) = false := beq_eq_false_iff_ne.2 (by omega)
  have k1 : (a1 == 1) = false := beq_eq_false_iff_ne.2 (by omega)
  have k2 : (a1 == 2) = false := beq_eq_false_iff_ne.2 (by omega)
  have k3 : (a1 == 3) = false := beq_eq_false_iff_ne.2 (by omega)
  have k4 : (a1 == 4) = true := beq_iff_eq.2 (by omega)
  have k5 : (a1 == 5) = false := beq_eq_false_iff_ne.2 (by omega)
  clear hb
  skip
  have h0 : decide (0 ≤ a2) = false := decide_eq_false (by omega)
  go_enter Try.func4, Try.ntmps4
  go_upto_region 9 with (first | (go_at_call 7; (with_reducible refine (awake_any _).mono ?_); rintro e w1 ⟨rfl, hx⟩; have H1 := Lib.hid hx; clear hx) | (go_at_call 14; (with_reducible refine (bare_any _ _ _ _).mono ?_); rintro e wy ⟨rfl, hx⟩; have H2 := Lib.hid (((HeldB.nil (lowA (lowA (lowA (low H1.out hx) (.cells #[.int .u32 a0, .int .i64 a1, .string { data := #[] }, .int .i64 0, .int .i64 0, .int .i64 0, .int .i64 0, .int .i64 a2] 25)) (.cells #[.int .u32 a0, .int .i64 a1, .string { data := #[120] }, .int .i64 0, .int .i64 0, .int .i64 0, .int .i64 0, .int .i64 a2] 25)) (.cells #[.int .u32 a0, .int .i64 a1, .string { data := #[] }, .int .i64 0, .int .i64 0, .int .i64 1, .int .i64 0, .int .i64 a2] 25))).cons (((Blk.new wy #[.int .u32 a0, .int .i64 a1, .string { data := #[] }, .int .i64 0, .int .i64 0, .int .i64 0, .int .i64 0, .int .i64 a2] 25).alloc (.cells #[.int .u32 a0, .int .i64 a1, .string { data := #[120] }, .int .i64 0, .int .i64 0, .int .i64 0, .int .i64 0, .int .i64 a2] 25)).alloc (.cells #[.int .u32 a0, .int .i64 a1, .string { data := #[] }, .int .i64 0, .int .i64 0, .int .i64 1, .int .i64 0, .int .i64 a2] 25))).cons ((Blk.new2 wy (.cells #[.int .u32 a0, .int .i64 a1, .string { data := #[] }, .int .i64 0, .int .i64 0, .int .i64 0, .int .i64 0, .int .i64 a2] 25) #[.int .u32 a0, .int .i64 a1, .string { data := #[120] }, .int .i64 0, .int .i64 0, .int .i64 0, .int .i64 0, .int .i64 a2] 25).alloc (.cells #[.int .u32 a0, .int .i64 a1, .string { data := #[] }, .int .i64 0, .int .i64 0, .int .i64 1, .int .i64 0, .int .i64 a2] 25)) |>.cons (Blk.new3 wy (.cells #[.int .u32 a0, .int .i64 a1, .string { data := #[] }, .int .i64 0, .int .i64 0, .int .i64 0, .int .i64 0, .int .i64 a2] 25) (.cells #[.int .u32 a0, .int .i64 a1, .string { data := #[120] }, .int .i64 0, .int .i64 0, .int .i64 0, .int .i64 0, .int .i64 a2] 25) #[.int .u32 a0, .int .i64 a1, .string { data := #[] }, .int .i64 0, .int .i64 0, .int .i64 1, .int .i64 0, .int .i64 a2] 25)); clear hx))
  refine wp_region_seq (S := HeldB W [((wy.heap.size + 1 + 1), #[.int .u32 a0, .int .i64 a1, .string { data := #[] }, .int .i64 0, .int .i64 0, .int .i64 1, .int .i64 0, .int .i64 a2], 25), ((wy.heap.size + 1), #[.int .u32 a0, .int .i64 a1, .string { data := #[120] }, .int .i64 0, .int .i64 0, .int .i64 0, .int .i64 0, .int .i64 a2], 25), (wy.heap.size, #[.int .u32 a0, .int .i64 a1, .string { data := #[] }, .int .i64 0, .int .i64 0, .int .i64 0, .int .i64 0, .int .i64 a2], 25)]) 40 (by kernel_rfl) (by kernel_rfl) H2.out.drew ?_
  simp only [List.take_succ_cons, List.take_zero, List.drop_succ_cons, List.drop_zero]
  refine wpHeld_val (v := ?vz4n0) (by rfl) ?yz4n0 ?rz4n0
  case yz4n0 => (intro wS hSw; go_simp; try (with_reducible rfl))
  try simp only [Act.put, List.setIfInBounds_toArray, List.set_cons_zero, List.set_cons_succ]
  refine wpHeld_val (v := ?vz4n1) (by rfl) ?yz4n1 ?rz4n1
  case yz4n1 => (intro wS hSw; go_simp; try (with_reducible rfl))
  try simp only [Act.put, List.setIfInBounds_toArray, List.set_cons_zero, List.set_cons_succ]
  refine wpHeld_val (v := ?vz4n2) (by rfl) ?yz4n2 ?rz4n2
  case yz4n2 => (intro wS hSw; obtain ⟨q0_0, q0_1, q0_2, q0_3, q0_4, q0_5, q0_6, q0_7⟩ := (hSw).b0.cells8; obtain ⟨q1_0, q1_1, q1_2, q1_3, q1_4, q1_5, q1_6, q1_7⟩ := (hSw).tl.b0.cells8; obtain ⟨q2_0, q2_1, q2_2, q2_3, q2_4, q2_5, q2_6, q2_7⟩ := (hSw).tl.tl.b0.cells8; go_simp; try (with_reducible rfl))
  try simp only [Act.put, List.setIfInBounds_toArray, List.set_cons_zero, List.set_cons_succ]
  refine wpHeld_val (v := ?vz4n3) (by rfl) ?yz4n3 ?rz4n3
  case yz4n3 => (intro wS hSw; go_simp; try (with_reducible rfl))
  try simp only [Act.put, List.setIfInBounds_toArray, List.set_cons_zero, List.set_cons_succ]
  refine wpHeld_val (v := ?vz4n4) (by rfl) ?yz4n4 ?rz4n4
  case yz4n4 => (intro wS hSw; go_simp; try (with_reducible rfl))
  try simp only [Act.put, List.setIfInBounds_toArray, List.set_cons_zero, List.set_cons_succ]
  refine wpHeld_val (v := ?vz4n5) (by rfl) ?yz4n5 ?rz4n5
  case yz4n5 => (intro wS hSw; go_simp; try (with_reducible rfl))
  try simp only [Act.put, List.setIfInBounds_toArray, List.set_cons_zero, List.set_cons_succ]
  refine wpHeld_run (.agg #[.int .u32 a0, .int .i64 a1, .string { data := #[] }, .int .i64 0, .int .i64 0, .int .i64 0, .int .i64 0, .int .i64 a2]) (by rfl) ?cz4n6 ?rz4n6
  case cz4n6 => (intro wS hSw K hK; go_simp; (go_at_call 15; (with_reducible refine (rbare_any _ _ _ _).mono ?_); rintro e w5 ⟨rfl, hx⟩); go_wp2_with fail; exact hK.out _ (hSw.keep hx))
  try simp only [Act.put, List.setIfInBounds_toArray, List.set_cons_zero, List.set_cons_succ]
  refine wpHeld_val (v := .bool true) (by rfl) ?yz4n7 ?rz4n7
  case yz4n7 => (intro wS hSw; go_simp; try (first | with_reducible rfl | (split <;> omega)))
  try simp only [Act.put, List.setIfInBounds_toArray, List.set_cons_zero, List.set_cons_succ]
  refine wpHeld_val (v := ?vz4n8) (by rfl) ?yz4n8 ?rz4n8
  case yz4n8 => (intro wS hSw; go_simp; try (with_reducible rfl))
  try simp only [Act.put, List.setIfInBounds_toArray, List.set_cons_zero, List.set_cons_succ]
  refine wpHeld_val (v := ?vz4n9) (by rfl) ?yz4n9 ?rz4n9
  case yz4n9 => (intro wS hSw; go_simp; try (with_reducible rfl))
  try simp only [Act.put, List.setIfInBounds_toArray, List.set_cons_zero, List.set_cons_succ]
  refine wpHeld_val (v := ?vz4n10) (by rfl) ?yz4n10 ?rz4n10
  case yz4n10 => (intro wS hSw; obtain ⟨q0_0, q0_1, q0_2, q0_3, q0_4, q0_5, q0_6, q0_7⟩ := (hSw).b0.cells8; obtain ⟨q1_0, q1_1, q1_2, q1_3, q1_4, q1_5, q1_6, q1_7⟩ := (hSw).tl.b0.cells8; obtain ⟨q2_0, q2_1, q2_2, q2_3, q2_4, q2_5, q2_6, q2_7⟩ := (hSw).tl.tl.b0.cells8; go_simp; try (with_reducible rfl))
  try simp only [Act.put, List.setIfInBounds_toArray, List.set_cons_zero, List.set_cons_succ]
  refine wpHeld_run (.bool (decide (RightP a1 { data := #[] } 0 0 0 0 a2))) (by rfl) ?cz4n11 ?rz4n11
  case cz4n11 => (intro wS hSw K hK; go_simp; (go_at_call 10; (with_reducible refine (right_any _ _ _ _ _ _ _ _ _).mono ?_); rintro e w5 ⟨rfl, hx⟩); go_wp2_with fail; exact hK.out _ (hSw.keep hx))
  try simp only [Act.put, List.setIfInBounds_toArray, List.set_cons_zero, List.set_cons_succ]
  refine wpHeld_val (v := ?vz4n12) (by rfl) ?yz4n12 ?rz4n12
  case yz4n12 => (intro wS hSw; go_simp; try (with_reducible rfl))
  try simp only [Act.put, List.setIfInBounds_toArray, List.set_cons_zero, List.set_cons_succ]
  refine wpHeld_val (v := .bool true) (by rfl) ?yz4n13 ?rz4n13
  case yz4n13 => (intro wS hSw; go_simp; try ((have hb := HB.out; have hv := HV.out; unfold RightP okT; rw [sz0]; omega)))
  try simp only [Act.put, List.setIfInBounds_toArray, List.set_cons_zero, List.set_cons_succ]
  refine wpHeld_val (v := ?vz4n14) (by rfl) ?yz4n14 ?rz4n14
  case yz4n14 => (intro wS hSw; go_simp; try (with_reducible rfl))
  try simp only [Act.put, List.setIfInBounds_toArray, List.set_cons_zero, List.set_cons_succ]
  refine wpHeld_val (v := ?vz4n15) (by rfl) ?yz4n15 ?rz4n15
  case yz4n15 => (intro wS hSw; go_simp; try (with_reducible rfl))
  try simp only [Act.put, List.setIfInBounds_toArray, List.set_cons_zero, List.set_cons_succ]
  refine wpHeld_val (v := ?vz4n16) (by rfl) ?yz4n16 ?rz4n16
  case yz4n16 => (intro wS hSw; obtain ⟨q0_0, q0_1, q0_2, q0_3, q0_4, q0_5, q0_6, q0_7⟩ := (hSw).b0.cells8; obtain ⟨q1_0, q1_1, q1_2, q1_3, q1_4, q1_5, q1_6, q1_7⟩ := (hSw).tl.b0.cells8; obtain ⟨q2_0, q2_1, q2_2, q2_3, q2_4, q2_5, q2_6, q2_7⟩ := (hSw).tl.tl.b0.cells8; go_simp; try (with_reducible rfl))
  try simp only [Act.put, List.setIfInBounds_toArray, List.set_cons_zero, List.set_cons_succ]
  refine wpHeld_run (.int .i64 0) (by rfl) ?cz4n17 ?rz4n17
  case cz4n17 => (intro wS hSw K hK; go_simp; (go_at_call 12; (with_reducible refine (over_any _ _ _ _ _ _ _ _ _).mono ?_); rintro e w5 ⟨rfl, hx⟩); go_wp2_with fail; exact hK.out _ (hSw.keep hx))
  try simp only [Act.put, List.setIfInBounds_toArray, List.set_cons_zero, List.set_cons_succ]
  refine wpHeld_val (v := .bool true) (by rfl) ?yz4n18 ?rz4n18
  case yz4n18 => (intro wS hSw; go_simp; try (first | with_reducible rfl | (split <;> omega)))
  try simp only [Act.put, List.setIfInBounds_toArray, List.set_cons_zero, List.set_cons_succ]
  refine wpHeld_val (v := ?vz4n19) (by rfl) ?yz4n19 ?rz4n19
  case yz4n19 => (intro wS hSw; go_simp; try (with_reducible rfl))
  try simp only [Act.put, List.setIfInBounds_toArray, List.set_cons_zero, List.set_cons_succ]
  refine wpHeld_val (v := ?vz4n20) (by rfl) ?yz4n20 ?rz4n20
  case yz4n20 => (intro wS hSw; go_simp; try (with_reducible rfl))
  try simp only [Act.put, List.setIfInBounds_toArray, List.set_cons_zero, List.set_cons_succ]
  refine wpHeld_val (v := ?vz4n21) (by rfl) ?yz4n21 ?rz4n21
  case yz4n21 => (intro wS hSw; obtain ⟨q0_0, q0_1, q0_2, q0_3, q0_4, q0_5, q0_6, q0_7⟩ := (hSw).b0.cells8; obtain ⟨q1_0, q1_1, q1_2, q1_3, q1_4, q1_5, q1_6, q1_7⟩ := (hSw).tl.b0.cells8; obtain ⟨q2_0, q2_1, q2_2, q2_3, q2_4, q2_5, q2_6, q2_7⟩ := (hSw).tl.tl.b0.cells8; go_simp; try (with_reducible rfl))
  try simp only [Act.put, List.setIfInBounds_toArray, List.set_cons_zero, List.set_cons_succ]
  refine wpHeld_run (.bool (decide (RightP a1 { data := #[120] } 0 0 0 0 a2))) (by rfl) ?cz4n22 ?rz4n22
  case cz4n22 => (intro wS hSw K hK; go_simp; (go_at_call 10; (with_reducible refine (right_any _ _ _ _ _ _ _ _ _).mono ?_); rintro e w5 ⟨rfl, hx⟩); go_wp2_with fail; exact hK.out _ (hSw.keep hx))
  try simp only [Act.put, List.setIfInBounds_toArray, List.set_cons_zero, List.set_cons_succ]
  refine wpHeld_val (v := ?vz4n23) (by rfl) ?yz4n23 ?rz4n23
  case yz4n23 => (intro wS hSw; go_simp; try (with_reducible rfl))
  try simp only [Act.put, List.setIfInBounds_toArray, List.set_cons_zero, List.set_cons_succ]
  refine wpHeld_val (v := ?vz4n24) (by rfl) ?yz4n24 ?rz4n24
  case yz4n24 => (intro wS hSw; go_simp; try (with_reducible rfl))
  try simp only [Act.put, List.setIfInBounds_toArray, List.set_cons_zero, List.set_cons_succ]
  refine wpHeld_val (v := ?vz4n25) (by rfl) ?yz4n25 ?rz4n25
  case yz4n25 => (intro wS hSw; go_simp; try (with_reducible rfl))
  try simp only [Act.put, List.setIfInBounds_toArray, List.set_cons_zero, List.set_cons_succ]
  refine wpHeld_val (v := ?vz4n26) (by rfl) ?yz4n26 ?rz4n26
  case yz4n26 => (intro wS hSw; go_simp; try (with_reducible rfl))
  try simp only [Act.put, List.setIfInBounds_toArray, List.set_cons_zero, List.set_cons_succ]
  refine wpHeld_val (v := ?vz4n27) (by rfl) ?yz4n27 ?rz4n27
  case yz4n27 => (intro wS hSw; go_simp; try (with_reducible rfl))
  try simp only [Act.put, List.setIfInBounds_toArray, List.set_cons_zero, List.set_cons_succ]
  refine wpHeld_val (v := ?vz4n28) (by rfl) ?yz4n28 ?rz4n28
  case yz4n28 => (intro wS hSw; go_simp; try (with_reducible rfl))
  try simp only [Act.put, List.setIfInBounds_toArray, List.set_cons_zero, List.set_cons_succ]
  refine wpHeld_skip (by rfl) ?_
  try simp only [Act.put, List.setIfInBounds_toArray, List.set_cons_zero, List.set_cons_succ]
  refine wpHeld_skip (by rfl) ?_
  try simp only [Act.put, List.setIfInBounds_toArray, List.set_cons_zero, List.set_cons_succ]
  refine wpHeld_val (v := ?vz4n31) (by rfl) ?yz4n31 ?rz4n31
  case yz4n31 => (intro wS hSw; go_simp; try (with_reducible rfl))
  try simp only [Act.put, List.setIfInBounds_toArray, List.set_cons_zero, List.set_cons_succ]
  refine wpHeld_val (v := .bool true) (by rfl) ?yz4n32 ?rz4n32
  case yz4n32 => (intro wS hSw; go_simp; try ((have hb := HB.out; have hv := HV.out; unfold RightP okT; rw [sz1]; omega)))
  try simp only [Act.put, List.setIfInBounds_toArray, List.set_cons_zero, List.set_cons_succ]
  refine wpHeld_val (v := ?vz4n33) (by rfl) ?yz4n33 ?rz4n33
  case yz4n33 => (intro wS hSw; go_simp; try (with_reducible rfl))
  try simp only [Act.put, List.setIfInBounds_toArray, List.set_cons_zero, List.set_cons_succ]
  refine wpHeld_val (v := ?vz4n34) (by rfl) ?yz4n34 ?rz4n34
  case yz4n34 => (intro wS hSw; go_simp; try (with_reducible rfl))
  try simp only [Act.put, List.setIfInBounds_toArray, List.set_cons_zero, List.set_cons_succ]
  refine wpHeld_val (v := ?vz4n35) (by rfl) ?yz4n35 ?rz4n35
  case yz4n35 => (intro wS hSw; obtain ⟨q0_0, q0_1, q0_2, q0_3, q0_4, q0_5, q0_6, q0_7⟩ := (hSw).b0.cells8; obtain ⟨q1_0, q1_1, q1_2, q1_3, q1_4, q1_5, q1_6, q1_7⟩ := (hSw).tl.b0.cells8; obtain ⟨q2_0, q2_1, q2_2, q2_3, q2_4, q2_5, q2_6, q2_7⟩ := (hSw).tl.tl.b0.cells8; go_simp; try (with_reducible rfl))
  try simp only [Act.put, List.setIfInBounds_toArray, List.set_cons_zero, List.set_cons_succ]
  refine wpHeld_run (.bool (decide (RightP a1 { data := #[] } 0 0 1 0 a2))) (by rfl) ?cz4n36 ?rz4n36
  case cz4n36 => (intro wS hSw K hK; go_simp; (go_at_call 10; (with_reducible refine (right_any _ _ _ _ _ _ _ _ _).mono ?_); rintro e w5 ⟨rfl, hx⟩); go_wp2_with fail; exact hK.out _ (hSw.keep hx))
  try simp only [Act.put, List.setIfInBounds_toArray, List.set_cons_zero, List.set_cons_succ]
  refine wpHeld_val (v := .bool true) (by rfl) ?yz4n37 ?rz4n37
  case yz4n37 => (intro wS hSw; go_simp; try ((have hb := HB.out; have hv := HV.out; unfold RightP okT; rw [sz0]; omega)))
  try simp only [Act.put, List.setIfInBounds_toArray, List.set_cons_zero, List.set_cons_succ]
  refine wpHeld_val (v := ?vz4n38) (by rfl) ?yz4n38 ?rz4n38
  case yz4n38 => (intro wS hSw; go_simp; try (with_reducible rfl))
  try simp only [Act.put, List.setIfInBounds_toArray, List.set_cons_zero, List.set_cons_succ]
  refine wpHeld_val (v := ?vz4n39) (by rfl) ?yz4n39 ?rz4n39
  case yz4n39 => (intro wS hSw; go_simp; try (with_reducible rfl))
  try simp only [Act.put, List.setIfInBounds_toArray, List.set_cons_zero, List.set_cons_succ]
  refine wpHeld_nil ?_
  intro wS hSw
  go_wp2
  go_ret
  exact ⟨rfl, hSw.2⟩

set_option maxRecDepth 100000 in
set_option maxHeartbeats 1000000 in
theorem bare_4i (a0 : Int) (a1 : Int) (a2 : Int) (W : World) (w0 : (Lit.int .u32 a0).wf = true) (w1 : (Lit.int .i64 a1).wf = true) (w2 : (Lit.int .i64 a2).wf = true) (hb : a1 = 4) (hv : 0 ≤ a2 ∧ a2 ≤ 1099511627776) :
    Calls Try.prog 4 #[.int .u32 a0, .int .i64 a1, .int .i64 a2] W fun e w' => e = .returned (.bool true) ∧ Below W.heap.size W w' := by
  have HB := Lib.hid hb
  have HV := Lib.hid hv
  have k0 : (a1 == 0) = false := beq_eq_false_iff_ne.2 (by omega)
  have k1 : (a1 == 1) = false := beq_eq_false_iff_ne.2 (by omega)
  have k2 : (a1 == 2) = false := beq_eq_false_iff_ne.2 (by omega)
  have k3 : (a1 == 3) = false := beq_eq_false_iff_ne.2 (by omega)
  have k4 : (a1 == 4) = true := beq_iff_eq.2 (by omega)
  have k5 : (a1 == 5) = false := beq_eq_false_iff_ne.2 (by omega)
  clear hb
  obtain ⟨hv1, hv2⟩ := hv
  have h0 : decide (0 ≤ a2) = true := decide_eq_true (by omega)
  have hM : decide (a2 ≤ 1099511627776) = true := decide_eq_true (by omega)
  go_enter Try.func4, Try.ntmps4
  go_upto_region 9 with (first | (go_at_call 7; (with_reducible refine (awake_any _).mono ?_); rintro e w1 ⟨rfl, hx⟩; have H1 := Lib.hid hx; clear hx) | (go_at_call 14; (with_reducible refine (bare_any _ _ _ _).mono ?_); rintro e wy ⟨rfl, hx⟩; have H2 := Lib.hid (((HeldB.nil (lowA (lowA (lowA (low H1.out hx) (.cells #[.int .u32 a0, .int .i64 a1, .string { data := #[] }, .int .i64 0, .int .i64 0, .int .i64 0, .int .i64 0, .int .i64 a2] 25)) (.cells #[.int .u32 a0, .int .i64 a1, .string { data := #[120] }, .int .i64 0, .int .i64 0, .int .i64 0, .int .i64 0, .int .i64 a2] 25)) (.cells #[.int .u32 a0, .int .i64 a1, .string { data := #[] }, .int .i64 0, .int .i64 0, .int .i64 1, .int .i64 0, .int .i64 a2] 25))).cons (((Blk.new wy #[.int .u32 a0, .int .i64 a1, .string { data := #[] }, .int .i64 0, .int .i64 0, .int .i64 0, .int .i64 0, .int .i64 a2] 25).alloc (.cells #[.int .u32 a0, .int .i64 a1, .string { data := #[120] }, .int .i64 0, .int .i64 0, .int .i64 0, .int .i64 0, .int .i64 a2] 25)).alloc (.cells #[.int .u32 a0, .int .i64 a1, .string { data := #[] }, .int .i64 0, .int .i64 0, .int .i64 1, .int .i64 0, .int .i64 a2] 25))).cons ((Blk.new2 wy (.cells #[.int .u32 a0, .int .i64 a1, .string { data := #[] }, .int .i64 0, .int .i64 0, .int .i64 0, .int .i64 0, .int .i64 a2] 25) #[.int .u32 a0, .int .i64 a1, .string { data := #[120] }, .int .i64 0, .int .i64 0, .int .i64 0, .int .i64 0, .int .i64 a2] 25).alloc (.cells #[.int .u32 a0, .int .i64 a1, .string { data := #[] }, .int .i64 0, .int .i64 0, .int .i64 1, .int .i64 0, .int .i64 a2] 25)) |>.cons (Blk.new3 wy (.cells #[.int .u32 a0, .int .i64 a1, .string { data := #[] }, .int .i64 0, .int .i64 0, .int .i64 0, .int .i64 0, .int .i64 a2] 25) (.cells #[.int .u32 a0, .int .i64 a1, .string { data := #[120] }, .int .i64 0, .int .i64 0, .int .i64 0, .int .i64 0, .int .i64 a2] 25) #[.int .u32 a0, .int .i64 a1, .string { data := #[] }, .int .i64 0, .int .i64 0, .int .i64 1, .int .i64 0, .int .i64 a2] 25)); clear hx))
  refine wp_region_seq (S := HeldB W [((wy.heap.size + 1 + 1), #[.int .u32 a0, .int .i64 a1, .string { data := #[] }, .int .i64 0, .int .i64 0, .int .i64 1, .int .i64 0, .int .i64 a2], 25), ((wy.heap.size + 1), #[.int .u32 a0, .int .i64 a1, .string { data := #[120] }, .int .i64 0, .int .i64 0, .int .i64 0, .int .i64 0, .int .i64 a2], 25), (wy.heap.size, #[.int .u32 a0, .int .i64 a1, .string { data := #[] }, .int .i64 0, .int .i64 0, .int .i64 0, .int .i64 0, .int .i64 a2], 25)]) 40 (by kernel_rfl) (by kernel_rfl) H2.out.drew ?_
  simp only [List.take_succ_cons, List.take_zero, List.drop_succ_cons, List.drop_zero]
  refine wpHeld_val (v := ?vz4i0) (by rfl) ?yz4i0 ?rz4i0
  case yz4i0 => (intro wS hSw; go_simp; try (with_reducible rfl))
  try simp only [Act.put, List.setIfInBounds_toArray, List.set_cons_zero, List.set_cons_succ]
  refine wpHeld_val (v := ?vz4i1) (by rfl) ?yz4i1 ?rz4i1
  case yz4i1 => (intro wS hSw; go_simp; try (with_reducible rfl))
  try simp only [Act.put, List.setIfInBounds_toArray, List.set_cons_zero, List.set_cons_succ]
  refine wpHeld_val (v := ?vz4i2) (by rfl) ?yz4i2 ?rz4i2
  case yz4i2 => (intro wS hSw; obtain ⟨q0_0, q0_1, q0_2, q0_3, q0_4, q0_5, q0_6, q0_7⟩ := (hSw).b0.cells8; obtain ⟨q1_0, q1_1, q1_2, q1_3, q1_4, q1_5, q1_6, q1_7⟩ := (hSw).tl.b0.cells8; obtain ⟨q2_0, q2_1, q2_2, q2_3, q2_4, q2_5, q2_6, q2_7⟩ := (hSw).tl.tl.b0.cells8; go_simp; try (with_reducible rfl))
  try simp only [Act.put, List.setIfInBounds_toArray, List.set_cons_zero, List.set_cons_succ]
  refine wpHeld_val (v := ?vz4i3) (by rfl) ?yz4i3 ?rz4i3
  case yz4i3 => (intro wS hSw; go_simp; try (with_reducible rfl))
  try simp only [Act.put, List.setIfInBounds_toArray, List.set_cons_zero, List.set_cons_succ]
  refine wpHeld_val (v := ?vz4i4) (by rfl) ?yz4i4 ?rz4i4
  case yz4i4 => (intro wS hSw; go_simp; try (with_reducible rfl))
  try simp only [Act.put, List.setIfInBounds_toArray, List.set_cons_zero, List.set_cons_succ]
  refine wpHeld_val (v := ?vz4i5) (by rfl) ?yz4i5 ?rz4i5
  case yz4i5 => (intro wS hSw; go_simp; try (with_reducible rfl))
  try simp only [Act.put, List.setIfInBounds_toArray, List.set_cons_zero, List.set_cons_succ]
  refine wpHeld_run (.agg #[.int .u32 a0, .int .i64 a1, .string { data := #[] }, .int .i64 0, .int .i64 0, .int .i64 0, .int .i64 0, .int .i64 a2]) (by rfl) ?cz4i6 ?rz4i6
  case cz4i6 => (intro wS hSw K hK; go_simp; (go_at_call 15; (with_reducible refine (rbare_any _ _ _ _).mono ?_); rintro e w5 ⟨rfl, hx⟩); go_wp2_with fail; exact hK.out _ (hSw.keep hx))
  try simp only [Act.put, List.setIfInBounds_toArray, List.set_cons_zero, List.set_cons_succ]
  refine wpHeld_val (v := .bool true) (by rfl) ?yz4i7 ?rz4i7
  case yz4i7 => (intro wS hSw; go_simp; try (first | with_reducible rfl | (split <;> omega)))
  try simp only [Act.put, List.setIfInBounds_toArray, List.set_cons_zero, List.set_cons_succ]
  refine wpHeld_val (v := ?vz4i8) (by rfl) ?yz4i8 ?rz4i8
  case yz4i8 => (intro wS hSw; go_simp; try (with_reducible rfl))
  try simp only [Act.put, List.setIfInBounds_toArray, List.set_cons_zero, List.set_cons_succ]
  refine wpHeld_val (v := ?vz4i9) (by rfl) ?yz4i9 ?rz4i9
  case yz4i9 => (intro wS hSw; go_simp; try (with_reducible rfl))
  try simp only [Act.put, List.setIfInBounds_toArray, List.set_cons_zero, List.set_cons_succ]
  refine wpHeld_val (v := ?vz4i10) (by rfl) ?yz4i10 ?rz4i10
  case yz4i10 => (intro wS hSw; obtain ⟨q0_0, q0_1, q0_2, q0_3, q0_4, q0_5, q0_6, q0_7⟩ := (hSw).b0.cells8; obtain ⟨q1_0, q1_1, q1_2, q1_3, q1_4, q1_5, q1_6, q1_7⟩ := (hSw).tl.b0.cells8; obtain ⟨q2_0, q2_1, q2_2, q2_3, q2_4, q2_5, q2_6, q2_7⟩ := (hSw).tl.tl.b0.cells8; go_simp; try (with_reducible rfl))
  try simp only [Act.put, List.setIfInBounds_toArray, List.set_cons_zero, List.set_cons_succ]
  refine wpHeld_run (.bool (decide (RightP a1 { data := #[] } 0 0 0 0 a2))) (by rfl) ?cz4i11 ?rz4i11
  case cz4i11 => (intro wS hSw K hK; go_simp; (go_at_call 10; (with_reducible refine (right_any _ _ _ _ _ _ _ _ _).mono ?_); rintro e w5 ⟨rfl, hx⟩); go_wp2_with fail; exact hK.out _ (hSw.keep hx))
  try simp only [Act.put, List.setIfInBounds_toArray, List.set_cons_zero, List.set_cons_succ]
  refine wpHeld_val (v := ?vz4i12) (by rfl) ?yz4i12 ?rz4i12
  case yz4i12 => (intro wS hSw; go_simp; try (with_reducible rfl))
  try simp only [Act.put, List.setIfInBounds_toArray, List.set_cons_zero, List.set_cons_succ]
  refine wpHeld_val (v := .bool true) (by rfl) ?yz4i13 ?rz4i13
  case yz4i13 => (intro wS hSw; go_simp; try ((have hb := HB.out; have hv := HV.out; unfold RightP okT; rw [sz0]; omega)))
  try simp only [Act.put, List.setIfInBounds_toArray, List.set_cons_zero, List.set_cons_succ]
  refine wpHeld_val (v := ?vz4i14) (by rfl) ?yz4i14 ?rz4i14
  case yz4i14 => (intro wS hSw; go_simp; try (with_reducible rfl))
  try simp only [Act.put, List.setIfInBounds_toArray, List.set_cons_zero, List.set_cons_succ]
  refine wpHeld_val (v := ?vz4i15) (by rfl) ?yz4i15 ?rz4i15
  case yz4i15 => (intro wS hSw; go_simp; try (with_reducible rfl))
  try simp only [Act.put, List.setIfInBounds_toArray, List.set_cons_zero, List.set_cons_succ]
  refine wpHeld_val (v := ?vz4i16) (by rfl) ?yz4i16 ?rz4i16
  case yz4i16 => (intro wS hSw; obtain ⟨q0_0, q0_1, q0_2, q0_3, q0_4, q0_5, q0_6, q0_7⟩ := (hSw).b0.cells8; obtain ⟨q1_0, q1_1, q1_2, q1_3, q1_4, q1_5, q1_6, q1_7⟩ := (hSw).tl.b0.cells8; obtain ⟨q2_0, q2_1, q2_2, q2_3, q2_4, q2_5, q2_6, q2_7⟩ := (hSw).tl.tl.b0.cells8; go_simp; try (with_reducible rfl))
  try simp only [Act.put, List.setIfInBounds_toArray, List.set_cons_zero, List.set_cons_succ]
  refine wpHeld_run (.int .i64 0) (by rfl) ?cz4i17 ?rz4i17
  case cz4i17 => (intro wS hSw K hK; go_simp; (go_at_call 12; (with_reducible refine (over_any _ _ _ _ _ _ _ _ _).mono ?_); rintro e w5 ⟨rfl, hx⟩); go_wp2_with fail; exact hK.out _ (hSw.keep hx))
  try simp only [Act.put, List.setIfInBounds_toArray, List.set_cons_zero, List.set_cons_succ]
  refine wpHeld_val (v := .bool true) (by rfl) ?yz4i18 ?rz4i18
  case yz4i18 => (intro wS hSw; go_simp; try (first | with_reducible rfl | (split <;> omega)))
  try simp only [Act.put, List.setIfInBounds_toArray, List.set_cons_zero, List.set_cons_succ]
  refine wpHeld_val (v := ?vz4i19) (by rfl) ?yz4i19 ?rz4i19
  case yz4i19 => (intro wS hSw; go_simp; try (with_reducible rfl))
  try simp only [Act.put, List.setIfInBounds_toArray, List.set_cons_zero, List.set_cons_succ]
  refine wpHeld_val (v := ?vz4i20) (by rfl) ?yz4i20 ?rz4i20
  case yz4i20 => (intro wS hSw; go_simp; try (with_reducible rfl))
  try simp only [Act.put, List.setIfInBounds_toArray, List.set_cons_zero, List.set_cons_succ]
  refine wpHeld_val (v := ?vz4i21) (by rfl) ?yz4i21 ?rz4i21
  case yz4i21 => (intro wS hSw; obtain ⟨q0_0, q0_1, q0_2, q0_3, q0_4, q0_5, q0_6, q0_7⟩ := (hSw).b0.cells8; obtain ⟨q1_0, q1_1, q1_2, q1_3, q1_4, q1_5, q1_6, q1_7⟩ := (hSw).tl.b0.cells8; obtain ⟨q2_0, q2_1, q2_2, q2_3, q2_4, q2_5, q2_6, q2_7⟩ := (hSw).tl.tl.b0.cells8; go_simp; try (with_reducible rfl))
  try simp only [Act.put, List.setIfInBounds_toArray, List.set_cons_zero, List.set_cons_succ]
  refine wpHeld_run (.bool (decide (RightP a1 { data := #[120] } 0 0 0 0 a2))) (by rfl) ?cz4i22 ?rz4i22
  case cz4i22 => (intro wS hSw K hK; go_simp; (go_at_call 10; (with_reducible refine (right_any _ _ _ _ _ _ _ _ _).mono ?_); rintro e w5 ⟨rfl, hx⟩); go_wp2_with fail; exact hK.out _ (hSw.keep hx))
  try simp only [Act.put, List.setIfInBounds_toArray, List.set_cons_zero, List.set_cons_succ]
  refine wpHeld_val (v := ?vz4i23) (by rfl) ?yz4i23 ?rz4i23
  case yz4i23 => (intro wS hSw; go_simp; try (with_reducible rfl))
  try simp only [Act.put, List.setIfInBounds_toArray, List.set_cons_zero, List.set_cons_succ]
  refine wpHeld_val (v := ?vz4i24) (by rfl) ?yz4i24 ?rz4i24
  case yz4i24 => (intro wS hSw; go_simp; try (with_reducible rfl))
  try simp only [Act.put, List.setIfInBounds_toArray, List.set_cons_zero, List.set_cons_succ]
  refine wpHeld_val (v := ?vz4i25) (by rfl) ?yz4i25 ?rz4i25
  case yz4i25 => (intro wS hSw; go_simp; try (with_reducible rfl))
  try simp only [Act.put, List.setIfInBounds_toArray, List.set_cons_zero, List.set_cons_succ]
  refine wpHeld_val (v := ?vz4i26) (by rfl) ?yz4i26 ?rz4i26
  case yz4i26 => (intro wS hSw; go_simp; try (with_reducible rfl))
  try simp only [Act.put, List.setIfInBounds_toArray, List.set_cons_zero, List.set_cons_succ]
  refine wpHeld_val (v := ?vz4i27) (by rfl) ?yz4i27 ?rz4i27
  case yz4i27 => (intro wS hSw; go_simp; try (with_reducible rfl))
  try simp only [Act.put, List.setIfInBounds_toArray, List.set_cons_zero, List.set_cons_succ]
  refine wpHeld_val (v := ?vz4i28) (by rfl) ?yz4i28 ?rz4i28
  case yz4i28 => (intro wS hSw; go_simp; try (with_reducible rfl))
  try simp only [Act.put, List.setIfInBounds_toArray, List.set_cons_zero, List.set_cons_succ]
  refine wpHeld_val (v := ?vz4i29) (by rfl) ?yz4i29 ?rz4i29
  case yz4i29 => (intro wS hSw; go_simp; try (with_reducible rfl))
  try simp only [Act.put, List.setIfInBounds_toArray, List.set_cons_zero, List.set_cons_succ]
  refine wpHeld_val (v := ?vz4i30) (by rfl) ?yz4i30 ?rz4i30
  case yz4i30 => (intro wS hSw; go_simp; try (with_reducible rfl))
  try simp only [Act.put, List.setIfInBounds_toArray, List.set_cons_zero, List.set_cons_succ]
  refine wpHeld_val (v := ?vz4i31) (by rfl) ?yz4i31 ?rz4i31
  case yz4i31 => (intro wS hSw; go_simp; try (with_reducible rfl))
  try simp only [Act.put, List.setIfInBounds_toArray, List.set_cons_zero, List.set_cons_succ]
  refine wpHeld_val (v := .bool true) (by rfl) ?yz4i32 ?rz4i32
  case yz4i32 => (intro wS hSw; go_simp; try ((have hb := HB.out; have hv := HV.out; unfold RightP okT; rw [sz1]; omega)))
  try simp only [Act.put, List.setIfInBounds_toArray, List.set_cons_zero, List.set_cons_succ]
  refine wpHeld_val (v := ?vz4i33) (by rfl) ?yz4i33 ?rz4i33
  case yz4i33 => (intro wS hSw; go_simp; try (with_reducible rfl))
  try simp only [Act.put, List.setIfInBounds_toArray, List.set_cons_zero, List.set_cons_succ]
  refine wpHeld_val (v := ?vz4i34) (by rfl) ?yz4i34 ?rz4i34
  case yz4i34 => (intro wS hSw; go_simp; try (with_reducible rfl))
  try simp only [Act.put, List.setIfInBounds_toArray, List.set_cons_zero, List.set_cons_succ]
  refine wpHeld_val (v := ?vz4i35) (by rfl) ?yz4i35 ?rz4i35
  case yz4i35 => (intro wS hSw; obtain ⟨q0_0, q0_1, q0_2, q0_3, q0_4, q0_5, q0_6, q0_7⟩ := (hSw).b0.cells8; obtain ⟨q1_0, q1_1, q1_2, q1_3, q1_4, q1_5, q1_6, q1_7⟩ := (hSw).tl.b0.cells8; obtain ⟨q2_0, q2_1, q2_2, q2_3, q2_4, q2_5, q2_6, q2_7⟩ := (hSw).tl.tl.b0.cells8; go_simp; try (with_reducible rfl))
  try simp only [Act.put, List.setIfInBounds_toArray, List.set_cons_zero, List.set_cons_succ]
  refine wpHeld_run (.bool (decide (RightP a1 { data := #[] } 0 0 1 0 a2))) (by rfl) ?cz4i36 ?rz4i36
  case cz4i36 => (intro wS hSw K hK; go_simp; (go_at_call 10; (with_reducible refine (right_any _ _ _ _ _ _ _ _ _).mono ?_); rintro e w5 ⟨rfl, hx⟩); go_wp2_with fail; exact hK.out _ (hSw.keep hx))
  try simp only [Act.put, List.setIfInBounds_toArray, List.set_cons_zero, List.set_cons_succ]
  refine wpHeld_val (v := .bool true) (by rfl) ?yz4i37 ?rz4i37
  case yz4i37 => (intro wS hSw; go_simp; try ((have hb := HB.out; have hv := HV.out; unfold RightP okT; rw [sz0]; omega)))
  try simp only [Act.put, List.setIfInBounds_toArray, List.set_cons_zero, List.set_cons_succ]
  refine wpHeld_val (v := ?vz4i38) (by rfl) ?yz4i38 ?rz4i38
  case yz4i38 => (intro wS hSw; go_simp; try (with_reducible rfl))
  try simp only [Act.put, List.setIfInBounds_toArray, List.set_cons_zero, List.set_cons_succ]
  refine wpHeld_val (v := ?vz4i39) (by rfl) ?yz4i39 ?rz4i39
  case yz4i39 => (intro wS hSw; go_simp; try (with_reducible rfl))
  try simp only [Act.put, List.setIfInBounds_toArray, List.set_cons_zero, List.set_cons_succ]
  refine wpHeld_nil ?_
  intro wS hSw
  go_wp2
  go_ret
  exact ⟨rfl, hSw.2⟩

set_option maxRecDepth 100000 in
set_option maxHeartbeats 1000000 in
theorem bare_4b (a0 : Int) (a1 : Int) (a2 : Int) (W : World) (w0 : (Lit.int .u32 a0).wf = true) (w1 : (Lit.int .i64 a1).wf = true) (w2 : (Lit.int .i64 a2).wf = true) (hb : a1 = 4) (hv : 1099511627776 < a2) :
    Calls Try.prog 4 #[.int .u32 a0, .int .i64 a1, .int .i64 a2] W fun e w' => e = .returned (.bool true) ∧ Below W.heap.size W w' := by
  have HB := Lib.hid hb
  have HV := Lib.hid hv
  have k0 : (a1 == 0) = false := beq_eq_false_iff_ne.2 (by omega)
  have k1 : (a1 == 1) = false := beq_eq_false_iff_ne.2 (by omega)
  have k2 : (a1 == 2) = false := beq_eq_false_iff_ne.2 (by omega)
  have k3 : (a1 == 3) = false := beq_eq_false_iff_ne.2 (by omega)
  have k4 : (a1 == 4) = true := beq_iff_eq.2 (by omega)
  have k5 : (a1 == 5) = false := beq_eq_false_iff_ne.2 (by omega)
  clear hb
  skip
  have h0 : decide (0 ≤ a2) = true := decide_eq_true (by omega)
  have hM : decide (a2 ≤ 1099511627776) = false := decide_eq_false (by omega)
  go_enter Try.func4, Try.ntmps4
  go_upto_region 9 with (first | (go_at_call 7; (with_reducible refine (awake_any _).mono ?_); rintro e w1 ⟨rfl, hx⟩; have H1 := Lib.hid hx; clear hx) | (go_at_call 14; (with_reducible refine (bare_any _ _ _ _).mono ?_); rintro e wy ⟨rfl, hx⟩; have H2 := Lib.hid (((HeldB.nil (lowA (lowA (lowA (low H1.out hx) (.cells #[.int .u32 a0, .int .i64 a1, .string { data := #[] }, .int .i64 0, .int .i64 0, .int .i64 0, .int .i64 0, .int .i64 a2] 25)) (.cells #[.int .u32 a0, .int .i64 a1, .string { data := #[120] }, .int .i64 0, .int .i64 0, .int .i64 0, .int .i64 0, .int .i64 a2] 25)) (.cells #[.int .u32 a0, .int .i64 a1, .string { data := #[] }, .int .i64 0, .int .i64 0, .int .i64 1, .int .i64 0, .int .i64 a2] 25))).cons (((Blk.new wy #[.int .u32 a0, .int .i64 a1, .string { data := #[] }, .int .i64 0, .int .i64 0, .int .i64 0, .int .i64 0, .int .i64 a2] 25).alloc (.cells #[.int .u32 a0, .int .i64 a1, .string { data := #[120] }, .int .i64 0, .int .i64 0, .int .i64 0, .int .i64 0, .int .i64 a2] 25)).alloc (.cells #[.int .u32 a0, .int .i64 a1, .string { data := #[] }, .int .i64 0, .int .i64 0, .int .i64 1, .int .i64 0, .int .i64 a2] 25))).cons ((Blk.new2 wy (.cells #[.int .u32 a0, .int .i64 a1, .string { data := #[] }, .int .i64 0, .int .i64 0, .int .i64 0, .int .i64 0, .int .i64 a2] 25) #[.int .u32 a0, .int .i64 a1, .string { data := #[120] }, .int .i64 0, .int .i64 0, .int .i64 0, .int .i64 0, .int .i64 a2] 25).alloc (.cells #[.int .u32 a0, .int .i64 a1, .string { data := #[] }, .int .i64 0, .int .i64 0, .int .i64 1, .int .i64 0, .int .i64 a2] 25)) |>.cons (Blk.new3 wy (.cells #[.int .u32 a0, .int .i64 a1, .string { data := #[] }, .int .i64 0, .int .i64 0, .int .i64 0, .int .i64 0, .int .i64 a2] 25) (.cells #[.int .u32 a0, .int .i64 a1, .string { data := #[120] }, .int .i64 0, .int .i64 0, .int .i64 0, .int .i64 0, .int .i64 a2] 25) #[.int .u32 a0, .int .i64 a1, .string { data := #[] }, .int .i64 0, .int .i64 0, .int .i64 1, .int .i64 0, .int .i64 a2] 25)); clear hx))
  refine wp_region_seq (S := HeldB W [((wy.heap.size + 1 + 1), #[.int .u32 a0, .int .i64 a1, .string { data := #[] }, .int .i64 0, .int .i64 0, .int .i64 1, .int .i64 0, .int .i64 a2], 25), ((wy.heap.size + 1), #[.int .u32 a0, .int .i64 a1, .string { data := #[120] }, .int .i64 0, .int .i64 0, .int .i64 0, .int .i64 0, .int .i64 a2], 25), (wy.heap.size, #[.int .u32 a0, .int .i64 a1, .string { data := #[] }, .int .i64 0, .int .i64 0, .int .i64 0, .int .i64 0, .int .i64 a2], 25)]) 40 (by kernel_rfl) (by kernel_rfl) H2.out.drew ?_
  simp only [List.take_succ_cons, List.take_zero, List.drop_succ_cons, List.drop_zero]
  refine wpHeld_val (v := ?vz4b0) (by rfl) ?yz4b0 ?rz4b0
  case yz4b0 => (intro wS hSw; go_simp; try (with_reducible rfl))
  try simp only [Act.put, List.setIfInBounds_toArray, List.set_cons_zero, List.set_cons_succ]
  refine wpHeld_val (v := ?vz4b1) (by rfl) ?yz4b1 ?rz4b1
  case yz4b1 => (intro wS hSw; go_simp; try (with_reducible rfl))
  try simp only [Act.put, List.setIfInBounds_toArray, List.set_cons_zero, List.set_cons_succ]
  refine wpHeld_val (v := ?vz4b2) (by rfl) ?yz4b2 ?rz4b2
  case yz4b2 => (intro wS hSw; obtain ⟨q0_0, q0_1, q0_2, q0_3, q0_4, q0_5, q0_6, q0_7⟩ := (hSw).b0.cells8; obtain ⟨q1_0, q1_1, q1_2, q1_3, q1_4, q1_5, q1_6, q1_7⟩ := (hSw).tl.b0.cells8; obtain ⟨q2_0, q2_1, q2_2, q2_3, q2_4, q2_5, q2_6, q2_7⟩ := (hSw).tl.tl.b0.cells8; go_simp; try (with_reducible rfl))
  try simp only [Act.put, List.setIfInBounds_toArray, List.set_cons_zero, List.set_cons_succ]
  refine wpHeld_val (v := ?vz4b3) (by rfl) ?yz4b3 ?rz4b3
  case yz4b3 => (intro wS hSw; go_simp; try (with_reducible rfl))
  try simp only [Act.put, List.setIfInBounds_toArray, List.set_cons_zero, List.set_cons_succ]
  refine wpHeld_val (v := ?vz4b4) (by rfl) ?yz4b4 ?rz4b4
  case yz4b4 => (intro wS hSw; go_simp; try (with_reducible rfl))
  try simp only [Act.put, List.setIfInBounds_toArray, List.set_cons_zero, List.set_cons_succ]
  refine wpHeld_val (v := ?vz4b5) (by rfl) ?yz4b5 ?rz4b5
  case yz4b5 => (intro wS hSw; go_simp; try (with_reducible rfl))
  try simp only [Act.put, List.setIfInBounds_toArray, List.set_cons_zero, List.set_cons_succ]
  refine wpHeld_run (.agg #[.int .u32 a0, .int .i64 a1, .string { data := #[] }, .int .i64 0, .int .i64 0, .int .i64 0, .int .i64 0, .int .i64 a2]) (by rfl) ?cz4b6 ?rz4b6
  case cz4b6 => (intro wS hSw K hK; go_simp; (go_at_call 15; (with_reducible refine (rbare_any _ _ _ _).mono ?_); rintro e w5 ⟨rfl, hx⟩); go_wp2_with fail; exact hK.out _ (hSw.keep hx))
  try simp only [Act.put, List.setIfInBounds_toArray, List.set_cons_zero, List.set_cons_succ]
  refine wpHeld_val (v := .bool true) (by rfl) ?yz4b7 ?rz4b7
  case yz4b7 => (intro wS hSw; go_simp; try (first | with_reducible rfl | (split <;> omega)))
  try simp only [Act.put, List.setIfInBounds_toArray, List.set_cons_zero, List.set_cons_succ]
  refine wpHeld_val (v := ?vz4b8) (by rfl) ?yz4b8 ?rz4b8
  case yz4b8 => (intro wS hSw; go_simp; try (with_reducible rfl))
  try simp only [Act.put, List.setIfInBounds_toArray, List.set_cons_zero, List.set_cons_succ]
  refine wpHeld_val (v := ?vz4b9) (by rfl) ?yz4b9 ?rz4b9
  case yz4b9 => (intro wS hSw; go_simp; try (with_reducible rfl))
  try simp only [Act.put, List.setIfInBounds_toArray, List.set_cons_zero, List.set_cons_succ]
  refine wpHeld_val (v := ?vz4b10) (by rfl) ?yz4b10 ?rz4b10
  case yz4b10 => (intro wS hSw; obtain ⟨q0_0, q0_1, q0_2, q0_3, q0_4, q0_5, q0_6, q0_7⟩ := (hSw).b0.cells8; obtain ⟨q1_0, q1_1, q1_2, q1_3, q1_4, q1_5, q1_6, q1_7⟩ := (hSw).tl.b0.cells8; obtain ⟨q2_0, q2_1, q2_2, q2_3, q2_4, q2_5, q2_6, q2_7⟩ := (hSw).tl.tl.b0.cells8; go_simp; try (with_reducible rfl))
  try simp only [Act.put, List.setIfInBounds_toArray, List.set_cons_zero, List.set_cons_succ]
  refine wpHeld_run (.bool (decide (RightP a1 { data := #[] } 0 0 0 0 a2))) (by rfl) ?cz4b11 ?rz4b11
  case cz4b11 => (intro wS hSw K hK; go_simp; (go_at_call 10; (with_reducible refine (right_any _ _ _ _ _ _ _ _ _).mono ?_); rintro e w5 ⟨rfl, hx⟩); go_wp2_with fail; exact hK.out _ (hSw.keep hx))
  try simp only [Act.put, List.setIfInBounds_toArray, List.set_cons_zero, List.set_cons_succ]
  refine wpHeld_val (v := ?vz4b12) (by rfl) ?yz4b12 ?rz4b12
  case yz4b12 => (intro wS hSw; go_simp; try (with_reducible rfl))
  try simp only [Act.put, List.setIfInBounds_toArray, List.set_cons_zero, List.set_cons_succ]
  refine wpHeld_val (v := .bool true) (by rfl) ?yz4b13 ?rz4b13
  case yz4b13 => (intro wS hSw; go_simp; try ((have hb := HB.out; have hv := HV.out; unfold RightP okT; rw [sz0]; omega)))
  try simp only [Act.put, List.setIfInBounds_toArray, List.set_cons_zero, List.set_cons_succ]
  refine wpHeld_val (v := ?vz4b14) (by rfl) ?yz4b14 ?rz4b14
  case yz4b14 => (intro wS hSw; go_simp; try (with_reducible rfl))
  try simp only [Act.put, List.setIfInBounds_toArray, List.set_cons_zero, List.set_cons_succ]
  refine wpHeld_val (v := ?vz4b15) (by rfl) ?yz4b15 ?rz4b15
  case yz4b15 => (intro wS hSw; go_simp; try (with_reducible rfl))
  try simp only [Act.put, List.setIfInBounds_toArray, List.set_cons_zero, List.set_cons_succ]
  refine wpHeld_val (v := ?vz4b16) (by rfl) ?yz4b16 ?rz4b16
  case yz4b16 => (intro wS hSw; obtain ⟨q0_0, q0_1, q0_2, q0_3, q0_4, q0_5, q0_6, q0_7⟩ := (hSw).b0.cells8; obtain ⟨q1_0, q1_1, q1_2, q1_3, q1_4, q1_5, q1_6, q1_7⟩ := (hSw).tl.b0.cells8; obtain ⟨q2_0, q2_1, q2_2, q2_3, q2_4, q2_5, q2_6, q2_7⟩ := (hSw).tl.tl.b0.cells8; go_simp; try (with_reducible rfl))
  try simp only [Act.put, List.setIfInBounds_toArray, List.set_cons_zero, List.set_cons_succ]
  refine wpHeld_run (.int .i64 0) (by rfl) ?cz4b17 ?rz4b17
  case cz4b17 => (intro wS hSw K hK; go_simp; (go_at_call 12; (with_reducible refine (over_any _ _ _ _ _ _ _ _ _).mono ?_); rintro e w5 ⟨rfl, hx⟩); go_wp2_with fail; exact hK.out _ (hSw.keep hx))
  try simp only [Act.put, List.setIfInBounds_toArray, List.set_cons_zero, List.set_cons_succ]
  refine wpHeld_val (v := .bool true) (by rfl) ?yz4b18 ?rz4b18
  case yz4b18 => (intro wS hSw; go_simp; try (first | with_reducible rfl | (split <;> omega)))
  try simp only [Act.put, List.setIfInBounds_toArray, List.set_cons_zero, List.set_cons_succ]
  refine wpHeld_val (v := ?vz4b19) (by rfl) ?yz4b19 ?rz4b19
  case yz4b19 => (intro wS hSw; go_simp; try (with_reducible rfl))
  try simp only [Act.put, List.setIfInBounds_toArray, List.set_cons_zero, List.set_cons_succ]
  refine wpHeld_val (v := ?vz4b20) (by rfl) ?yz4b20 ?rz4b20
  case yz4b20 => (intro wS hSw; go_simp; try (with_reducible rfl))
  try simp only [Act.put, List.setIfInBounds_toArray, List.set_cons_zero, List.set_cons_succ]
  refine wpHeld_val (v := ?vz4b21) (by rfl) ?yz4b21 ?rz4b21
  case yz4b21 => (intro wS hSw; obtain ⟨q0_0, q0_1, q0_2, q0_3, q0_4, q0_5, q0_6, q0_7⟩ := (hSw).b0.cells8; obtain ⟨q1_0, q1_1, q1_2, q1_3, q1_4, q1_5, q1_6, q1_7⟩ := (hSw).tl.b0.cells8; obtain ⟨q2_0, q2_1, q2_2, q2_3, q2_4, q2_5, q2_6, q2_7⟩ := (hSw).tl.tl.b0.cells8; go_simp; try (with_reducible rfl))
  try simp only [Act.put, List.setIfInBounds_toArray, List.set_cons_zero, List.set_cons_succ]
  refine wpHeld_run (.bool (decide (RightP a1 { data := #[120] } 0 0 0 0 a2))) (by rfl) ?cz4b22 ?rz4b22
  case cz4b22 => (intro wS hSw K hK; go_simp; (go_at_call 10; (with_reducible refine (right_any _ _ _ _ _ _ _ _ _).mono ?_); rintro e w5 ⟨rfl, hx⟩); go_wp2_with fail; exact hK.out _ (hSw.keep hx))
  try simp only [Act.put, List.setIfInBounds_toArray, List.set_cons_zero, List.set_cons_succ]
  refine wpHeld_val (v := ?vz4b23) (by rfl) ?yz4b23 ?rz4b23
  case yz4b23 => (intro wS hSw; go_simp; try (with_reducible rfl))
  try simp only [Act.put, List.setIfInBounds_toArray, List.set_cons_zero, List.set_cons_succ]
  refine wpHeld_val (v := ?vz4b24) (by rfl) ?yz4b24 ?rz4b24
  case yz4b24 => (intro wS hSw; go_simp; try (with_reducible rfl))
  try simp only [Act.put, List.setIfInBounds_toArray, List.set_cons_zero, List.set_cons_succ]
  refine wpHeld_val (v := ?vz4b25) (by rfl) ?yz4b25 ?rz4b25
  case yz4b25 => (intro wS hSw; go_simp; try (with_reducible rfl))
  try simp only [Act.put, List.setIfInBounds_toArray, List.set_cons_zero, List.set_cons_succ]
  refine wpHeld_val (v := ?vz4b26) (by rfl) ?yz4b26 ?rz4b26
  case yz4b26 => (intro wS hSw; go_simp; try (with_reducible rfl))
  try simp only [Act.put, List.setIfInBounds_toArray, List.set_cons_zero, List.set_cons_succ]
  refine wpHeld_val (v := ?vz4b27) (by rfl) ?yz4b27 ?rz4b27
  case yz4b27 => (intro wS hSw; go_simp; try (with_reducible rfl))
  try simp only [Act.put, List.setIfInBounds_toArray, List.set_cons_zero, List.set_cons_succ]
  refine wpHeld_val (v := ?vz4b28) (by rfl) ?yz4b28 ?rz4b28
  case yz4b28 => (intro wS hSw; go_simp; try (with_reducible rfl))
  try simp only [Act.put, List.setIfInBounds_toArray, List.set_cons_zero, List.set_cons_succ]
  refine wpHeld_val (v := ?vz4b29) (by rfl) ?yz4b29 ?rz4b29
  case yz4b29 => (intro wS hSw; go_simp; try (with_reducible rfl))
  try simp only [Act.put, List.setIfInBounds_toArray, List.set_cons_zero, List.set_cons_succ]
  refine wpHeld_val (v := ?vz4b30) (by rfl) ?yz4b30 ?rz4b30
  case yz4b30 => (intro wS hSw; go_simp; try (with_reducible rfl))
  try simp only [Act.put, List.setIfInBounds_toArray, List.set_cons_zero, List.set_cons_succ]
  refine wpHeld_val (v := ?vz4b31) (by rfl) ?yz4b31 ?rz4b31
  case yz4b31 => (intro wS hSw; go_simp; try (with_reducible rfl))
  try simp only [Act.put, List.setIfInBounds_toArray, List.set_cons_zero, List.set_cons_succ]
  refine wpHeld_val (v := .bool true) (by rfl) ?yz4b32 ?rz4b32
  case yz4b32 => (intro wS hSw; go_simp; try ((have hb := HB.out; have hv := HV.out; unfold RightP okT; rw [sz1]; omega)))
  try simp only [Act.put, List.setIfInBounds_toArray, List.set_cons_zero, List.set_cons_succ]
  refine wpHeld_val (v := ?vz4b33) (by rfl) ?yz4b33 ?rz4b33
  case yz4b33 => (intro wS hSw; go_simp; try (with_reducible rfl))
  try simp only [Act.put, List.setIfInBounds_toArray, List.set_cons_zero, List.set_cons_succ]
  refine wpHeld_val (v := ?vz4b34) (by rfl) ?yz4b34 ?rz4b34
  case yz4b34 => (intro wS hSw; go_simp; try (with_reducible rfl))
  try simp only [Act.put, List.setIfInBounds_toArray, List.set_cons_zero, List.set_cons_succ]
  refine wpHeld_val (v := ?vz4b35) (by rfl) ?yz4b35 ?rz4b35
  case yz4b35 => (intro wS hSw; obtain ⟨q0_0, q0_1, q0_2, q0_3, q0_4, q0_5, q0_6, q0_7⟩ := (hSw).b0.cells8; obtain ⟨q1_0, q1_1, q1_2, q1_3, q1_4, q1_5, q1_6, q1_7⟩ := (hSw).tl.b0.cells8; obtain ⟨q2_0, q2_1, q2_2, q2_3, q2_4, q2_5, q2_6, q2_7⟩ := (hSw).tl.tl.b0.cells8; go_simp; try (with_reducible rfl))
  try simp only [Act.put, List.setIfInBounds_toArray, List.set_cons_zero, List.set_cons_succ]
  refine wpHeld_run (.bool (decide (RightP a1 { data := #[] } 0 0 1 0 a2))) (by rfl) ?cz4b36 ?rz4b36
  case cz4b36 => (intro wS hSw K hK; go_simp; (go_at_call 10; (with_reducible refine (right_any _ _ _ _ _ _ _ _ _).mono ?_); rintro e w5 ⟨rfl, hx⟩); go_wp2_with fail; exact hK.out _ (hSw.keep hx))
  try simp only [Act.put, List.setIfInBounds_toArray, List.set_cons_zero, List.set_cons_succ]
  refine wpHeld_val (v := .bool true) (by rfl) ?yz4b37 ?rz4b37
  case yz4b37 => (intro wS hSw; go_simp; try ((have hb := HB.out; have hv := HV.out; unfold RightP okT; rw [sz0]; omega)))
  try simp only [Act.put, List.setIfInBounds_toArray, List.set_cons_zero, List.set_cons_succ]
  refine wpHeld_val (v := ?vz4b38) (by rfl) ?yz4b38 ?rz4b38
  case yz4b38 => (intro wS hSw; go_simp; try (with_reducible rfl))
  try simp only [Act.put, List.setIfInBounds_toArray, List.set_cons_zero, List.set_cons_succ]
  refine wpHeld_val (v := ?vz4b39) (by rfl) ?yz4b39 ?rz4b39
  case yz4b39 => (intro wS hSw; go_simp; try (with_reducible rfl))
  try simp only [Act.put, List.setIfInBounds_toArray, List.set_cons_zero, List.set_cons_succ]
  refine wpHeld_nil ?_
  intro wS hSw
  go_wp2
  go_ret
  exact ⟨rfl, hSw.2⟩

theorem walk_LeaseBare (a0 : Int) (a1 : Int) (a2 : Int) (W : World) (w0 : (Lit.int .u32 a0).wf = true) (w1 : (Lit.int .i64 a1).wf = true) (w2 : (Lit.int .i64 a2).wf = true) :
    Calls Try.prog 4 #[.int .u32 a0, .int .i64 a1, .int .i64 a2] W fun e w' => e = .returned (.bool true) ∧ Below W.heap.size W w' := by
  rcases (show a1 = 0 ∨ a1 = 1 ∨ a1 = 2 ∨ a1 = 3 ∨ a1 = 4 ∨ a1 = 5 ∨ (a1 < 0 ∨ 5 < a1) by omega) with hb | hb | hb | hb | hb | hb | hb
  · rcases (show a2 < 0 ∨ (0 ≤ a2 ∧ a2 ≤ 1099511627776) ∨ 1099511627776 < a2 by omega) with hv | hv | hv
    · exact bare_0n a0 a1 a2 W w0 w1 w2 hb hv
    · exact bare_0i a0 a1 a2 W w0 w1 w2 hb hv
    · exact bare_0b a0 a1 a2 W w0 w1 w2 hb hv
  · rcases (show a2 < 0 ∨ (0 ≤ a2 ∧ a2 ≤ 1099511627776) ∨ 1099511627776 < a2 by omega) with hv | hv | hv
    · exact bare_1n a0 a1 a2 W w0 w1 w2 hb hv
    · exact bare_1i a0 a1 a2 W w0 w1 w2 hb hv
    · exact bare_1b a0 a1 a2 W w0 w1 w2 hb hv
  · rcases (show a2 < 0 ∨ (0 ≤ a2 ∧ a2 ≤ 1099511627776) ∨ 1099511627776 < a2 by omega) with hv | hv | hv
    · exact bare_2n a0 a1 a2 W w0 w1 w2 hb hv
    · exact bare_2i a0 a1 a2 W w0 w1 w2 hb hv
    · exact bare_2b a0 a1 a2 W w0 w1 w2 hb hv
  · rcases (show a2 < 0 ∨ (0 ≤ a2 ∧ a2 ≤ 1099511627776) ∨ 1099511627776 < a2 by omega) with hv | hv | hv
    · exact bare_3n a0 a1 a2 W w0 w1 w2 hb hv
    · exact bare_3i a0 a1 a2 W w0 w1 w2 hb hv
    · exact bare_3b a0 a1 a2 W w0 w1 w2 hb hv
  · rcases (show a2 < 0 ∨ (0 ≤ a2 ∧ a2 ≤ 1099511627776) ∨ 1099511627776 < a2 by omega) with hv | hv | hv
    · exact bare_4n a0 a1 a2 W w0 w1 w2 hb hv
    · exact bare_4i a0 a1 a2 W w0 w1 w2 hb hv
    · exact bare_4b a0 a1 a2 W w0 w1 w2 hb hv
  · rcases (show a2 < 0 ∨ (0 ≤ a2 ∧ a2 ≤ 1099511627776) ∨ 1099511627776 < a2 by omega) with hv | hv | hv
    · exact bare_5n a0 a1 a2 W w0 w1 w2 hb hv
    · exact bare_5i a0 a1 a2 W w0 w1 w2 hb hv
    · exact bare_5b a0 a1 a2 W w0 w1 w2 hb hv
  · exact bare_odd a0 a1 a2 W w0 w1 w2 hb trivial

end Go.Proofs.Ytihekjoeibljpaa
