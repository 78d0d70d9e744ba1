/- What is promised is never beyond the lead. -/
import Derived.Test.YtgpfdchokpelfaaLaw5
namespace Go.Proofs.Ytgpfdchokpelfaa
open Go.ChangeShapes Go.WideShapes Go.ChangeAt Go.RowKit
set_option linter.unusedVariables false

/-- The law speaks of it. -/
def InL (lead now lk lu : Int) : Prop := (0 ≤ lead ∧ lead ≤ 274877906944) ∧ (0 ≤ now ∧ now ≤ 274877906944) ∧ (0 ≤ lk ∧ lk ≤ 274877906944) ∧ (0 ≤ lu ∧ lu ≤ 549755813888)
theorem until_le (lead now want acked : Int) (h1 : 0 ≤ lead ∧ lead ≤ 274877906944) (h2 : 0 ≤ now ∧ now ≤ 274877906944) (h4 : 0 ≤ acked ∧ acked ≤ 274877906944) : untilV lead now want acked ≤ max now acked + lead := by
  unfold untilV
  rw [mom_in h2.1 (by omega), mom_in h4.1 (by omega), show max lead 0 = lead by omega, add_in (by omega) (by omega) h1.1 (by omega)]
  omega
theorem pot_ge (u now want : Int) : u ≤ potV u now want := by unfold potV; omega

set_option maxRecDepth 100000 in
set_option maxHeartbeats 1000000 in
theorem leads_out (a0_0 : Int) (a0_1 : Int) (a0_2 : Int) (a1_0 : Int) (a1_1 : Int) (a1_2 : ByteArray) (a1_3 : Int) (a1_4 : Int) (a1_5 : Int) (a1_6 : Int) (a1_7 : Int) (a2_0 : ByteArray) (a2_1 : Int) (a2_2 : Int) (W : World) (w0_0 : (Lit.int .i64 a0_0).wf = true) (w0_1 : (Lit.int .i64 a0_1).wf = true) (w0_2 : (Lit.int .i64 a0_2).wf = true) (w1_0 : (Lit.int .u32 a1_0).wf = true) (w1_1 : (Lit.int .i64 a1_1).wf = true) (w1_2 : a1_2.size ≤ maxLen) (w1_3 : (Lit.int .i64 a1_3).wf = true) (w1_4 : (Lit.int .i64 a1_4).wf = true) (w1_5 : (Lit.int .i64 a1_5).wf = true) (w1_6 : (Lit.int .i64 a1_6).wf = true) (w1_7 : (Lit.int .i64 a1_7).wf = true) (w2_0 : a2_0.size ≤ maxLen) (w2_1 : (Lit.int .i64 a2_1).wf = true) (w2_2 : (Lit.int .i64 a2_2).wf = true) (hin : ¬ InL a0_1 a2_1 a1_4 a1_3) :
    Calls Try.prog 8 #[.agg #[.int .i64 a0_0, .int .i64 a0_1, .int .i64 a0_2], .agg #[.int .u32 a1_0, .int .i64 a1_1, .string a1_2, .int .i64 a1_3, .int .i64 a1_4, .int .i64 a1_5, .int .i64 a1_6, .int .i64 a1_7], .agg #[.string a2_0, .int .i64 a2_1, .int .i64 a2_2]] W fun e w' => e = .returned (.bool true) ∧ Below W.heap.size W w' := by
  have HIN := Lib.hid hin
  clear hin
  have H0 := Lib.hid (((HeldB.nil (lowA (lowA (low0 W (.cells #[.int .i64 a0_0, .int .i64 a0_1, .int .i64 a0_2] 22)) (.cells #[.int .u32 a1_0, .int .i64 a1_1, .string a1_2, .int .i64 a1_3, .int .i64 a1_4, .int .i64 a1_5, .int .i64 a1_6, .int .i64 a1_7] 35)) (.cells #[.string a2_0, .int .i64 a2_1, .int .i64 a2_2] 40))).cons ((Blk.new2' W #[.int .i64 a0_0, .int .i64 a0_1, .int .i64 a0_2] 22 (.cells #[.int .u32 a1_0, .int .i64 a1_1, .string a1_2, .int .i64 a1_3, .int .i64 a1_4, .int .i64 a1_5, .int .i64 a1_6, .int .i64 a1_7] 35)).alloc (.cells #[.string a2_0, .int .i64 a2_1, .int .i64 a2_2] 40))).cons ((Blk.new2 W (.cells #[.int .i64 a0_0, .int .i64 a0_1, .int .i64 a0_2] 22) #[.int .u32 a1_0, .int .i64 a1_1, .string a1_2, .int .i64 a1_3, .int .i64 a1_4, .int .i64 a1_5, .int .i64 a1_6, .int .i64 a1_7] 35).alloc (.cells #[.string a2_0, .int .i64 a2_1, .int .i64 a2_2] 40)) |>.cons (Blk.new3 W (.cells #[.int .i64 a0_0, .int .i64 a0_1, .int .i64 a0_2] 22) (.cells #[.int .u32 a1_0, .int .i64 a1_1, .string a1_2, .int .i64 a1_3, .int .i64 a1_4, .int .i64 a1_5, .int .i64 a1_6, .int .i64 a1_7] 35) #[.string a2_0, .int .i64 a2_1, .int .i64 a2_2] 40))
  go_enter Try.func8, Try.ntmps8
  go_wp2_with (first | (go_at_call 9; refine (awake_any _).mono ?_; rintro e w1 ⟨rfl, hx⟩; have H1 := Lib.hid (H0.out.keep hx); clear hx; obtain ⟨x0_0, x0_1, x0_2⟩ := (H1.out).b0.cells3; obtain ⟨x1_0, x1_1, x1_2, x1_3, x1_4, x1_5, x1_6, x1_7⟩ := (H1.out).tl.b0.cells8; obtain ⟨x2_0, x2_1, x2_2⟩ := (H1.out).tl.tl.b0.cells3) | (go_at_call 10; refine (rules_any _ _ _ _).mono ?_; rintro e w2 ⟨rfl, hx⟩; have H2 := Lib.hid (((H1.out.keep hx).new #[.int .i64 a0_0, .int .i64 a0_1, .int .i64 a0_2] 25).alloc (.cells #[.int .i64 a0_0, .int .i64 a0_1, .int .i64 a0_2] 26)); clear hx; obtain ⟨y0_0, y0_1, y0_2⟩ := (H2.out).b0.cells3; obtain ⟨y1_0, y1_1, y1_2⟩ := (H2.out).tl.b0.cells3; obtain ⟨y2_0, y2_1, y2_2, y2_3, y2_4, y2_5, y2_6, y2_7⟩ := (H2.out).tl.tl.b0.cells8; obtain ⟨y3_0, y3_1, y3_2⟩ := (H2.out).tl.tl.tl.b0.cells3) | (go_at_call 17; exfalso; refine HIN.out ?_; unfold InL; omega))
  all_goals
    first
      | (go_ret; exact ⟨rfl, H2.out.2⟩)
      | (exfalso; refine HIN.out ?_; unfold InL; omega)

set_option maxRecDepth 100000 in
set_option maxHeartbeats 1000000 in
theorem leads_s (a0_0 a0_1 a0_2 a1_0 : Int) (a1_3 a1_4 a1_5 a1_6 a1_7 : Int) (a2_0 : ByteArray) (a2_1 a2_2 U V : Int) (W : World)
    (hin : InL a0_1 a2_1 a1_4 a1_3) (hU : U ≤ max a1_3 (max a2_1 a1_4 + a0_1)) (hT : a1_3 ≤ U) (HL1 : Hid (∀ w, Calls Try.prog 17 #[.agg #[.int .i64 a0_0, .int .i64 a0_1, .int .i64 a0_2], .agg #[.int .u32 a1_0, .int .i64 2, .string a2_0, .int .i64 a1_3, .int .i64 a1_4, .int .i64 a1_5, .int .i64 a1_6, .int .i64 a1_7], .string a2_0, .int .i64 a2_1, .int .i64 a2_2] w fun e w' => e = .returned (.agg #[.int .u32 a1_0, .int .i64 2, .string a2_0, .int .i64 U, .int .i64 a1_4, .int .i64 a1_5, .int .i64 (mom a2_1), .int .i64 V]) ∧ Below w.heap.size w w')) :
    Calls Try.prog 8 #[.agg #[.int .i64 a0_0, .int .i64 a0_1, .int .i64 a0_2], .agg #[.int .u32 a1_0, .int .i64 2, .string a2_0, .int .i64 a1_3, .int .i64 a1_4, .int .i64 a1_5, .int .i64 a1_6, .int .i64 a1_7], .agg #[.string a2_0, .int .i64 a2_1, .int .i64 a2_2]] W fun e w' => e = .returned (.bool true) ∧ Below W.heap.size W w' := by
  obtain ⟨⟨i1, i2⟩, ⟨i3, i4⟩, ⟨i5, i6⟩, i7, i8⟩ := id hin
  clear hin
  have bP : decide (U ≤ potV U a2_1 a2_2) = true := decide_eq_true (pot_ge U a2_1 a2_2)
  have bT : decide (a1_3 ≤ U) = true := decide_eq_true hT
  have HU := Lib.hid hU
  clear hU hT
  have H0 := Lib.hid (((HeldB.nil (lowA (lowA (low0 W (.cells #[.int .i64 a0_0, .int .i64 a0_1, .int .i64 a0_2] 22)) (.cells #[.int .u32 a1_0, .int .i64 2, .string a2_0, .int .i64 a1_3, .int .i64 a1_4, .int .i64 a1_5, .int .i64 a1_6, .int .i64 a1_7] 35)) (.cells #[.string a2_0, .int .i64 a2_1, .int .i64 a2_2] 40))).cons ((Blk.new2' W #[.int .i64 a0_0, .int .i64 a0_1, .int .i64 a0_2] 22 (.cells #[.int .u32 a1_0, .int .i64 2, .string a2_0, .int .i64 a1_3, .int .i64 a1_4, .int .i64 a1_5, .int .i64 a1_6, .int .i64 a1_7] 35)).alloc (.cells #[.string a2_0, .int .i64 a2_1, .int .i64 a2_2] 40))).cons ((Blk.new2 W (.cells #[.int .i64 a0_0, .int .i64 a0_1, .int .i64 a0_2] 22) #[.int .u32 a1_0, .int .i64 2, .string a2_0, .int .i64 a1_3, .int .i64 a1_4, .int .i64 a1_5, .int .i64 a1_6, .int .i64 a1_7] 35).alloc (.cells #[.string a2_0, .int .i64 a2_1, .int .i64 a2_2] 40)) |>.cons (Blk.new3 W (.cells #[.int .i64 a0_0, .int .i64 a0_1, .int .i64 a0_2] 22) (.cells #[.int .u32 a1_0, .int .i64 2, .string a2_0, .int .i64 a1_3, .int .i64 a1_4, .int .i64 a1_5, .int .i64 a1_6, .int .i64 a1_7] 35) #[.string a2_0, .int .i64 a2_1, .int .i64 a2_2] 40))
  go_enter Try.func8, Try.ntmps8
  go_upto_region 10 with (first | (go_at_call 9; refine (awake_any _).mono ?_; rintro e w1 ⟨rfl, hx⟩; have H1 := Lib.hid (H0.out.keep hx); clear hx; obtain ⟨x0_0, x0_1, x0_2⟩ := (H1.out).b0.cells3; obtain ⟨x1_0, x1_1, x1_2, x1_3, x1_4, x1_5, x1_6, x1_7⟩ := (H1.out).tl.b0.cells8; obtain ⟨x2_0, x2_1, x2_2⟩ := (H1.out).tl.tl.b0.cells3) | (go_at_call 10; refine (rules_any _ _ _ _).mono ?_; rintro e w2 ⟨rfl, hx⟩; have H2 := Lib.hid (((H1.out.keep hx).new #[.int .i64 a0_0, .int .i64 a0_1, .int .i64 a0_2] 25).alloc (.cells #[.int .i64 a0_0, .int .i64 a0_1, .int .i64 a0_2] 26)); clear hx; obtain ⟨y0_0, y0_1, y0_2⟩ := (H2.out).b0.cells3; obtain ⟨y1_0, y1_1, y1_2⟩ := (H2.out).tl.b0.cells3; obtain ⟨y2_0, y2_1, y2_2, y2_3, y2_4, y2_5, y2_6, y2_7⟩ := (H2.out).tl.tl.b0.cells8; obtain ⟨y3_0, y3_1, y3_2⟩ := (H2.out).tl.tl.tl.b0.cells3) | (go_at_call 17; with_reducible refine (HL1.out _).mono ?_; rintro e w4 ⟨rfl, hx⟩; have H4 := Lib.hid ((H2.out.keep hx).new #[.int .u32 a1_0, .int .i64 2, .string a2_0, .int .i64 U, .int .i64 a1_4, .int .i64 a1_5, .int .i64 (mom a2_1), .int .i64 V] 35); clear hx; obtain ⟨z0_0, z0_1, z0_2, z0_3, z0_4, z0_5, z0_6, z0_7⟩ := (H4.out).b0.cells8; obtain ⟨z1_0, z1_1, z1_2⟩ := (H4.out).tl.b0.cells3; obtain ⟨z2_0, z2_1, z2_2⟩ := (H4.out).tl.tl.b0.cells3; obtain ⟨z3_0, z3_1, z3_2, z3_3, z3_4, z3_5, z3_6, z3_7⟩ := (H4.out).tl.tl.tl.b0.cells8; obtain ⟨z4_0, z4_1, z4_2⟩ := (H4.out).tl.tl.tl.tl.b0.cells3))
  have hU' := HU.out
  have bU' : U ≤ (if a1_3 < (if a2_1 < a1_4 then a1_4 else a2_1) + a0_1 then (if a2_1 < a1_4 then a1_4 else a2_1) + a0_1 else a1_3) := by (repeat' split) <;> omega
  generalize (if a1_3 < (if a2_1 < a1_4 then a1_4 else a2_1) + a0_1 then (if a2_1 < a1_4 then a1_4 else a2_1) + a0_1 else a1_3) = bd at *
  generalize (if a2_1 < a1_4 then a1_4 else a2_1) = bm at *
  have bU : decide (U ≤ bd) = true := decide_eq_true bU'
  refine wp_region_seq (S := HeldB W [(w4.heap.size, #[.int .u32 a1_0, .int .i64 2, .string a2_0, .int .i64 U, .int .i64 a1_4, .int .i64 a1_5, .int .i64 (mom a2_1), .int .i64 V], 35), (w2.heap.size, #[.int .i64 a0_0, .int .i64 a0_1, .int .i64 a0_2], 25), ((W.heap.size + 1 + 1), #[.string a2_0, .int .i64 a2_1, .int .i64 a2_2], 40), ((W.heap.size + 1), #[.int .u32 a1_0, .int .i64 2, .string a2_0, .int .i64 a1_3, .int .i64 a1_4, .int .i64 a1_5, .int .i64 a1_6, .int .i64 a1_7], 35), (W.heap.size, #[.int .i64 a0_0, .int .i64 a0_1, .int .i64 a0_2], 22)]) 61 (by kernel_rfl) (by kernel_rfl) H4.out.drew ?_
  simp only [List.take_succ_cons, List.take_zero, List.drop_succ_cons, List.drop_zero]
  refine wpHeld_val (v := ?vs0) (by rfl) ?ys0 ?rs0
  case ys0 => (intro wS hSw; go_simp; try (with_reducible rfl))
  try simp only [Act.put, List.setIfInBounds_toArray, List.set_cons_zero, List.set_cons_succ]
  refine wpHeld_val (v := ?vs1) (by rfl) ?ys1 ?rs1
  case ys1 => (intro wS hSw; obtain ⟨q0_0, q0_1, q0_2, q0_3, q0_4, q0_5, q0_6, q0_7⟩ := (hSw).b0.cells8; obtain ⟨q1_0, q1_1, q1_2⟩ := (hSw).tl.b0.cells3; obtain ⟨q2_0, q2_1, q2_2⟩ := (hSw).tl.tl.b0.cells3; obtain ⟨q3_0, q3_1, q3_2, q3_3, q3_4, q3_5, q3_6, q3_7⟩ := (hSw).tl.tl.tl.b0.cells8; obtain ⟨q4_0, q4_1, q4_2⟩ := (hSw).tl.tl.tl.tl.b0.cells3; go_simp; try (with_reducible rfl))
  try simp only [Act.put, List.setIfInBounds_toArray, List.set_cons_zero, List.set_cons_succ]
  refine wpHeld_val (v := .bool true) (by rfl) ?ys2 ?rs2
  case ys2 => (intro wS hSw; go_simp; try (first | with_reducible rfl | (split <;> omega)))
  try simp only [Act.put, List.setIfInBounds_toArray, List.set_cons_zero, List.set_cons_succ]
  refine wpHeld_val (v := ?vs3) (by rfl) ?ys3 ?rs3
  case ys3 => (intro wS hSw; go_simp; try (with_reducible rfl))
  try simp only [Act.put, List.setIfInBounds_toArray, List.set_cons_zero, List.set_cons_succ]
  refine wpHeld_val (v := ?vs4) (by rfl) ?ys4 ?rs4
  case ys4 => (intro wS hSw; go_simp; try (with_reducible rfl))
  try simp only [Act.put, List.setIfInBounds_toArray, List.set_cons_zero, List.set_cons_succ]
  refine wpHeld_val (v := ?vs5) (by rfl) ?ys5 ?rs5
  case ys5 => (intro wS hSw; obtain ⟨q0_0, q0_1, q0_2, q0_3, q0_4, q0_5, q0_6, q0_7⟩ := (hSw).b0.cells8; obtain ⟨q1_0, q1_1, q1_2⟩ := (hSw).tl.b0.cells3; obtain ⟨q2_0, q2_1, q2_2⟩ := (hSw).tl.tl.b0.cells3; obtain ⟨q3_0, q3_1, q3_2, q3_3, q3_4, q3_5, q3_6, q3_7⟩ := (hSw).tl.tl.tl.b0.cells8; obtain ⟨q4_0, q4_1, q4_2⟩ := (hSw).tl.tl.tl.tl.b0.cells3; go_simp; try (with_reducible rfl))
  try simp only [Act.put, List.setIfInBounds_toArray, List.set_cons_zero, List.set_cons_succ]
  refine wpHeld_val (v := ?vs6) (by rfl) ?ys6 ?rs6
  case ys6 => (intro wS hSw; go_simp; try (with_reducible rfl))
  try simp only [Act.put, List.setIfInBounds_toArray, List.set_cons_zero, List.set_cons_succ]
  refine wpHeld_val (v := ?vs7) (by rfl) ?ys7 ?rs7
  case ys7 => (intro wS hSw; obtain ⟨q0_0, q0_1, q0_2, q0_3, q0_4, q0_5, q0_6, q0_7⟩ := (hSw).b0.cells8; obtain ⟨q1_0, q1_1, q1_2⟩ := (hSw).tl.b0.cells3; obtain ⟨q2_0, q2_1, q2_2⟩ := (hSw).tl.tl.b0.cells3; obtain ⟨q3_0, q3_1, q3_2, q3_3, q3_4, q3_5, q3_6, q3_7⟩ := (hSw).tl.tl.tl.b0.cells8; obtain ⟨q4_0, q4_1, q4_2⟩ := (hSw).tl.tl.tl.tl.b0.cells3; go_simp; try (with_reducible rfl))
  try simp only [Act.put, List.setIfInBounds_toArray, List.set_cons_zero, List.set_cons_succ]
  refine wpHeld_val (v := .bool true) (by rfl) ?ys8 ?rs8
  case ys8 => (intro wS hSw; go_simp; try (first | with_reducible rfl | (split <;> omega)))
  try simp only [Act.put, List.setIfInBounds_toArray, List.set_cons_zero, List.set_cons_succ]
  refine wpHeld_val (v := ?vs9) (by rfl) ?ys9 ?rs9
  case ys9 => (intro wS hSw; go_simp; try (with_reducible rfl))
  try simp only [Act.put, List.setIfInBounds_toArray, List.set_cons_zero, List.set_cons_succ]
  refine wpHeld_val (v := ?vs10) (by rfl) ?ys10 ?rs10
  case ys10 => (intro wS hSw; go_simp; try (with_reducible rfl))
  try simp only [Act.put, List.setIfInBounds_toArray, List.set_cons_zero, List.set_cons_succ]
  refine wpHeld_val (v := ?vs11) (by rfl) ?ys11 ?rs11
  case ys11 => (intro wS hSw; go_simp; try (with_reducible rfl))
  try simp only [Act.put, List.setIfInBounds_toArray, List.set_cons_zero, List.set_cons_succ]
  refine wpHeld_val (v := ?vs12) (by rfl) ?ys12 ?rs12
  case ys12 => (intro wS hSw; obtain ⟨q0_0, q0_1, q0_2, q0_3, q0_4, q0_5, q0_6, q0_7⟩ := (hSw).b0.cells8; obtain ⟨q1_0, q1_1, q1_2⟩ := (hSw).tl.b0.cells3; obtain ⟨q2_0, q2_1, q2_2⟩ := (hSw).tl.tl.b0.cells3; obtain ⟨q3_0, q3_1, q3_2, q3_3, q3_4, q3_5, q3_6, q3_7⟩ := (hSw).tl.tl.tl.b0.cells8; obtain ⟨q4_0, q4_1, q4_2⟩ := (hSw).tl.tl.tl.tl.b0.cells3; go_simp; try (with_reducible rfl))
  try simp only [Act.put, List.setIfInBounds_toArray, List.set_cons_zero, List.set_cons_succ]
  refine wpHeld_val (v := ?vs13) (by rfl) ?ys13 ?rs13
  case ys13 => (intro wS hSw; go_simp; try (with_reducible rfl))
  try simp only [Act.put, List.setIfInBounds_toArray, List.set_cons_zero, List.set_cons_succ]
  refine wpHeld_val (v := ?vs14) (by rfl) ?ys14 ?rs14
  case ys14 => (intro wS hSw; obtain ⟨q0_0, q0_1, q0_2, q0_3, q0_4, q0_5, q0_6, q0_7⟩ := (hSw).b0.cells8; obtain ⟨q1_0, q1_1, q1_2⟩ := (hSw).tl.b0.cells3; obtain ⟨q2_0, q2_1, q2_2⟩ := (hSw).tl.tl.b0.cells3; obtain ⟨q3_0, q3_1, q3_2, q3_3, q3_4, q3_5, q3_6, q3_7⟩ := (hSw).tl.tl.tl.b0.cells8; obtain ⟨q4_0, q4_1, q4_2⟩ := (hSw).tl.tl.tl.tl.b0.cells3; go_simp; try (with_reducible rfl))
  try simp only [Act.put, List.setIfInBounds_toArray, List.set_cons_zero, List.set_cons_succ]
  refine wpHeld_val (v := .bool true) (by rfl) ?ys15 ?rs15
  case ys15 => (intro wS hSw; go_simp; try (first | with_reducible rfl | (split <;> omega)))
  try simp only [Act.put, List.setIfInBounds_toArray, List.set_cons_zero, List.set_cons_succ]
  refine wpHeld_val (v := ?vs16) (by rfl) ?ys16 ?rs16
  case ys16 => (intro wS hSw; go_simp; try (with_reducible rfl))
  try simp only [Act.put, List.setIfInBounds_toArray, List.set_cons_zero, List.set_cons_succ]
  refine wpHeld_val (v := ?vs17) (by rfl) ?ys17 ?rs17
  case ys17 => (intro wS hSw; go_simp; try (with_reducible rfl))
  try simp only [Act.put, List.setIfInBounds_toArray, List.set_cons_zero, List.set_cons_succ]
  refine wpHeld_val (v := ?vs18) (by rfl) ?ys18 ?rs18
  case ys18 => (intro wS hSw; go_simp; try (with_reducible rfl))
  try simp only [Act.put, List.setIfInBounds_toArray, List.set_cons_zero, List.set_cons_succ]
  refine wpHeld_val (v := ?vs19) (by rfl) ?ys19 ?rs19
  case ys19 => (intro wS hSw; obtain ⟨q0_0, q0_1, q0_2, q0_3, q0_4, q0_5, q0_6, q0_7⟩ := (hSw).b0.cells8; obtain ⟨q1_0, q1_1, q1_2⟩ := (hSw).tl.b0.cells3; obtain ⟨q2_0, q2_1, q2_2⟩ := (hSw).tl.tl.b0.cells3; obtain ⟨q3_0, q3_1, q3_2, q3_3, q3_4, q3_5, q3_6, q3_7⟩ := (hSw).tl.tl.tl.b0.cells8; obtain ⟨q4_0, q4_1, q4_2⟩ := (hSw).tl.tl.tl.tl.b0.cells3; go_simp; try (with_reducible rfl))
  try simp only [Act.put, List.setIfInBounds_toArray, List.set_cons_zero, List.set_cons_succ]
  refine wpHeld_val (v := ?vs20) (by rfl) ?ys20 ?rs20
  case ys20 => (intro wS hSw; go_simp; try (with_reducible rfl))
  try simp only [Act.put, List.setIfInBounds_toArray, List.set_cons_zero, List.set_cons_succ]
  refine wpHeld_val (v := .bool true) (by rfl) ?ys21 ?rs21
  case ys21 => (intro wS hSw; go_simp; try (first | with_reducible rfl | (split <;> omega)))
  try simp only [Act.put, List.setIfInBounds_toArray, List.set_cons_zero, List.set_cons_succ]
  refine wpHeld_val (v := ?vs22) (by rfl) ?ys22 ?rs22
  case ys22 => (intro wS hSw; go_simp; try (with_reducible rfl))
  try simp only [Act.put, List.setIfInBounds_toArray, List.set_cons_zero, List.set_cons_succ]
  refine wpHeld_val (v := ?vs23) (by rfl) ?ys23 ?rs23
  case ys23 => (intro wS hSw; go_simp; try (with_reducible rfl))
  try simp only [Act.put, List.setIfInBounds_toArray, List.set_cons_zero, List.set_cons_succ]
  refine wpHeld_val (v := ?vs24) (by rfl) ?ys24 ?rs24
  case ys24 => (intro wS hSw; go_simp; try (with_reducible rfl))
  try simp only [Act.put, List.setIfInBounds_toArray, List.set_cons_zero, List.set_cons_succ]
  refine wpHeld_val (v := ?vs25) (by rfl) ?ys25 ?rs25
  case ys25 => (intro wS hSw; go_simp; try (with_reducible rfl))
  try simp only [Act.put, List.setIfInBounds_toArray, List.set_cons_zero, List.set_cons_succ]
  refine wpHeld_val (v := ?vs26) (by rfl) ?ys26 ?rs26
  case ys26 => (intro wS hSw; go_simp; try (with_reducible rfl))
  try simp only [Act.put, List.setIfInBounds_toArray, List.set_cons_zero, List.set_cons_succ]
  refine wpHeld_val (v := ?vs27) (by rfl) ?ys27 ?rs27
  case ys27 => (intro wS hSw; go_simp; try (with_reducible rfl))
  try simp only [Act.put, List.setIfInBounds_toArray, List.set_cons_zero, List.set_cons_succ]
  refine wpHeld_val (v := ?vs28) (by rfl) ?ys28 ?rs28
  case ys28 => (intro wS hSw; obtain ⟨q0_0, q0_1, q0_2, q0_3, q0_4, q0_5, q0_6, q0_7⟩ := (hSw).b0.cells8; obtain ⟨q1_0, q1_1, q1_2⟩ := (hSw).tl.b0.cells3; obtain ⟨q2_0, q2_1, q2_2⟩ := (hSw).tl.tl.b0.cells3; obtain ⟨q3_0, q3_1, q3_2, q3_3, q3_4, q3_5, q3_6, q3_7⟩ := (hSw).tl.tl.tl.b0.cells8; obtain ⟨q4_0, q4_1, q4_2⟩ := (hSw).tl.tl.tl.tl.b0.cells3; go_simp; try (with_reducible rfl))
  try simp only [Act.put, List.setIfInBounds_toArray, List.set_cons_zero, List.set_cons_succ]
  refine wpHeld_val (v := ?vs29) (by rfl) ?ys29 ?rs29
  case ys29 => (intro wS hSw; go_simp; try (with_reducible rfl))
  try simp only [Act.put, List.setIfInBounds_toArray, List.set_cons_zero, List.set_cons_succ]
  refine wpHeld_val (v := ?vs30) (by rfl) ?ys30 ?rs30
  case ys30 => (intro wS hSw; obtain ⟨q0_0, q0_1, q0_2, q0_3, q0_4, q0_5, q0_6, q0_7⟩ := (hSw).b0.cells8; obtain ⟨q1_0, q1_1, q1_2⟩ := (hSw).tl.b0.cells3; obtain ⟨q2_0, q2_1, q2_2⟩ := (hSw).tl.tl.b0.cells3; obtain ⟨q3_0, q3_1, q3_2, q3_3, q3_4, q3_5, q3_6, q3_7⟩ := (hSw).tl.tl.tl.b0.cells8; obtain ⟨q4_0, q4_1, q4_2⟩ := (hSw).tl.tl.tl.tl.b0.cells3; go_simp; try (with_reducible rfl))
  try simp only [Act.put, List.setIfInBounds_toArray, List.set_cons_zero, List.set_cons_succ]
  refine wpHeld_val (v := .bool true) (by rfl) ?ys31 ?rs31
  case ys31 => (intro wS hSw; go_simp; try (first | with_reducible rfl | (split <;> omega)))
  try simp only [Act.put, List.setIfInBounds_toArray, List.set_cons_zero, List.set_cons_succ]
  refine wpHeld_val (v := ?vs32) (by rfl) ?ys32 ?rs32
  case ys32 => (intro wS hSw; go_simp; try (with_reducible rfl))
  try simp only [Act.put, List.setIfInBounds_toArray, List.set_cons_zero, List.set_cons_succ]
  refine wpHeld_val (v := ?vs33) (by rfl) ?ys33 ?rs33
  case ys33 => (intro wS hSw; go_simp; try (with_reducible rfl))
  try simp only [Act.put, List.setIfInBounds_toArray, List.set_cons_zero, List.set_cons_succ]
  refine wpHeld_val (v := ?vs34) (by rfl) ?ys34 ?rs34
  case ys34 => (intro wS hSw; obtain ⟨q0_0, q0_1, q0_2, q0_3, q0_4, q0_5, q0_6, q0_7⟩ := (hSw).b0.cells8; obtain ⟨q1_0, q1_1, q1_2⟩ := (hSw).tl.b0.cells3; obtain ⟨q2_0, q2_1, q2_2⟩ := (hSw).tl.tl.b0.cells3; obtain ⟨q3_0, q3_1, q3_2, q3_3, q3_4, q3_5, q3_6, q3_7⟩ := (hSw).tl.tl.tl.b0.cells8; obtain ⟨q4_0, q4_1, q4_2⟩ := (hSw).tl.tl.tl.tl.b0.cells3; go_simp; try (with_reducible rfl))
  try simp only [Act.put, List.setIfInBounds_toArray, List.set_cons_zero, List.set_cons_succ]
  refine wpHeld_val (v := ?vs35) (by rfl) ?ys35 ?rs35
  case ys35 => (intro wS hSw; go_simp; try (with_reducible rfl))
  try simp only [Act.put, List.setIfInBounds_toArray, List.set_cons_zero, List.set_cons_succ]
  refine wpHeld_val (v := ?vs36) (by rfl) ?ys36 ?rs36
  case ys36 => (intro wS hSw; obtain ⟨q0_0, q0_1, q0_2, q0_3, q0_4, q0_5, q0_6, q0_7⟩ := (hSw).b0.cells8; obtain ⟨q1_0, q1_1, q1_2⟩ := (hSw).tl.b0.cells3; obtain ⟨q2_0, q2_1, q2_2⟩ := (hSw).tl.tl.b0.cells3; obtain ⟨q3_0, q3_1, q3_2, q3_3, q3_4, q3_5, q3_6, q3_7⟩ := (hSw).tl.tl.tl.b0.cells8; obtain ⟨q4_0, q4_1, q4_2⟩ := (hSw).tl.tl.tl.tl.b0.cells3; go_simp; try (with_reducible rfl))
  try simp only [Act.put, List.setIfInBounds_toArray, List.set_cons_zero, List.set_cons_succ]
  refine wpHeld_val (v := .bool true) (by rfl) ?ys37 ?rs37
  case ys37 => (intro wS hSw; go_simp; try (first | with_reducible rfl | (split <;> omega)))
  try simp only [Act.put, List.setIfInBounds_toArray, List.set_cons_zero, List.set_cons_succ]
  refine wpHeld_val (v := ?vs38) (by rfl) ?ys38 ?rs38
  case ys38 => (intro wS hSw; go_simp; try (with_reducible rfl))
  try simp only [Act.put, List.setIfInBounds_toArray, List.set_cons_zero, List.set_cons_succ]
  refine wpHeld_val (v := ?vs39) (by rfl) ?ys39 ?rs39
  case ys39 => (intro wS hSw; go_simp; try (with_reducible rfl))
  try simp only [Act.put, List.setIfInBounds_toArray, List.set_cons_zero, List.set_cons_succ]
  refine wpHeld_val (v := ?vs40) (by rfl) ?ys40 ?rs40
  case ys40 => (intro wS hSw; go_simp; try (with_reducible rfl))
  try simp only [Act.put, List.setIfInBounds_toArray, List.set_cons_zero, List.set_cons_succ]
  refine wpHeld_val (v := ?vs41) (by rfl) ?ys41 ?rs41
  case ys41 => (intro wS hSw; obtain ⟨q0_0, q0_1, q0_2, q0_3, q0_4, q0_5, q0_6, q0_7⟩ := (hSw).b0.cells8; obtain ⟨q1_0, q1_1, q1_2⟩ := (hSw).tl.b0.cells3; obtain ⟨q2_0, q2_1, q2_2⟩ := (hSw).tl.tl.b0.cells3; obtain ⟨q3_0, q3_1, q3_2, q3_3, q3_4, q3_5, q3_6, q3_7⟩ := (hSw).tl.tl.tl.b0.cells8; obtain ⟨q4_0, q4_1, q4_2⟩ := (hSw).tl.tl.tl.tl.b0.cells3; go_simp; try (with_reducible rfl))
  try simp only [Act.put, List.setIfInBounds_toArray, List.set_cons_zero, List.set_cons_succ]
  refine wpHeld_val (v := ?vs42) (by rfl) ?ys42 ?rs42
  case ys42 => (intro wS hSw; go_simp; try (with_reducible rfl))
  try simp only [Act.put, List.setIfInBounds_toArray, List.set_cons_zero, List.set_cons_succ]
  refine wpHeld_val (v := ?vs43) (by rfl) ?ys43 ?rs43
  case ys43 => (intro wS hSw; obtain ⟨q0_0, q0_1, q0_2, q0_3, q0_4, q0_5, q0_6, q0_7⟩ := (hSw).b0.cells8; obtain ⟨q1_0, q1_1, q1_2⟩ := (hSw).tl.b0.cells3; obtain ⟨q2_0, q2_1, q2_2⟩ := (hSw).tl.tl.b0.cells3; obtain ⟨q3_0, q3_1, q3_2, q3_3, q3_4, q3_5, q3_6, q3_7⟩ := (hSw).tl.tl.tl.b0.cells8; obtain ⟨q4_0, q4_1, q4_2⟩ := (hSw).tl.tl.tl.tl.b0.cells3; go_simp; try (with_reducible rfl))
  try simp only [Act.put, List.setIfInBounds_toArray, List.set_cons_zero, List.set_cons_succ]
  refine wpHeld_val (v := .bool true) (by rfl) ?ys44 ?rs44
  case ys44 => (intro wS hSw; go_simp; try (first | with_reducible rfl | (split <;> omega)))
  try simp only [Act.put, List.setIfInBounds_toArray, List.set_cons_zero, List.set_cons_succ]
  refine wpHeld_val (v := ?vs45) (by rfl) ?ys45 ?rs45
  case ys45 => (intro wS hSw; go_simp; try (with_reducible rfl))
  try simp only [Act.put, List.setIfInBounds_toArray, List.set_cons_zero, List.set_cons_succ]
  refine wpHeld_val (v := ?vs46) (by rfl) ?ys46 ?rs46
  case ys46 => (intro wS hSw; go_simp; try (with_reducible rfl))
  try simp only [Act.put, List.setIfInBounds_toArray, List.set_cons_zero, List.set_cons_succ]
  refine wpHeld_val (v := ?vs47) (by rfl) ?ys47 ?rs47
  case ys47 => (intro wS hSw; go_simp; try (with_reducible rfl))
  try simp only [Act.put, List.setIfInBounds_toArray, List.set_cons_zero, List.set_cons_succ]
  refine wpHeld_val (v := ?vs48) (by rfl) ?ys48 ?rs48
  case ys48 => (intro wS hSw; go_simp; try (with_reducible rfl))
  try simp only [Act.put, List.setIfInBounds_toArray, List.set_cons_zero, List.set_cons_succ]
  refine wpHeld_val (v := ?vs49) (by rfl) ?ys49 ?rs49
  case ys49 => (intro wS hSw; obtain ⟨q0_0, q0_1, q0_2, q0_3, q0_4, q0_5, q0_6, q0_7⟩ := (hSw).b0.cells8; obtain ⟨q1_0, q1_1, q1_2⟩ := (hSw).tl.b0.cells3; obtain ⟨q2_0, q2_1, q2_2⟩ := (hSw).tl.tl.b0.cells3; obtain ⟨q3_0, q3_1, q3_2, q3_3, q3_4, q3_5, q3_6, q3_7⟩ := (hSw).tl.tl.tl.b0.cells8; obtain ⟨q4_0, q4_1, q4_2⟩ := (hSw).tl.tl.tl.tl.b0.cells3; go_simp; try (with_reducible rfl))
  try simp only [Act.put, List.setIfInBounds_toArray, List.set_cons_zero, List.set_cons_succ]
  refine wpHeld_val (v := ?vs50) (by rfl) ?ys50 ?rs50
  case ys50 => (intro wS hSw; obtain ⟨q0_0, q0_1, q0_2, q0_3, q0_4, q0_5, q0_6, q0_7⟩ := (hSw).b0.cells8; obtain ⟨q1_0, q1_1, q1_2⟩ := (hSw).tl.b0.cells3; obtain ⟨q2_0, q2_1, q2_2⟩ := (hSw).tl.tl.b0.cells3; obtain ⟨q3_0, q3_1, q3_2, q3_3, q3_4, q3_5, q3_6, q3_7⟩ := (hSw).tl.tl.tl.b0.cells8; obtain ⟨q4_0, q4_1, q4_2⟩ := (hSw).tl.tl.tl.tl.b0.cells3; go_simp; try (with_reducible rfl))
  try simp only [Act.put, List.setIfInBounds_toArray, List.set_cons_zero, List.set_cons_succ]
  refine wpHeld_val (v := ?vs51) (by rfl) ?ys51 ?rs51
  case ys51 => (intro wS hSw; go_simp; try (with_reducible rfl))
  try simp only [Act.put, List.setIfInBounds_toArray, List.set_cons_zero, List.set_cons_succ]
  refine wpHeld_val (v := ?vs52) (by rfl) ?ys52 ?rs52
  case ys52 => (intro wS hSw; obtain ⟨q0_0, q0_1, q0_2, q0_3, q0_4, q0_5, q0_6, q0_7⟩ := (hSw).b0.cells8; obtain ⟨q1_0, q1_1, q1_2⟩ := (hSw).tl.b0.cells3; obtain ⟨q2_0, q2_1, q2_2⟩ := (hSw).tl.tl.b0.cells3; obtain ⟨q3_0, q3_1, q3_2, q3_3, q3_4, q3_5, q3_6, q3_7⟩ := (hSw).tl.tl.tl.b0.cells8; obtain ⟨q4_0, q4_1, q4_2⟩ := (hSw).tl.tl.tl.tl.b0.cells3; go_simp; try (with_reducible rfl))
  try simp only [Act.put, List.setIfInBounds_toArray, List.set_cons_zero, List.set_cons_succ]
  refine wpHeld_val (v := ?vs53) (by rfl) ?ys53 ?rs53
  case ys53 => (intro wS hSw; go_simp; try (with_reducible rfl))
  try simp only [Act.put, List.setIfInBounds_toArray, List.set_cons_zero, List.set_cons_succ]
  refine wpHeld_val (v := ?vs54) (by rfl) ?ys54 ?rs54
  case ys54 => (intro wS hSw; obtain ⟨q0_0, q0_1, q0_2, q0_3, q0_4, q0_5, q0_6, q0_7⟩ := (hSw).b0.cells8; obtain ⟨q1_0, q1_1, q1_2⟩ := (hSw).tl.b0.cells3; obtain ⟨q2_0, q2_1, q2_2⟩ := (hSw).tl.tl.b0.cells3; obtain ⟨q3_0, q3_1, q3_2, q3_3, q3_4, q3_5, q3_6, q3_7⟩ := (hSw).tl.tl.tl.b0.cells8; obtain ⟨q4_0, q4_1, q4_2⟩ := (hSw).tl.tl.tl.tl.b0.cells3; go_simp; try (with_reducible rfl))
  try simp only [Act.put, List.setIfInBounds_toArray, List.set_cons_zero, List.set_cons_succ]
  refine wpHeld_run (.int .i64 (potV U a2_1 a2_2)) (by rfl) ?cs55 ?rs55
  case cs55 => (intro wS hSw K hK; go_simp; (go_at_call 19; with_reducible refine (pot_any _ _ _ _ _ _ _ _ _ _ _ _ _ _).mono ?_; rintro e w5 ⟨rfl, hx⟩); go_wp2_with fail; exact hK.out _ (hSw.keep hx))
  try simp only [Act.put, List.setIfInBounds_toArray, List.set_cons_zero, List.set_cons_succ]
  refine wpHeld_val (v := ?vs56) (by rfl) ?ys56 ?rs56
  case ys56 => (intro wS hSw; go_simp; try (with_reducible rfl))
  try simp only [Act.put, List.setIfInBounds_toArray, List.set_cons_zero, List.set_cons_succ]
  refine wpHeld_val (v := ?vs57) (by rfl) ?ys57 ?rs57
  case ys57 => (intro wS hSw; obtain ⟨q0_0, q0_1, q0_2, q0_3, q0_4, q0_5, q0_6, q0_7⟩ := (hSw).b0.cells8; obtain ⟨q1_0, q1_1, q1_2⟩ := (hSw).tl.b0.cells3; obtain ⟨q2_0, q2_1, q2_2⟩ := (hSw).tl.tl.b0.cells3; obtain ⟨q3_0, q3_1, q3_2, q3_3, q3_4, q3_5, q3_6, q3_7⟩ := (hSw).tl.tl.tl.b0.cells8; obtain ⟨q4_0, q4_1, q4_2⟩ := (hSw).tl.tl.tl.tl.b0.cells3; go_simp; try (with_reducible rfl))
  try simp only [Act.put, List.setIfInBounds_toArray, List.set_cons_zero, List.set_cons_succ]
  refine wpHeld_val (v := .bool true) (by rfl) ?ys58 ?rs58
  case ys58 => (intro wS hSw; go_simp; try (first | with_reducible rfl | (split <;> omega)))
  try simp only [Act.put, List.setIfInBounds_toArray, List.set_cons_zero, List.set_cons_succ]
  refine wpHeld_val (v := ?vs59) (by rfl) ?ys59 ?rs59
  case ys59 => (intro wS hSw; go_simp; try (with_reducible rfl))
  try simp only [Act.put, List.setIfInBounds_toArray, List.set_cons_zero, List.set_cons_succ]
  refine wpHeld_val (v := ?vs60) (by rfl) ?ys60 ?rs60
  case ys60 => (intro wS hSw; go_simp; try (with_reducible rfl))
  try simp only [Act.put, List.setIfInBounds_toArray, List.set_cons_zero, List.set_cons_succ]
  refine wpHeld_nil ?_
  intro wS hSw
  go_wp2
  go_ret
  exact ⟨rfl, hSw.2⟩

set_option maxRecDepth 100000 in
set_option maxHeartbeats 1000000 in
theorem leads_n0 (a0_0 a0_1 a0_2 a1_0 a1_1 : Int) (a1_2 : ByteArray) (a1_3 a1_4 a1_5 a1_6 a1_7 : Int) (a2_0 : ByteArray) (a2_1 a2_2 U K T V : Int) (W : World)
    (hin : InL a0_1 a2_1 a1_4 a1_3) (hU : U ≤ a2_1 + a0_1) (h : a1_1 ≠ 2) (HL1 : Hid (∀ w, Calls Try.prog 17 #[.agg #[.int .i64 a0_0, .int .i64 a0_1, .int .i64 a0_2], .agg #[.int .u32 a1_0, .int .i64 a1_1, .string a1_2, .int .i64 a1_3, .int .i64 a1_4, .int .i64 a1_5, .int .i64 a1_6, .int .i64 a1_7], .string a2_0, .int .i64 a2_1, .int .i64 a2_2] w fun e w' => e = .returned (.agg #[.int .u32 a1_0, .int .i64 2, .string a2_0, .int .i64 U, .int .i64 K, .int .i64 T, .int .i64 (mom a2_1), .int .i64 V]) ∧ Below w.heap.size w w')) :
    Calls Try.prog 8 #[.agg #[.int .i64 a0_0, .int .i64 a0_1, .int .i64 a0_2], .agg #[.int .u32 a1_0, .int .i64 a1_1, .string a1_2, .int .i64 a1_3, .int .i64 a1_4, .int .i64 a1_5, .int .i64 a1_6, .int .i64 a1_7], .agg #[.string a2_0, .int .i64 a2_1, .int .i64 a2_2]] W fun e w' => e = .returned (.bool true) ∧ Below W.heap.size W w' := by
  obtain ⟨⟨i1, i2⟩, ⟨i3, i4⟩, ⟨i5, i6⟩, i7, i8⟩ := id hin
  clear hin
  have bP : decide (U ≤ potV U a2_1 a2_2) = true := decide_eq_true (pot_ge U a2_1 a2_2)
  have n1 : (a1_1 == 2) = false := beq_eq_false_iff_ne.2 h
  have HU := Lib.hid hU
  clear hU h
  have H0 := Lib.hid (((HeldB.nil (lowA (lowA (low0 W (.cells #[.int .i64 a0_0, .int .i64 a0_1, .int .i64 a0_2] 22)) (.cells #[.int .u32 a1_0, .int .i64 a1_1, .string a1_2, .int .i64 a1_3, .int .i64 a1_4, .int .i64 a1_5, .int .i64 a1_6, .int .i64 a1_7] 35)) (.cells #[.string a2_0, .int .i64 a2_1, .int .i64 a2_2] 40))).cons ((Blk.new2' W #[.int .i64 a0_0, .int .i64 a0_1, .int .i64 a0_2] 22 (.cells #[.int .u32 a1_0, .int .i64 a1_1, .string a1_2, .int .i64 a1_3, .int .i64 a1_4, .int .i64 a1_5, .int .i64 a1_6, .int .i64 a1_7] 35)).alloc (.cells #[.string a2_0, .int .i64 a2_1, .int .i64 a2_2] 40))).cons ((Blk.new2 W (.cells #[.int .i64 a0_0, .int .i64 a0_1, .int .i64 a0_2] 22) #[.int .u32 a1_0, .int .i64 a1_1, .string a1_2, .int .i64 a1_3, .int .i64 a1_4, .int .i64 a1_5, .int .i64 a1_6, .int .i64 a1_7] 35).alloc (.cells #[.string a2_0, .int .i64 a2_1, .int .i64 a2_2] 40)) |>.cons (Blk.new3 W (.cells #[.int .i64 a0_0, .int .i64 a0_1, .int .i64 a0_2] 22) (.cells #[.int .u32 a1_0, .int .i64 a1_1, .string a1_2, .int .i64 a1_3, .int .i64 a1_4, .int .i64 a1_5, .int .i64 a1_6, .int .i64 a1_7] 35) #[.string a2_0, .int .i64 a2_1, .int .i64 a2_2] 40))
  go_enter Try.func8, Try.ntmps8
  go_upto_region 10 with (first | (go_at_call 9; refine (awake_any _).mono ?_; rintro e w1 ⟨rfl, hx⟩; have H1 := Lib.hid (H0.out.keep hx); clear hx; obtain ⟨x0_0, x0_1, x0_2⟩ := (H1.out).b0.cells3; obtain ⟨x1_0, x1_1, x1_2, x1_3, x1_4, x1_5, x1_6, x1_7⟩ := (H1.out).tl.b0.cells8; obtain ⟨x2_0, x2_1, x2_2⟩ := (H1.out).tl.tl.b0.cells3) | (go_at_call 10; refine (rules_any _ _ _ _).mono ?_; rintro e w2 ⟨rfl, hx⟩; have H2 := Lib.hid (((H1.out.keep hx).new #[.int .i64 a0_0, .int .i64 a0_1, .int .i64 a0_2] 25).alloc (.cells #[.int .i64 a0_0, .int .i64 a0_1, .int .i64 a0_2] 26)); clear hx; obtain ⟨y0_0, y0_1, y0_2⟩ := (H2.out).b0.cells3; obtain ⟨y1_0, y1_1, y1_2⟩ := (H2.out).tl.b0.cells3; obtain ⟨y2_0, y2_1, y2_2, y2_3, y2_4, y2_5, y2_6, y2_7⟩ := (H2.out).tl.tl.b0.cells8; obtain ⟨y3_0, y3_1, y3_2⟩ := (H2.out).tl.tl.tl.b0.cells3) | (go_at_call 17; with_reducible refine (HL1.out _).mono ?_; rintro e w4 ⟨rfl, hx⟩; have H4 := Lib.hid ((H2.out.keep hx).new #[.int .u32 a1_0, .int .i64 2, .string a2_0, .int .i64 U, .int .i64 K, .int .i64 T, .int .i64 (mom a2_1), .int .i64 V] 35); clear hx; obtain ⟨z0_0, z0_1, z0_2, z0_3, z0_4, z0_5, z0_6, z0_7⟩ := (H4.out).b0.cells8; obtain ⟨z1_0, z1_1, z1_2⟩ := (H4.out).tl.b0.cells3; obtain ⟨z2_0, z2_1, z2_2⟩ := (H4.out).tl.tl.b0.cells3; obtain ⟨z3_0, z3_1, z3_2, z3_3, z3_4, z3_5, z3_6, z3_7⟩ := (H4.out).tl.tl.tl.b0.cells8; obtain ⟨z4_0, z4_1, z4_2⟩ := (H4.out).tl.tl.tl.tl.b0.cells3))
  have bU : decide (U ≤ a2_1 + a0_1) = true := decide_eq_true HU.out
  refine wp_region_seq (S := HeldB W [(w4.heap.size, #[.int .u32 a1_0, .int .i64 2, .string a2_0, .int .i64 U, .int .i64 K, .int .i64 T, .int .i64 (mom a2_1), .int .i64 V], 35), (w2.heap.size, #[.int .i64 a0_0, .int .i64 a0_1, .int .i64 a0_2], 25), ((W.heap.size + 1 + 1), #[.string a2_0, .int .i64 a2_1, .int .i64 a2_2], 40), ((W.heap.size + 1), #[.int .u32 a1_0, .int .i64 a1_1, .string a1_2, .int .i64 a1_3, .int .i64 a1_4, .int .i64 a1_5, .int .i64 a1_6, .int .i64 a1_7], 35), (W.heap.size, #[.int .i64 a0_0, .int .i64 a0_1, .int .i64 a0_2], 22)]) 61 (by kernel_rfl) (by kernel_rfl) H4.out.drew ?_
  simp only [List.take_succ_cons, List.take_zero, List.drop_succ_cons, List.drop_zero]
  refine wpHeld_val (v := ?vn00) (by rfl) ?yn00 ?rn00
  case yn00 => (intro wS hSw; go_simp; try (with_reducible rfl))
  try simp only [Act.put, List.setIfInBounds_toArray, List.set_cons_zero, List.set_cons_succ]
  refine wpHeld_val (v := ?vn01) (by rfl) ?yn01 ?rn01
  case yn01 => (intro wS hSw; obtain ⟨q0_0, q0_1, q0_2, q0_3, q0_4, q0_5, q0_6, q0_7⟩ := (hSw).b0.cells8; obtain ⟨q1_0, q1_1, q1_2⟩ := (hSw).tl.b0.cells3; obtain ⟨q2_0, q2_1, q2_2⟩ := (hSw).tl.tl.b0.cells3; obtain ⟨q3_0, q3_1, q3_2, q3_3, q3_4, q3_5, q3_6, q3_7⟩ := (hSw).tl.tl.tl.b0.cells8; obtain ⟨q4_0, q4_1, q4_2⟩ := (hSw).tl.tl.tl.tl.b0.cells3; go_simp; try (with_reducible rfl))
  try simp only [Act.put, List.setIfInBounds_toArray, List.set_cons_zero, List.set_cons_succ]
  refine wpHeld_val (v := .bool true) (by rfl) ?yn02 ?rn02
  case yn02 => (intro wS hSw; go_simp; try (first | with_reducible rfl | (split <;> omega)))
  try simp only [Act.put, List.setIfInBounds_toArray, List.set_cons_zero, List.set_cons_succ]
  refine wpHeld_val (v := ?vn03) (by rfl) ?yn03 ?rn03
  case yn03 => (intro wS hSw; go_simp; try (with_reducible rfl))
  try simp only [Act.put, List.setIfInBounds_toArray, List.set_cons_zero, List.set_cons_succ]
  refine wpHeld_val (v := ?vn04) (by rfl) ?yn04 ?rn04
  case yn04 => (intro wS hSw; go_simp; try (with_reducible rfl))
  try simp only [Act.put, List.setIfInBounds_toArray, List.set_cons_zero, List.set_cons_succ]
  refine wpHeld_val (v := ?vn05) (by rfl) ?yn05 ?rn05
  case yn05 => (intro wS hSw; obtain ⟨q0_0, q0_1, q0_2, q0_3, q0_4, q0_5, q0_6, q0_7⟩ := (hSw).b0.cells8; obtain ⟨q1_0, q1_1, q1_2⟩ := (hSw).tl.b0.cells3; obtain ⟨q2_0, q2_1, q2_2⟩ := (hSw).tl.tl.b0.cells3; obtain ⟨q3_0, q3_1, q3_2, q3_3, q3_4, q3_5, q3_6, q3_7⟩ := (hSw).tl.tl.tl.b0.cells8; obtain ⟨q4_0, q4_1, q4_2⟩ := (hSw).tl.tl.tl.tl.b0.cells3; go_simp; try (with_reducible rfl))
  try simp only [Act.put, List.setIfInBounds_toArray, List.set_cons_zero, List.set_cons_succ]
  refine wpHeld_val (v := ?vn06) (by rfl) ?yn06 ?rn06
  case yn06 => (intro wS hSw; go_simp; try (with_reducible rfl))
  try simp only [Act.put, List.setIfInBounds_toArray, List.set_cons_zero, List.set_cons_succ]
  refine wpHeld_val (v := ?vn07) (by rfl) ?yn07 ?rn07
  case yn07 => (intro wS hSw; obtain ⟨q0_0, q0_1, q0_2, q0_3, q0_4, q0_5, q0_6, q0_7⟩ := (hSw).b0.cells8; obtain ⟨q1_0, q1_1, q1_2⟩ := (hSw).tl.b0.cells3; obtain ⟨q2_0, q2_1, q2_2⟩ := (hSw).tl.tl.b0.cells3; obtain ⟨q3_0, q3_1, q3_2, q3_3, q3_4, q3_5, q3_6, q3_7⟩ := (hSw).tl.tl.tl.b0.cells8; obtain ⟨q4_0, q4_1, q4_2⟩ := (hSw).tl.tl.tl.tl.b0.cells3; go_simp; try (with_reducible rfl))
  try simp only [Act.put, List.setIfInBounds_toArray, List.set_cons_zero, List.set_cons_succ]
  refine wpHeld_val (v := .bool true) (by rfl) ?yn08 ?rn08
  case yn08 => (intro wS hSw; go_simp; try (first | with_reducible rfl | (split <;> omega)))
  try simp only [Act.put, List.setIfInBounds_toArray, List.set_cons_zero, List.set_cons_succ]
  refine wpHeld_val (v := ?vn09) (by rfl) ?yn09 ?rn09
  case yn09 => (intro wS hSw; go_simp; try (with_reducible rfl))
  try simp only [Act.put, List.setIfInBounds_toArray, List.set_cons_zero, List.set_cons_succ]
  refine wpHeld_val (v := ?vn010) (by rfl) ?yn010 ?rn010
  case yn010 => (intro wS hSw; go_simp; try (with_reducible rfl))
  try simp only [Act.put, List.setIfInBounds_toArray, List.set_cons_zero, List.set_cons_succ]
  refine wpHeld_val (v := ?vn011) (by rfl) ?yn011 ?rn011
  case yn011 => (intro wS hSw; go_simp; try (with_reducible rfl))
  try simp only [Act.put, List.setIfInBounds_toArray, List.set_cons_zero, List.set_cons_succ]
  refine wpHeld_val (v := ?vn012) (by rfl) ?yn012 ?rn012
  case yn012 => (intro wS hSw; obtain ⟨q0_0, q0_1, q0_2, q0_3, q0_4, q0_5, q0_6, q0_7⟩ := (hSw).b0.cells8; obtain ⟨q1_0, q1_1, q1_2⟩ := (hSw).tl.b0.cells3; obtain ⟨q2_0, q2_1, q2_2⟩ := (hSw).tl.tl.b0.cells3; obtain ⟨q3_0, q3_1, q3_2, q3_3, q3_4, q3_5, q3_6, q3_7⟩ := (hSw).tl.tl.tl.b0.cells8; obtain ⟨q4_0, q4_1, q4_2⟩ := (hSw).tl.tl.tl.tl.b0.cells3; go_simp; try (with_reducible rfl))
  try simp only [Act.put, List.setIfInBounds_toArray, List.set_cons_zero, List.set_cons_succ]
  refine wpHeld_val (v := ?vn013) (by rfl) ?yn013 ?rn013
  case yn013 => (intro wS hSw; go_simp; try (with_reducible rfl))
  try simp only [Act.put, List.setIfInBounds_toArray, List.set_cons_zero, List.set_cons_succ]
  refine wpHeld_val (v := ?vn014) (by rfl) ?yn014 ?rn014
  case yn014 => (intro wS hSw; obtain ⟨q0_0, q0_1, q0_2, q0_3, q0_4, q0_5, q0_6, q0_7⟩ := (hSw).b0.cells8; obtain ⟨q1_0, q1_1, q1_2⟩ := (hSw).tl.b0.cells3; obtain ⟨q2_0, q2_1, q2_2⟩ := (hSw).tl.tl.b0.cells3; obtain ⟨q3_0, q3_1, q3_2, q3_3, q3_4, q3_5, q3_6, q3_7⟩ := (hSw).tl.tl.tl.b0.cells8; obtain ⟨q4_0, q4_1, q4_2⟩ := (hSw).tl.tl.tl.tl.b0.cells3; go_simp; try (with_reducible rfl))
  try simp only [Act.put, List.setIfInBounds_toArray, List.set_cons_zero, List.set_cons_succ]
  refine wpHeld_val (v := .bool true) (by rfl) ?yn015 ?rn015
  case yn015 => (intro wS hSw; go_simp; try (first | with_reducible rfl | (split <;> omega)))
  try simp only [Act.put, List.setIfInBounds_toArray, List.set_cons_zero, List.set_cons_succ]
  refine wpHeld_val (v := ?vn016) (by rfl) ?yn016 ?rn016
  case yn016 => (intro wS hSw; go_simp; try (with_reducible rfl))
  try simp only [Act.put, List.setIfInBounds_toArray, List.set_cons_zero, List.set_cons_succ]
  refine wpHeld_val (v := ?vn017) (by rfl) ?yn017 ?rn017
  case yn017 => (intro wS hSw; go_simp; try (with_reducible rfl))
  try simp only [Act.put, List.setIfInBounds_toArray, List.set_cons_zero, List.set_cons_succ]
  refine wpHeld_val (v := ?vn018) (by rfl) ?yn018 ?rn018
  case yn018 => (intro wS hSw; go_simp; try (with_reducible rfl))
  try simp only [Act.put, List.setIfInBounds_toArray, List.set_cons_zero, List.set_cons_succ]
  refine wpHeld_val (v := ?vn019) (by rfl) ?yn019 ?rn019
  case yn019 => (intro wS hSw; obtain ⟨q0_0, q0_1, q0_2, q0_3, q0_4, q0_5, q0_6, q0_7⟩ := (hSw).b0.cells8; obtain ⟨q1_0, q1_1, q1_2⟩ := (hSw).tl.b0.cells3; obtain ⟨q2_0, q2_1, q2_2⟩ := (hSw).tl.tl.b0.cells3; obtain ⟨q3_0, q3_1, q3_2, q3_3, q3_4, q3_5, q3_6, q3_7⟩ := (hSw).tl.tl.tl.b0.cells8; obtain ⟨q4_0, q4_1, q4_2⟩ := (hSw).tl.tl.tl.tl.b0.cells3; go_simp; try (with_reducible rfl))
  try simp only [Act.put, List.setIfInBounds_toArray, List.set_cons_zero, List.set_cons_succ]
  refine wpHeld_val (v := ?vn020) (by rfl) ?yn020 ?rn020
  case yn020 => (intro wS hSw; go_simp; try (with_reducible rfl))
  try simp only [Act.put, List.setIfInBounds_toArray, List.set_cons_zero, List.set_cons_succ]
  refine wpHeld_val (v := .bool true) (by rfl) ?yn021 ?rn021
  case yn021 => (intro wS hSw; go_simp; try (first | with_reducible rfl | (split <;> omega)))
  try simp only [Act.put, List.setIfInBounds_toArray, List.set_cons_zero, List.set_cons_succ]
  refine wpHeld_val (v := ?vn022) (by rfl) ?yn022 ?rn022
  case yn022 => (intro wS hSw; go_simp; try (with_reducible rfl))
  try simp only [Act.put, List.setIfInBounds_toArray, List.set_cons_zero, List.set_cons_succ]
  refine wpHeld_val (v := ?vn023) (by rfl) ?yn023 ?rn023
  case yn023 => (intro wS hSw; go_simp; try (with_reducible rfl))
  try simp only [Act.put, List.setIfInBounds_toArray, List.set_cons_zero, List.set_cons_succ]
  refine wpHeld_val (v := ?vn024) (by rfl) ?yn024 ?rn024
  case yn024 => (intro wS hSw; go_simp; try (with_reducible rfl))
  try simp only [Act.put, List.setIfInBounds_toArray, List.set_cons_zero, List.set_cons_succ]
  refine wpHeld_val (v := ?vn025) (by rfl) ?yn025 ?rn025
  case yn025 => (intro wS hSw; go_simp; try (with_reducible rfl))
  try simp only [Act.put, List.setIfInBounds_toArray, List.set_cons_zero, List.set_cons_succ]
  refine wpHeld_val (v := ?vn026) (by rfl) ?yn026 ?rn026
  case yn026 => (intro wS hSw; go_simp; try (with_reducible rfl))
  try simp only [Act.put, List.setIfInBounds_toArray, List.set_cons_zero, List.set_cons_succ]
  refine wpHeld_skip (by rfl) ?_
  try simp only [Act.put, List.setIfInBounds_toArray, List.set_cons_zero, List.set_cons_succ]
  refine wpHeld_skip (by rfl) ?_
  try simp only [Act.put, List.setIfInBounds_toArray, List.set_cons_zero, List.set_cons_succ]
  refine wpHeld_skip (by rfl) ?_
  try simp only [Act.put, List.setIfInBounds_toArray, List.set_cons_zero, List.set_cons_succ]
  refine wpHeld_skip (by rfl) ?_
  try simp only [Act.put, List.setIfInBounds_toArray, List.set_cons_zero, List.set_cons_succ]
  refine wpHeld_skip (by rfl) ?_
  try simp only [Act.put, List.setIfInBounds_toArray, List.set_cons_zero, List.set_cons_succ]
  refine wpHeld_skip (by rfl) ?_
  try simp only [Act.put, List.setIfInBounds_toArray, List.set_cons_zero, List.set_cons_succ]
  refine wpHeld_skip (by rfl) ?_
  try simp only [Act.put, List.setIfInBounds_toArray, List.set_cons_zero, List.set_cons_succ]
  refine wpHeld_skip (by rfl) ?_
  try simp only [Act.put, List.setIfInBounds_toArray, List.set_cons_zero, List.set_cons_succ]
  refine wpHeld_skip (by rfl) ?_
  try simp only [Act.put, List.setIfInBounds_toArray, List.set_cons_zero, List.set_cons_succ]
  refine wpHeld_skip (by rfl) ?_
  try simp only [Act.put, List.setIfInBounds_toArray, List.set_cons_zero, List.set_cons_succ]
  refine wpHeld_skip (by rfl) ?_
  try simp only [Act.put, List.setIfInBounds_toArray, List.set_cons_zero, List.set_cons_succ]
  refine wpHeld_skip (by rfl) ?_
  try simp only [Act.put, List.setIfInBounds_toArray, List.set_cons_zero, List.set_cons_succ]
  refine wpHeld_skip (by rfl) ?_
  try simp only [Act.put, List.setIfInBounds_toArray, List.set_cons_zero, List.set_cons_succ]
  refine wpHeld_skip (by rfl) ?_
  try simp only [Act.put, List.setIfInBounds_toArray, List.set_cons_zero, List.set_cons_succ]
  refine wpHeld_skip (by rfl) ?_
  try simp only [Act.put, List.setIfInBounds_toArray, List.set_cons_zero, List.set_cons_succ]
  refine wpHeld_skip (by rfl) ?_
  try simp only [Act.put, List.setIfInBounds_toArray, List.set_cons_zero, List.set_cons_succ]
  refine wpHeld_skip (by rfl) ?_
  try simp only [Act.put, List.setIfInBounds_toArray, List.set_cons_zero, List.set_cons_succ]
  refine wpHeld_skip (by rfl) ?_
  try simp only [Act.put, List.setIfInBounds_toArray, List.set_cons_zero, List.set_cons_succ]
  refine wpHeld_skip (by rfl) ?_
  try simp only [Act.put, List.setIfInBounds_toArray, List.set_cons_zero, List.set_cons_succ]
  refine wpHeld_val (v := ?vn046) (by rfl) ?yn046 ?rn046
  case yn046 => (intro wS hSw; go_simp; try (with_reducible rfl))
  try simp only [Act.put, List.setIfInBounds_toArray, List.set_cons_zero, List.set_cons_succ]
  refine wpHeld_val (v := ?vn047) (by rfl) ?yn047 ?rn047
  case yn047 => (intro wS hSw; go_simp; try (with_reducible rfl))
  try simp only [Act.put, List.setIfInBounds_toArray, List.set_cons_zero, List.set_cons_succ]
  refine wpHeld_val (v := ?vn048) (by rfl) ?yn048 ?rn048
  case yn048 => (intro wS hSw; go_simp; try (with_reducible rfl))
  try simp only [Act.put, List.setIfInBounds_toArray, List.set_cons_zero, List.set_cons_succ]
  refine wpHeld_val (v := ?vn049) (by rfl) ?yn049 ?rn049
  case yn049 => (intro wS hSw; obtain ⟨q0_0, q0_1, q0_2, q0_3, q0_4, q0_5, q0_6, q0_7⟩ := (hSw).b0.cells8; obtain ⟨q1_0, q1_1, q1_2⟩ := (hSw).tl.b0.cells3; obtain ⟨q2_0, q2_1, q2_2⟩ := (hSw).tl.tl.b0.cells3; obtain ⟨q3_0, q3_1, q3_2, q3_3, q3_4, q3_5, q3_6, q3_7⟩ := (hSw).tl.tl.tl.b0.cells8; obtain ⟨q4_0, q4_1, q4_2⟩ := (hSw).tl.tl.tl.tl.b0.cells3; go_simp; try (with_reducible rfl))
  try simp only [Act.put, List.setIfInBounds_toArray, List.set_cons_zero, List.set_cons_succ]
  refine wpHeld_val (v := ?vn050) (by rfl) ?yn050 ?rn050
  case yn050 => (intro wS hSw; obtain ⟨q0_0, q0_1, q0_2, q0_3, q0_4, q0_5, q0_6, q0_7⟩ := (hSw).b0.cells8; obtain ⟨q1_0, q1_1, q1_2⟩ := (hSw).tl.b0.cells3; obtain ⟨q2_0, q2_1, q2_2⟩ := (hSw).tl.tl.b0.cells3; obtain ⟨q3_0, q3_1, q3_2, q3_3, q3_4, q3_5, q3_6, q3_7⟩ := (hSw).tl.tl.tl.b0.cells8; obtain ⟨q4_0, q4_1, q4_2⟩ := (hSw).tl.tl.tl.tl.b0.cells3; go_simp; try (with_reducible rfl))
  try simp only [Act.put, List.setIfInBounds_toArray, List.set_cons_zero, List.set_cons_succ]
  refine wpHeld_val (v := ?vn051) (by rfl) ?yn051 ?rn051
  case yn051 => (intro wS hSw; go_simp; try (with_reducible rfl))
  try simp only [Act.put, List.setIfInBounds_toArray, List.set_cons_zero, List.set_cons_succ]
  refine wpHeld_val (v := ?vn052) (by rfl) ?yn052 ?rn052
  case yn052 => (intro wS hSw; obtain ⟨q0_0, q0_1, q0_2, q0_3, q0_4, q0_5, q0_6, q0_7⟩ := (hSw).b0.cells8; obtain ⟨q1_0, q1_1, q1_2⟩ := (hSw).tl.b0.cells3; obtain ⟨q2_0, q2_1, q2_2⟩ := (hSw).tl.tl.b0.cells3; obtain ⟨q3_0, q3_1, q3_2, q3_3, q3_4, q3_5, q3_6, q3_7⟩ := (hSw).tl.tl.tl.b0.cells8; obtain ⟨q4_0, q4_1, q4_2⟩ := (hSw).tl.tl.tl.tl.b0.cells3; go_simp; try (with_reducible rfl))
  try simp only [Act.put, List.setIfInBounds_toArray, List.set_cons_zero, List.set_cons_succ]
  refine wpHeld_val (v := ?vn053) (by rfl) ?yn053 ?rn053
  case yn053 => (intro wS hSw; go_simp; try (with_reducible rfl))
  try simp only [Act.put, List.setIfInBounds_toArray, List.set_cons_zero, List.set_cons_succ]
  refine wpHeld_val (v := ?vn054) (by rfl) ?yn054 ?rn054
  case yn054 => (intro wS hSw; obtain ⟨q0_0, q0_1, q0_2, q0_3, q0_4, q0_5, q0_6, q0_7⟩ := (hSw).b0.cells8; obtain ⟨q1_0, q1_1, q1_2⟩ := (hSw).tl.b0.cells3; obtain ⟨q2_0, q2_1, q2_2⟩ := (hSw).tl.tl.b0.cells3; obtain ⟨q3_0, q3_1, q3_2, q3_3, q3_4, q3_5, q3_6, q3_7⟩ := (hSw).tl.tl.tl.b0.cells8; obtain ⟨q4_0, q4_1, q4_2⟩ := (hSw).tl.tl.tl.tl.b0.cells3; go_simp; try (with_reducible rfl))
  try simp only [Act.put, List.setIfInBounds_toArray, List.set_cons_zero, List.set_cons_succ]
  refine wpHeld_run (.int .i64 (potV U a2_1 a2_2)) (by rfl) ?cn055 ?rn055
  case cn055 => (intro wS hSw K hK; go_simp; (go_at_call 19; with_reducible refine (pot_any _ _ _ _ _ _ _ _ _ _ _ _ _ _).mono ?_; rintro e w5 ⟨rfl, hx⟩); go_wp2_with fail; exact hK.out _ (hSw.keep hx))
  try simp only [Act.put, List.setIfInBounds_toArray, List.set_cons_zero, List.set_cons_succ]
  refine wpHeld_val (v := ?vn056) (by rfl) ?yn056 ?rn056
  case yn056 => (intro wS hSw; go_simp; try (with_reducible rfl))
  try simp only [Act.put, List.setIfInBounds_toArray, List.set_cons_zero, List.set_cons_succ]
  refine wpHeld_val (v := ?vn057) (by rfl) ?yn057 ?rn057
  case yn057 => (intro wS hSw; obtain ⟨q0_0, q0_1, q0_2, q0_3, q0_4, q0_5, q0_6, q0_7⟩ := (hSw).b0.cells8; obtain ⟨q1_0, q1_1, q1_2⟩ := (hSw).tl.b0.cells3; obtain ⟨q2_0, q2_1, q2_2⟩ := (hSw).tl.tl.b0.cells3; obtain ⟨q3_0, q3_1, q3_2, q3_3, q3_4, q3_5, q3_6, q3_7⟩ := (hSw).tl.tl.tl.b0.cells8; obtain ⟨q4_0, q4_1, q4_2⟩ := (hSw).tl.tl.tl.tl.b0.cells3; go_simp; try (with_reducible rfl))
  try simp only [Act.put, List.setIfInBounds_toArray, List.set_cons_zero, List.set_cons_succ]
  refine wpHeld_val (v := .bool true) (by rfl) ?yn058 ?rn058
  case yn058 => (intro wS hSw; go_simp; try (first | with_reducible rfl | (split <;> omega)))
  try simp only [Act.put, List.setIfInBounds_toArray, List.set_cons_zero, List.set_cons_succ]
  refine wpHeld_val (v := ?vn059) (by rfl) ?yn059 ?rn059
  case yn059 => (intro wS hSw; go_simp; try (with_reducible rfl))
  try simp only [Act.put, List.setIfInBounds_toArray, List.set_cons_zero, List.set_cons_succ]
  refine wpHeld_val (v := ?vn060) (by rfl) ?yn060 ?rn060
  case yn060 => (intro wS hSw; go_simp; try (with_reducible rfl))
  try simp only [Act.put, List.setIfInBounds_toArray, List.set_cons_zero, List.set_cons_succ]
  refine wpHeld_nil ?_
  intro wS hSw
  go_wp2
  go_ret
  exact ⟨rfl, hSw.2⟩

set_option maxRecDepth 100000 in
set_option maxHeartbeats 1000000 in
theorem leads_n1 (a0_0 a0_1 a0_2 a1_0 : Int) (a1_2 : ByteArray) (a1_3 a1_4 a1_5 a1_6 a1_7 : Int) (a2_0 : ByteArray) (a2_1 a2_2 U K T V : Int) (W : World)
    (hin : InL a0_1 a2_1 a1_4 a1_3) (hU : U ≤ a2_1 + a0_1) (h : a1_2 ≠ a2_0) (HL1 : Hid (∀ w, Calls Try.prog 17 #[.agg #[.int .i64 a0_0, .int .i64 a0_1, .int .i64 a0_2], .agg #[.int .u32 a1_0, .int .i64 2, .string a1_2, .int .i64 a1_3, .int .i64 a1_4, .int .i64 a1_5, .int .i64 a1_6, .int .i64 a1_7], .string a2_0, .int .i64 a2_1, .int .i64 a2_2] w fun e w' => e = .returned (.agg #[.int .u32 a1_0, .int .i64 2, .string a2_0, .int .i64 U, .int .i64 K, .int .i64 T, .int .i64 (mom a2_1), .int .i64 V]) ∧ Below w.heap.size w w')) :
    Calls Try.prog 8 #[.agg #[.int .i64 a0_0, .int .i64 a0_1, .int .i64 a0_2], .agg #[.int .u32 a1_0, .int .i64 2, .string a1_2, .int .i64 a1_3, .int .i64 a1_4, .int .i64 a1_5, .int .i64 a1_6, .int .i64 a1_7], .agg #[.string a2_0, .int .i64 a2_1, .int .i64 a2_2]] W fun e w' => e = .returned (.bool true) ∧ Below W.heap.size W w' := by
  obtain ⟨⟨i1, i2⟩, ⟨i3, i4⟩, ⟨i5, i6⟩, i7, i8⟩ := id hin
  clear hin
  have bP : decide (U ≤ potV U a2_1 a2_2) = true := decide_eq_true (pot_ge U a2_1 a2_2)
  have n1 : (a1_2.toList == a2_0.toList) = false := str_ne h
  have HU := Lib.hid hU
  clear hU h
  have H0 := Lib.hid (((HeldB.nil (lowA (lowA (low0 W (.cells #[.int .i64 a0_0, .int .i64 a0_1, .int .i64 a0_2] 22)) (.cells #[.int .u32 a1_0, .int .i64 2, .string a1_2, .int .i64 a1_3, .int .i64 a1_4, .int .i64 a1_5, .int .i64 a1_6, .int .i64 a1_7] 35)) (.cells #[.string a2_0, .int .i64 a2_1, .int .i64 a2_2] 40))).cons ((Blk.new2' W #[.int .i64 a0_0, .int .i64 a0_1, .int .i64 a0_2] 22 (.cells #[.int .u32 a1_0, .int .i64 2, .string a1_2, .int .i64 a1_3, .int .i64 a1_4, .int .i64 a1_5, .int .i64 a1_6, .int .i64 a1_7] 35)).alloc (.cells #[.string a2_0, .int .i64 a2_1, .int .i64 a2_2] 40))).cons ((Blk.new2 W (.cells #[.int .i64 a0_0, .int .i64 a0_1, .int .i64 a0_2] 22) #[.int .u32 a1_0, .int .i64 2, .string a1_2, .int .i64 a1_3, .int .i64 a1_4, .int .i64 a1_5, .int .i64 a1_6, .int .i64 a1_7] 35).alloc (.cells #[.string a2_0, .int .i64 a2_1, .int .i64 a2_2] 40)) |>.cons (Blk.new3 W (.cells #[.int .i64 a0_0, .int .i64 a0_1, .int .i64 a0_2] 22) (.cells #[.int .u32 a1_0, .int .i64 2, .string a1_2, .int .i64 a1_3, .int .i64 a1_4, .int .i64 a1_5, .int .i64 a1_6, .int .i64 a1_7] 35) #[.string a2_0, .int .i64 a2_1, .int .i64 a2_2] 40))
  go_enter Try.func8, Try.ntmps8
  go_upto_region 10 with (first | (go_at_call 9; refine (awake_any _).mono ?_; rintro e w1 ⟨rfl, hx⟩; have H1 := Lib.hid (H0.out.keep hx); clear hx; obtain ⟨x0_0, x0_1, x0_2⟩ := (H1.out).b0.cells3; obtain ⟨x1_0, x1_1, x1_2, x1_3, x1_4, x1_5, x1_6, x1_7⟩ := (H1.out).tl.b0.cells8; obtain ⟨x2_0, x2_1, x2_2⟩ := (H1.out).tl.tl.b0.cells3) | (go_at_call 10; refine (rules_any _ _ _ _).mono ?_; rintro e w2 ⟨rfl, hx⟩; have H2 := Lib.hid (((H1.out.keep hx).new #[.int .i64 a0_0, .int .i64 a0_1, .int .i64 a0_2] 25).alloc (.cells #[.int .i64 a0_0, .int .i64 a0_1, .int .i64 a0_2] 26)); clear hx; obtain ⟨y0_0, y0_1, y0_2⟩ := (H2.out).b0.cells3; obtain ⟨y1_0, y1_1, y1_2⟩ := (H2.out).tl.b0.cells3; obtain ⟨y2_0, y2_1, y2_2, y2_3, y2_4, y2_5, y2_6, y2_7⟩ := (H2.out).tl.tl.b0.cells8; obtain ⟨y3_0, y3_1, y3_2⟩ := (H2.out).tl.tl.tl.b0.cells3) | (go_at_call 17; with_reducible refine (HL1.out _).mono ?_; rintro e w4 ⟨rfl, hx⟩; have H4 := Lib.hid ((H2.out.keep hx).new #[.int .u32 a1_0, .int .i64 2, .string a2_0, .int .i64 U, .int .i64 K, .int .i64 T, .int .i64 (mom a2_1), .int .i64 V] 35); clear hx; obtain ⟨z0_0, z0_1, z0_2, z0_3, z0_4, z0_5, z0_6, z0_7⟩ := (H4.out).b0.cells8; obtain ⟨z1_0, z1_1, z1_2⟩ := (H4.out).tl.b0.cells3; obtain ⟨z2_0, z2_1, z2_2⟩ := (H4.out).tl.tl.b0.cells3; obtain ⟨z3_0, z3_1, z3_2, z3_3, z3_4, z3_5, z3_6, z3_7⟩ := (H4.out).tl.tl.tl.b0.cells8; obtain ⟨z4_0, z4_1, z4_2⟩ := (H4.out).tl.tl.tl.tl.b0.cells3))
  have bU : decide (U ≤ a2_1 + a0_1) = true := decide_eq_true HU.out
  refine wp_region_seq (S := HeldB W [(w4.heap.size, #[.int .u32 a1_0, .int .i64 2, .string a2_0, .int .i64 U, .int .i64 K, .int .i64 T, .int .i64 (mom a2_1), .int .i64 V], 35), (w2.heap.size, #[.int .i64 a0_0, .int .i64 a0_1, .int .i64 a0_2], 25), ((W.heap.size + 1 + 1), #[.string a2_0, .int .i64 a2_1, .int .i64 a2_2], 40), ((W.heap.size + 1), #[.int .u32 a1_0, .int .i64 2, .string a1_2, .int .i64 a1_3, .int .i64 a1_4, .int .i64 a1_5, .int .i64 a1_6, .int .i64 a1_7], 35), (W.heap.size, #[.int .i64 a0_0, .int .i64 a0_1, .int .i64 a0_2], 22)]) 61 (by kernel_rfl) (by kernel_rfl) H4.out.drew ?_
  simp only [List.take_succ_cons, List.take_zero, List.drop_succ_cons, List.drop_zero]
  refine wpHeld_val (v := ?vn10) (by rfl) ?yn10 ?rn10
  case yn10 => (intro wS hSw; go_simp; try (with_reducible rfl))
  try simp only [Act.put, List.setIfInBounds_toArray, List.set_cons_zero, List.set_cons_succ]
  refine wpHeld_val (v := ?vn11) (by rfl) ?yn11 ?rn11
  case yn11 => (intro wS hSw; obtain ⟨q0_0, q0_1, q0_2, q0_3, q0_4, q0_5, q0_6, q0_7⟩ := (hSw).b0.cells8; obtain ⟨q1_0, q1_1, q1_2⟩ := (hSw).tl.b0.cells3; obtain ⟨q2_0, q2_1, q2_2⟩ := (hSw).tl.tl.b0.cells3; obtain ⟨q3_0, q3_1, q3_2, q3_3, q3_4, q3_5, q3_6, q3_7⟩ := (hSw).tl.tl.tl.b0.cells8; obtain ⟨q4_0, q4_1, q4_2⟩ := (hSw).tl.tl.tl.tl.b0.cells3; go_simp; try (with_reducible rfl))
  try simp only [Act.put, List.setIfInBounds_toArray, List.set_cons_zero, List.set_cons_succ]
  refine wpHeld_val (v := .bool true) (by rfl) ?yn12 ?rn12
  case yn12 => (intro wS hSw; go_simp; try (first | with_reducible rfl | (split <;> omega)))
  try simp only [Act.put, List.setIfInBounds_toArray, List.set_cons_zero, List.set_cons_succ]
  refine wpHeld_val (v := ?vn13) (by rfl) ?yn13 ?rn13
  case yn13 => (intro wS hSw; go_simp; try (with_reducible rfl))
  try simp only [Act.put, List.setIfInBounds_toArray, List.set_cons_zero, List.set_cons_succ]
  refine wpHeld_val (v := ?vn14) (by rfl) ?yn14 ?rn14
  case yn14 => (intro wS hSw; go_simp; try (with_reducible rfl))
  try simp only [Act.put, List.setIfInBounds_toArray, List.set_cons_zero, List.set_cons_succ]
  refine wpHeld_val (v := ?vn15) (by rfl) ?yn15 ?rn15
  case yn15 => (intro wS hSw; obtain ⟨q0_0, q0_1, q0_2, q0_3, q0_4, q0_5, q0_6, q0_7⟩ := (hSw).b0.cells8; obtain ⟨q1_0, q1_1, q1_2⟩ := (hSw).tl.b0.cells3; obtain ⟨q2_0, q2_1, q2_2⟩ := (hSw).tl.tl.b0.cells3; obtain ⟨q3_0, q3_1, q3_2, q3_3, q3_4, q3_5, q3_6, q3_7⟩ := (hSw).tl.tl.tl.b0.cells8; obtain ⟨q4_0, q4_1, q4_2⟩ := (hSw).tl.tl.tl.tl.b0.cells3; go_simp; try (with_reducible rfl))
  try simp only [Act.put, List.setIfInBounds_toArray, List.set_cons_zero, List.set_cons_succ]
  refine wpHeld_val (v := ?vn16) (by rfl) ?yn16 ?rn16
  case yn16 => (intro wS hSw; go_simp; try (with_reducible rfl))
  try simp only [Act.put, List.setIfInBounds_toArray, List.set_cons_zero, List.set_cons_succ]
  refine wpHeld_val (v := ?vn17) (by rfl) ?yn17 ?rn17
  case yn17 => (intro wS hSw; obtain ⟨q0_0, q0_1, q0_2, q0_3, q0_4, q0_5, q0_6, q0_7⟩ := (hSw).b0.cells8; obtain ⟨q1_0, q1_1, q1_2⟩ := (hSw).tl.b0.cells3; obtain ⟨q2_0, q2_1, q2_2⟩ := (hSw).tl.tl.b0.cells3; obtain ⟨q3_0, q3_1, q3_2, q3_3, q3_4, q3_5, q3_6, q3_7⟩ := (hSw).tl.tl.tl.b0.cells8; obtain ⟨q4_0, q4_1, q4_2⟩ := (hSw).tl.tl.tl.tl.b0.cells3; go_simp; try (with_reducible rfl))
  try simp only [Act.put, List.setIfInBounds_toArray, List.set_cons_zero, List.set_cons_succ]
  refine wpHeld_val (v := .bool true) (by rfl) ?yn18 ?rn18
  case yn18 => (intro wS hSw; go_simp; try (first | with_reducible rfl | (split <;> omega)))
  try simp only [Act.put, List.setIfInBounds_toArray, List.set_cons_zero, List.set_cons_succ]
  refine wpHeld_val (v := ?vn19) (by rfl) ?yn19 ?rn19
  case yn19 => (intro wS hSw; go_simp; try (with_reducible rfl))
  try simp only [Act.put, List.setIfInBounds_toArray, List.set_cons_zero, List.set_cons_succ]
  refine wpHeld_val (v := ?vn110) (by rfl) ?yn110 ?rn110
  case yn110 => (intro wS hSw; go_simp; try (with_reducible rfl))
  try simp only [Act.put, List.setIfInBounds_toArray, List.set_cons_zero, List.set_cons_succ]
  refine wpHeld_val (v := ?vn111) (by rfl) ?yn111 ?rn111
  case yn111 => (intro wS hSw; go_simp; try (with_reducible rfl))
  try simp only [Act.put, List.setIfInBounds_toArray, List.set_cons_zero, List.set_cons_succ]
  refine wpHeld_val (v := ?vn112) (by rfl) ?yn112 ?rn112
  case yn112 => (intro wS hSw; obtain ⟨q0_0, q0_1, q0_2, q0_3, q0_4, q0_5, q0_6, q0_7⟩ := (hSw).b0.cells8; obtain ⟨q1_0, q1_1, q1_2⟩ := (hSw).tl.b0.cells3; obtain ⟨q2_0, q2_1, q2_2⟩ := (hSw).tl.tl.b0.cells3; obtain ⟨q3_0, q3_1, q3_2, q3_3, q3_4, q3_5, q3_6, q3_7⟩ := (hSw).tl.tl.tl.b0.cells8; obtain ⟨q4_0, q4_1, q4_2⟩ := (hSw).tl.tl.tl.tl.b0.cells3; go_simp; try (with_reducible rfl))
  try simp only [Act.put, List.setIfInBounds_toArray, List.set_cons_zero, List.set_cons_succ]
  refine wpHeld_val (v := ?vn113) (by rfl) ?yn113 ?rn113
  case yn113 => (intro wS hSw; go_simp; try (with_reducible rfl))
  try simp only [Act.put, List.setIfInBounds_toArray, List.set_cons_zero, List.set_cons_succ]
  refine wpHeld_val (v := ?vn114) (by rfl) ?yn114 ?rn114
  case yn114 => (intro wS hSw; obtain ⟨q0_0, q0_1, q0_2, q0_3, q0_4, q0_5, q0_6, q0_7⟩ := (hSw).b0.cells8; obtain ⟨q1_0, q1_1, q1_2⟩ := (hSw).tl.b0.cells3; obtain ⟨q2_0, q2_1, q2_2⟩ := (hSw).tl.tl.b0.cells3; obtain ⟨q3_0, q3_1, q3_2, q3_3, q3_4, q3_5, q3_6, q3_7⟩ := (hSw).tl.tl.tl.b0.cells8; obtain ⟨q4_0, q4_1, q4_2⟩ := (hSw).tl.tl.tl.tl.b0.cells3; go_simp; try (with_reducible rfl))
  try simp only [Act.put, List.setIfInBounds_toArray, List.set_cons_zero, List.set_cons_succ]
  refine wpHeld_val (v := .bool true) (by rfl) ?yn115 ?rn115
  case yn115 => (intro wS hSw; go_simp; try (first | with_reducible rfl | (split <;> omega)))
  try simp only [Act.put, List.setIfInBounds_toArray, List.set_cons_zero, List.set_cons_succ]
  refine wpHeld_val (v := ?vn116) (by rfl) ?yn116 ?rn116
  case yn116 => (intro wS hSw; go_simp; try (with_reducible rfl))
  try simp only [Act.put, List.setIfInBounds_toArray, List.set_cons_zero, List.set_cons_succ]
  refine wpHeld_val (v := ?vn117) (by rfl) ?yn117 ?rn117
  case yn117 => (intro wS hSw; go_simp; try (with_reducible rfl))
  try simp only [Act.put, List.setIfInBounds_toArray, List.set_cons_zero, List.set_cons_succ]
  refine wpHeld_val (v := ?vn118) (by rfl) ?yn118 ?rn118
  case yn118 => (intro wS hSw; go_simp; try (with_reducible rfl))
  try simp only [Act.put, List.setIfInBounds_toArray, List.set_cons_zero, List.set_cons_succ]
  refine wpHeld_val (v := ?vn119) (by rfl) ?yn119 ?rn119
  case yn119 => (intro wS hSw; obtain ⟨q0_0, q0_1, q0_2, q0_3, q0_4, q0_5, q0_6, q0_7⟩ := (hSw).b0.cells8; obtain ⟨q1_0, q1_1, q1_2⟩ := (hSw).tl.b0.cells3; obtain ⟨q2_0, q2_1, q2_2⟩ := (hSw).tl.tl.b0.cells3; obtain ⟨q3_0, q3_1, q3_2, q3_3, q3_4, q3_5, q3_6, q3_7⟩ := (hSw).tl.tl.tl.b0.cells8; obtain ⟨q4_0, q4_1, q4_2⟩ := (hSw).tl.tl.tl.tl.b0.cells3; go_simp; try (with_reducible rfl))
  try simp only [Act.put, List.setIfInBounds_toArray, List.set_cons_zero, List.set_cons_succ]
  refine wpHeld_val (v := ?vn120) (by rfl) ?yn120 ?rn120
  case yn120 => (intro wS hSw; go_simp; try (with_reducible rfl))
  try simp only [Act.put, List.setIfInBounds_toArray, List.set_cons_zero, List.set_cons_succ]
  refine wpHeld_val (v := .bool true) (by rfl) ?yn121 ?rn121
  case yn121 => (intro wS hSw; go_simp; try (first | with_reducible rfl | (split <;> omega)))
  try simp only [Act.put, List.setIfInBounds_toArray, List.set_cons_zero, List.set_cons_succ]
  refine wpHeld_val (v := ?vn122) (by rfl) ?yn122 ?rn122
  case yn122 => (intro wS hSw; go_simp; try (with_reducible rfl))
  try simp only [Act.put, List.setIfInBounds_toArray, List.set_cons_zero, List.set_cons_succ]
  refine wpHeld_val (v := ?vn123) (by rfl) ?yn123 ?rn123
  case yn123 => (intro wS hSw; go_simp; try (with_reducible rfl))
  try simp only [Act.put, List.setIfInBounds_toArray, List.set_cons_zero, List.set_cons_succ]
  refine wpHeld_val (v := ?vn124) (by rfl) ?yn124 ?rn124
  case yn124 => (intro wS hSw; go_simp; try (with_reducible rfl))
  try simp only [Act.put, List.setIfInBounds_toArray, List.set_cons_zero, List.set_cons_succ]
  refine wpHeld_val (v := ?vn125) (by rfl) ?yn125 ?rn125
  case yn125 => (intro wS hSw; go_simp; try (with_reducible rfl))
  try simp only [Act.put, List.setIfInBounds_toArray, List.set_cons_zero, List.set_cons_succ]
  refine wpHeld_val (v := ?vn126) (by rfl) ?yn126 ?rn126
  case yn126 => (intro wS hSw; go_simp; try (with_reducible rfl))
  try simp only [Act.put, List.setIfInBounds_toArray, List.set_cons_zero, List.set_cons_succ]
  refine wpHeld_skip (by rfl) ?_
  try simp only [Act.put, List.setIfInBounds_toArray, List.set_cons_zero, List.set_cons_succ]
  refine wpHeld_skip (by rfl) ?_
  try simp only [Act.put, List.setIfInBounds_toArray, List.set_cons_zero, List.set_cons_succ]
  refine wpHeld_skip (by rfl) ?_
  try simp only [Act.put, List.setIfInBounds_toArray, List.set_cons_zero, List.set_cons_succ]
  refine wpHeld_skip (by rfl) ?_
  try simp only [Act.put, List.setIfInBounds_toArray, List.set_cons_zero, List.set_cons_succ]
  refine wpHeld_skip (by rfl) ?_
  try simp only [Act.put, List.setIfInBounds_toArray, List.set_cons_zero, List.set_cons_succ]
  refine wpHeld_skip (by rfl) ?_
  try simp only [Act.put, List.setIfInBounds_toArray, List.set_cons_zero, List.set_cons_succ]
  refine wpHeld_skip (by rfl) ?_
  try simp only [Act.put, List.setIfInBounds_toArray, List.set_cons_zero, List.set_cons_succ]
  refine wpHeld_skip (by rfl) ?_
  try simp only [Act.put, List.setIfInBounds_toArray, List.set_cons_zero, List.set_cons_succ]
  refine wpHeld_skip (by rfl) ?_
  try simp only [Act.put, List.setIfInBounds_toArray, List.set_cons_zero, List.set_cons_succ]
  refine wpHeld_skip (by rfl) ?_
  try simp only [Act.put, List.setIfInBounds_toArray, List.set_cons_zero, List.set_cons_succ]
  refine wpHeld_skip (by rfl) ?_
  try simp only [Act.put, List.setIfInBounds_toArray, List.set_cons_zero, List.set_cons_succ]
  refine wpHeld_skip (by rfl) ?_
  try simp only [Act.put, List.setIfInBounds_toArray, List.set_cons_zero, List.set_cons_succ]
  refine wpHeld_skip (by rfl) ?_
  try simp only [Act.put, List.setIfInBounds_toArray, List.set_cons_zero, List.set_cons_succ]
  refine wpHeld_skip (by rfl) ?_
  try simp only [Act.put, List.setIfInBounds_toArray, List.set_cons_zero, List.set_cons_succ]
  refine wpHeld_skip (by rfl) ?_
  try simp only [Act.put, List.setIfInBounds_toArray, List.set_cons_zero, List.set_cons_succ]
  refine wpHeld_skip (by rfl) ?_
  try simp only [Act.put, List.setIfInBounds_toArray, List.set_cons_zero, List.set_cons_succ]
  refine wpHeld_skip (by rfl) ?_
  try simp only [Act.put, List.setIfInBounds_toArray, List.set_cons_zero, List.set_cons_succ]
  refine wpHeld_skip (by rfl) ?_
  try simp only [Act.put, List.setIfInBounds_toArray, List.set_cons_zero, List.set_cons_succ]
  refine wpHeld_skip (by rfl) ?_
  try simp only [Act.put, List.setIfInBounds_toArray, List.set_cons_zero, List.set_cons_succ]
  refine wpHeld_val (v := ?vn146) (by rfl) ?yn146 ?rn146
  case yn146 => (intro wS hSw; go_simp; try (with_reducible rfl))
  try simp only [Act.put, List.setIfInBounds_toArray, List.set_cons_zero, List.set_cons_succ]
  refine wpHeld_val (v := ?vn147) (by rfl) ?yn147 ?rn147
  case yn147 => (intro wS hSw; go_simp; try (with_reducible rfl))
  try simp only [Act.put, List.setIfInBounds_toArray, List.set_cons_zero, List.set_cons_succ]
  refine wpHeld_val (v := ?vn148) (by rfl) ?yn148 ?rn148
  case yn148 => (intro wS hSw; go_simp; try (with_reducible rfl))
  try simp only [Act.put, List.setIfInBounds_toArray, List.set_cons_zero, List.set_cons_succ]
  refine wpHeld_val (v := ?vn149) (by rfl) ?yn149 ?rn149
  case yn149 => (intro wS hSw; obtain ⟨q0_0, q0_1, q0_2, q0_3, q0_4, q0_5, q0_6, q0_7⟩ := (hSw).b0.cells8; obtain ⟨q1_0, q1_1, q1_2⟩ := (hSw).tl.b0.cells3; obtain ⟨q2_0, q2_1, q2_2⟩ := (hSw).tl.tl.b0.cells3; obtain ⟨q3_0, q3_1, q3_2, q3_3, q3_4, q3_5, q3_6, q3_7⟩ := (hSw).tl.tl.tl.b0.cells8; obtain ⟨q4_0, q4_1, q4_2⟩ := (hSw).tl.tl.tl.tl.b0.cells3; go_simp; try (with_reducible rfl))
  try simp only [Act.put, List.setIfInBounds_toArray, List.set_cons_zero, List.set_cons_succ]
  refine wpHeld_val (v := ?vn150) (by rfl) ?yn150 ?rn150
  case yn150 => (intro wS hSw; obtain ⟨q0_0, q0_1, q0_2, q0_3, q0_4, q0_5, q0_6, q0_7⟩ := (hSw).b0.cells8; obtain ⟨q1_0, q1_1, q1_2⟩ := (hSw).tl.b0.cells3; obtain ⟨q2_0, q2_1, q2_2⟩ := (hSw).tl.tl.b0.cells3; obtain ⟨q3_0, q3_1, q3_2, q3_3, q3_4, q3_5, q3_6, q3_7⟩ := (hSw).tl.tl.tl.b0.cells8; obtain ⟨q4_0, q4_1, q4_2⟩ := (hSw).tl.tl.tl.tl.b0.cells3; go_simp; try (with_reducible rfl))
  try simp only [Act.put, List.setIfInBounds_toArray, List.set_cons_zero, List.set_cons_succ]
  refine wpHeld_val (v := ?vn151) (by rfl) ?yn151 ?rn151
  case yn151 => (intro wS hSw; go_simp; try (with_reducible rfl))
  try simp only [Act.put, List.setIfInBounds_toArray, List.set_cons_zero, List.set_cons_succ]
  refine wpHeld_val (v := ?vn152) (by rfl) ?yn152 ?rn152
  case yn152 => (intro wS hSw; obtain ⟨q0_0, q0_1, q0_2, q0_3, q0_4, q0_5, q0_6, q0_7⟩ := (hSw).b0.cells8; obtain ⟨q1_0, q1_1, q1_2⟩ := (hSw).tl.b0.cells3; obtain ⟨q2_0, q2_1, q2_2⟩ := (hSw).tl.tl.b0.cells3; obtain ⟨q3_0, q3_1, q3_2, q3_3, q3_4, q3_5, q3_6, q3_7⟩ := (hSw).tl.tl.tl.b0.cells8; obtain ⟨q4_0, q4_1, q4_2⟩ := (hSw).tl.tl.tl.tl.b0.cells3; go_simp; try (with_reducible rfl))
  try simp only [Act.put, List.setIfInBounds_toArray, List.set_cons_zero, List.set_cons_succ]
  refine wpHeld_val (v := ?vn153) (by rfl) ?yn153 ?rn153
  case yn153 => (intro wS hSw; go_simp; try (with_reducible rfl))
  try simp only [Act.put, List.setIfInBounds_toArray, List.set_cons_zero, List.set_cons_succ]
  refine wpHeld_val (v := ?vn154) (by rfl) ?yn154 ?rn154
  case yn154 => (intro wS hSw; obtain ⟨q0_0, q0_1, q0_2, q0_3, q0_4, q0_5, q0_6, q0_7⟩ := (hSw).b0.cells8; obtain ⟨q1_0, q1_1, q1_2⟩ := (hSw).tl.b0.cells3; obtain ⟨q2_0, q2_1, q2_2⟩ := (hSw).tl.tl.b0.cells3; obtain ⟨q3_0, q3_1, q3_2, q3_3, q3_4, q3_5, q3_6, q3_7⟩ := (hSw).tl.tl.tl.b0.cells8; obtain ⟨q4_0, q4_1, q4_2⟩ := (hSw).tl.tl.tl.tl.b0.cells3; go_simp; try (with_reducible rfl))
  try simp only [Act.put, List.setIfInBounds_toArray, List.set_cons_zero, List.set_cons_succ]
  refine wpHeld_run (.int .i64 (potV U a2_1 a2_2)) (by rfl) ?cn155 ?rn155
  case cn155 => (intro wS hSw K hK; go_simp; (go_at_call 19; with_reducible refine (pot_any _ _ _ _ _ _ _ _ _ _ _ _ _ _).mono ?_; rintro e w5 ⟨rfl, hx⟩); go_wp2_with fail; exact hK.out _ (hSw.keep hx))
  try simp only [Act.put, List.setIfInBounds_toArray, List.set_cons_zero, List.set_cons_succ]
  refine wpHeld_val (v := ?vn156) (by rfl) ?yn156 ?rn156
  case yn156 => (intro wS hSw; go_simp; try (with_reducible rfl))
  try simp only [Act.put, List.setIfInBounds_toArray, List.set_cons_zero, List.set_cons_succ]
  refine wpHeld_val (v := ?vn157) (by rfl) ?yn157 ?rn157
  case yn157 => (intro wS hSw; obtain ⟨q0_0, q0_1, q0_2, q0_3, q0_4, q0_5, q0_6, q0_7⟩ := (hSw).b0.cells8; obtain ⟨q1_0, q1_1, q1_2⟩ := (hSw).tl.b0.cells3; obtain ⟨q2_0, q2_1, q2_2⟩ := (hSw).tl.tl.b0.cells3; obtain ⟨q3_0, q3_1, q3_2, q3_3, q3_4, q3_5, q3_6, q3_7⟩ := (hSw).tl.tl.tl.b0.cells8; obtain ⟨q4_0, q4_1, q4_2⟩ := (hSw).tl.tl.tl.tl.b0.cells3; go_simp; try (with_reducible rfl))
  try simp only [Act.put, List.setIfInBounds_toArray, List.set_cons_zero, List.set_cons_succ]
  refine wpHeld_val (v := .bool true) (by rfl) ?yn158 ?rn158
  case yn158 => (intro wS hSw; go_simp; try (first | with_reducible rfl | (split <;> omega)))
  try simp only [Act.put, List.setIfInBounds_toArray, List.set_cons_zero, List.set_cons_succ]
  refine wpHeld_val (v := ?vn159) (by rfl) ?yn159 ?rn159
  case yn159 => (intro wS hSw; go_simp; try (with_reducible rfl))
  try simp only [Act.put, List.setIfInBounds_toArray, List.set_cons_zero, List.set_cons_succ]
  refine wpHeld_val (v := ?vn160) (by rfl) ?yn160 ?rn160
  case yn160 => (intro wS hSw; go_simp; try (with_reducible rfl))
  try simp only [Act.put, List.setIfInBounds_toArray, List.set_cons_zero, List.set_cons_succ]
  refine wpHeld_nil ?_
  intro wS hSw
  go_wp2
  go_ret
  exact ⟨rfl, hSw.2⟩

theorem walk_GrantLeads (a0_0 : Int) (a0_1 : Int) (a0_2 : Int) (a1_0 : Int) (a1_1 : Int) (a1_2 : ByteArray) (a1_3 : Int) (a1_4 : Int) (a1_5 : Int) (a1_6 : Int) (a1_7 : Int) (a2_0 : ByteArray) (a2_1 : Int) (a2_2 : Int) (W : World) (w0_0 : (Lit.int .i64 a0_0).wf = true) (w0_1 : (Lit.int .i64 a0_1).wf = true) (w0_2 : (Lit.int .i64 a0_2).wf = true) (w1_0 : (Lit.int .u32 a1_0).wf = true) (w1_1 : (Lit.int .i64 a1_1).wf = true) (w1_2 : a1_2.size ≤ maxLen) (w1_3 : (Lit.int .i64 a1_3).wf = true) (w1_4 : (Lit.int .i64 a1_4).wf = true) (w1_5 : (Lit.int .i64 a1_5).wf = true) (w1_6 : (Lit.int .i64 a1_6).wf = true) (w1_7 : (Lit.int .i64 a1_7).wf = true) (w2_0 : a2_0.size ≤ maxLen) (w2_1 : (Lit.int .i64 a2_1).wf = true) (w2_2 : (Lit.int .i64 a2_2).wf = true) :
    Calls Try.prog 8 #[.agg #[.int .i64 a0_0, .int .i64 a0_1, .int .i64 a0_2], .agg #[.int .u32 a1_0, .int .i64 a1_1, .string a1_2, .int .i64 a1_3, .int .i64 a1_4, .int .i64 a1_5, .int .i64 a1_6, .int .i64 a1_7], .agg #[.string a2_0, .int .i64 a2_1, .int .i64 a2_2]] W fun e w' => e = .returned (.bool true) ∧ Below W.heap.size W w' := by
  by_cases hin : InL a0_1 a2_1 a1_4 a1_3
  · obtain ⟨i1, i2, i3, i4⟩ := id hin
    obtain ⟨U, K, T, V, hl1, _, ⟨e4, e5, e1, e2, e3⟩ | ⟨hn, e1⟩⟩ := lease_ex a0_0 a0_1 a0_2 a1_0 a1_1 a1_2 a2_0 a1_3 a1_4 a1_5 a1_6 a1_7 a2_1 a2_2
    · have e2' := e2.symm
      have e3' := e3.symm
      have e5' := e5.symm
      subst e2' e3' e4 e5'
      have hu := until_le a0_1 a2_1 a2_2 a1_4 i1 i2 i3
      exact leads_s a0_0 a0_1 a0_2 a1_0 a1_3 a1_4 a1_5 a1_6 a1_7 a2_0 a2_1 a2_2 U V W hin (by omega) (by omega) (Lib.hid hl1)
    · have hu := until_le a0_1 a2_1 a2_2 0 i1 i2 (by omega)
      have hU : U ≤ a2_1 + a0_1 := by omega
      by_cases h : a1_1 = 2
      · subst h
        exact leads_n1 a0_0 a0_1 a0_2 a1_0 a1_2 a1_3 a1_4 a1_5 a1_6 a1_7 a2_0 a2_1 a2_2 U K T V W hin hU (fun e => hn ⟨rfl, e⟩) (Lib.hid hl1)
      · exact leads_n0 a0_0 a0_1 a0_2 a1_0 a1_1 a1_2 a1_3 a1_4 a1_5 a1_6 a1_7 a2_0 a2_1 a2_2 U K T V W hin hU h (Lib.hid hl1)
  · exact leads_out a0_0 a0_1 a0_2 a1_0 a1_1 a1_2 a1_3 a1_4 a1_5 a1_6 a1_7 a2_0 a2_1 a2_2 W w0_0 w0_1 w0_2 w1_0 w1_1 w1_2 w1_3 w1_4 w1_5 w1_6 w1_7 w2_0 w2_1 w2_2 hin

end Go.Proofs.Ytgpfdchokpelfaa
