/- Any promise as a line, and the promise of any line. -/
import Derived.Test.YtodjeidofgbdlaaDoorAwk
import Derived.OpenShut
namespace Go.Proofs.YtodjeidofgbdlaaDoor
open Go.ChangeShapes Go.WideShapes Go.ChangeAt Go.RowKit
set_option linter.unusedVariables false
set_option linter.unusedSimpArgs false

set_option maxRecDepth 100000 in
set_option maxHeartbeats 1000000 in
theorem walk_TraceLines (a0_0 : Int) (a0_1 : Int) (a0_2 : ByteArray) (a0_3 : Int) (a0_4 : Int) (a1 : ByteArray) (W : World) (w0_0 : (Lit.int .i64 a0_0).wf = true) (w0_1 : (Lit.int .u32 a0_1).wf = true) (w0_2 : a0_2.size ≤ maxLen) (w0_3 : (Lit.int .i64 a0_3).wf = true) (w0_4 : (Lit.int .i64 a0_4).wf = true) (w1 : a1.size ≤ maxLen) (z1 : a1.size ≤ 140737488351232) (hR : Env W) :
    Calls Tryd.prog 3 #[.agg #[.int .i64 a0_0, .int .u32 a0_1, .string a0_2, .int .i64 a0_3, .int .i64 a0_4], .string a1] W fun e w' => e = .returned (.bool true) ∧ Below W.heap.size W w' := by
  have H0 := Lib.hid ((HeldB.nil (low0 W (.cells #[.int .i64 a0_0, .int .u32 a0_1, .string a0_2, .int .i64 a0_3, .int .i64 a0_4] 25))).cons (Blk.new W #[.int .i64 a0_0, .int .u32 a0_1, .string a0_2, .int .i64 a0_3, .int .i64 a0_4] 25))
  have HE := Lib.hid hR
  have HE0 := Lib.hid (hR.alloc (.cells #[.int .i64 a0_0, .int .u32 a0_1, .string a0_2, .int .i64 a0_3, .int .i64 a0_4] 25))
  have hpa := bounds_u32 w0_1
  obtain ⟨⟨ln, le⟩, hln⟩ : ∃ r, lineR ⟨a0_0, a0_1, a0_2, a0_3, a0_4⟩ = r := ⟨_, rfl⟩
  have HL := Lib.hid (fun (w : World) (he : Env w) => line_any a0_0 a0_1 a0_2 a0_3 a0_4 hpa w he)
  have HLR := Lib.hid (fun (w : World) => rline_any a0_0 a0_1 a0_2 a0_3 a0_4 hpa w)
  rw [hln] at HL HLR
  simp only at HL HLR
  obtain ⟨rb, hrb⟩ : ∃ r, decide (rightPr ⟨a0_0, a0_1, a0_2, a0_3, a0_4⟩) = r := ⟨_, rfl⟩
  have HTR := Lib.hid (fun (w : World) => tright_any a0_0 a0_1 a0_2 a0_3 a0_4 w)
  have HRR := Lib.hid (fun (w : World) => rtright_any a0_0 a0_1 a0_2 a0_3 a0_4 w)
  rw [hrb] at HTR HRR
  clear hR hln hrb hpa w0_0 w0_1 w0_2 w0_3 w0_4 w1 z1
  by_cases hs : a1.size ≤ 1000
  · by_cases hc : a0_2.size ≤ 200
    · obtain ⟨⟨⟨qs, qa, qc, qf, qu⟩, qe⟩, _, h3, h4⟩ := parse_is a1
      have HPQ := Lib.hid (fun w he => h3 w (by omega) he)
      have HPR := Lib.hid h4
      simp only [Pr.val] at HPQ HPR
      clear h3 h4
      have g1 : decide ((200 : Int) < a0_2.size) = false := decide_eq_false (by omega)
      have g2 : decide ((1000 : Int) < a1.size) = false := decide_eq_false (by omega)
      go_enter Tryd.func3, Tryd.ntmps3
      go_upto_region 8 with (first | (go_at_call 7; (with_reducible refine (awake_any _ HE0.out).mono ?_); rintro e wH1 ⟨rfl, hx⟩; have H1 := Lib.hid (H0.out.keep hx); clear hx; obtain ⟨p0_0, p0_1, p0_2, p0_3, p0_4⟩ := (H1.out).b0.cells5; have pf0 := (H1.out).b0.free) | (go_at_call 8; (with_reducible refine (HL.out _ (HE.out.keep H1.out.bel)).mono ?_); rintro e wH2 ⟨rfl, hx⟩; have H2 := Lib.hid (H1.out.keep hx); clear hx; clear p0_0 p0_1 p0_2 p0_3 p0_4 pf0; obtain ⟨q0_0, q0_1, q0_2, q0_3, q0_4⟩ := (H2.out).b0.cells5; have qf0 := (H2.out).b0.free) | (go_at_call 9; (with_reducible refine (HLR.out _).mono ?_); rintro e wH3 ⟨rfl, hx⟩; have H3 := Lib.hid (H2.out.keep hx); clear hx; clear q0_0 q0_1 q0_2 q0_3 q0_4 qf0; obtain ⟨r0_0, r0_1, r0_2, r0_3, r0_4⟩ := (H3.out).b0.cells5; have rf0 := (H3.out).b0.free) | (go_at_call 10; (with_reducible refine (HPQ.out _ (HE.out.keep H3.out.bel)).mono ?_); rintro e wH4 ⟨rfl, hx⟩; have H4 := Lib.hid (H3.out.keep hx); clear hx; clear r0_0 r0_1 r0_2 r0_3 r0_4 rf0; obtain ⟨s0_0, s0_1, s0_2, s0_3, s0_4⟩ := (H4.out).b0.cells5; have sf0 := (H4.out).b0.free) | (go_at_call 11; (with_reducible refine (HPR.out _).mono ?_); rintro e wH5 ⟨rfl, hx⟩; have H5 := Lib.hid ((H4.out.new #[.int .i64 qs, .int .u32 qa, .string qc, .int .i64 qf, .int .i64 qu] 25).keep hx); clear hx; clear s0_0 s0_1 s0_2 s0_3 s0_4 sf0))
      have H6 := Lib.hid (H5.out.new #[.int .i64 qs, .int .u32 qa, .string qc, .int .i64 qf, .int .i64 qu] 25)
      refine wp_region_seq (S := HeldB W [(wH5.heap.size, #[.int .i64 qs, .int .u32 qa, .string qc, .int .i64 qf, .int .i64 qu], 25), (wH4.heap.size, #[.int .i64 qs, .int .u32 qa, .string qc, .int .i64 qf, .int .i64 qu], 25), (W.heap.size, #[.int .i64 a0_0, .int .u32 a0_1, .string a0_2, .int .i64 a0_3, .int .i64 a0_4], 25)]) 25 (by kernel_rfl) (by kernel_rfl) H6.out.drew ?_
      simp only [List.take_succ_cons, List.take_zero, List.drop_succ_cons, List.drop_zero]
      refine wpHeld_val (v := ?vn0) (by rfl) ?yn0 ?rn0
      case yn0 => (intro wS hSw; go_simp; try (with_reducible rfl))
      try simp only [Act.put, List.setIfInBounds_toArray, List.set_cons_zero, List.set_cons_succ]
      refine wpHeld_val (v := ?vn1) (by rfl) ?yn1 ?rn1
      case yn1 => (intro wS hSw; go_simp; try (with_reducible rfl))
      try simp only [Act.put, List.setIfInBounds_toArray, List.set_cons_zero, List.set_cons_succ]
      refine wpHeld_val (v := ?vn2) (by rfl) ?yn2 ?rn2
      case yn2 => (intro wS hSw; go_simp; try (with_reducible rfl))
      try simp only [Act.put, List.setIfInBounds_toArray, List.set_cons_zero, List.set_cons_succ]
      refine wpHeld_val (v := ?vn3) (by rfl) ?yn3 ?rn3
      case yn3 => (intro wS hSw; go_simp; try (with_reducible rfl))
      try simp only [Act.put, List.setIfInBounds_toArray, List.set_cons_zero, List.set_cons_succ]
      refine wpHeld_val (v := ?vn4) (by rfl) ?yn4 ?rn4
      case yn4 => (intro wS hSw; go_simp; try (with_reducible rfl))
      try simp only [Act.put, List.setIfInBounds_toArray, List.set_cons_zero, List.set_cons_succ]
      refine wpHeld_val (v := ?vn5) (by rfl) ?yn5 ?rn5
      case yn5 => (intro wS hSw; go_simp; try (with_reducible rfl))
      try simp only [Act.put, List.setIfInBounds_toArray, List.set_cons_zero, List.set_cons_succ]
      refine wpHeld_val (v := ?vn6) (by rfl) ?yn6 ?rn6
      case yn6 => (intro wS hSw; go_simp; try (with_reducible rfl))
      try simp only [Act.put, List.setIfInBounds_toArray, List.set_cons_zero, List.set_cons_succ]
      refine wpHeld_val (v := ?vn7) (by rfl) ?yn7 ?rn7
      case yn7 => (intro wS hSw; go_simp; try (with_reducible rfl))
      try simp only [Act.put, List.setIfInBounds_toArray, List.set_cons_zero, List.set_cons_succ]
      refine wpHeld_val (v := ?vn8) (by rfl) ?yn8 ?rn8
      case yn8 => (intro wS hSw; go_simp; try (with_reducible rfl))
      try simp only [Act.put, List.setIfInBounds_toArray, List.set_cons_zero, List.set_cons_succ]
      refine wpHeld_val (v := ?vn9) (by rfl) ?yn9 ?rn9
      case yn9 => (intro wS hSw; obtain ⟨q0_0, q0_1, q0_2, q0_3, q0_4⟩ := (hSw).b0.cells5; obtain ⟨q1_0, q1_1, q1_2, q1_3, q1_4⟩ := (hSw).tl.b0.cells5; obtain ⟨q2_0, q2_1, q2_2, q2_3, q2_4⟩ := (hSw).tl.tl.b0.cells5; go_simp; try (with_reducible rfl))
      try simp only [Act.put, List.setIfInBounds_toArray, List.set_cons_zero, List.set_cons_succ]
      refine wpHeld_val (v := ?vn10) (by rfl) ?yn10 ?rn10
      case yn10 => (intro wS hSw; obtain ⟨q0_0, q0_1, q0_2, q0_3, q0_4⟩ := (hSw).b0.cells5; obtain ⟨q1_0, q1_1, q1_2, q1_3, q1_4⟩ := (hSw).tl.b0.cells5; obtain ⟨q2_0, q2_1, q2_2, q2_3, q2_4⟩ := (hSw).tl.tl.b0.cells5; go_simp; try (with_reducible rfl))
      try simp only [Act.put, List.setIfInBounds_toArray, List.set_cons_zero, List.set_cons_succ]
      refine wpHeld_val (v := ?vn11) (by rfl) ?yn11 ?rn11
      case yn11 => (intro wS hSw; go_simp; try (with_reducible rfl))
      try simp only [Act.put, List.setIfInBounds_toArray, List.set_cons_zero, List.set_cons_succ]
      refine wpHeld_val (v := ?vn12) (by rfl) ?yn12 ?rn12
      case yn12 => (intro wS hSw; go_simp; try (with_reducible rfl))
      try simp only [Act.put, List.setIfInBounds_toArray, List.set_cons_zero, List.set_cons_succ]
      refine wpHeld_val (v := ?vn13) (by rfl) ?yn13 ?rn13
      case yn13 => (intro wS hSw; go_simp; try (with_reducible rfl))
      try simp only [Act.put, List.setIfInBounds_toArray, List.set_cons_zero, List.set_cons_succ]
      refine wpHeld_val (v := ?vn14) (by rfl) ?yn14 ?rn14
      case yn14 => (intro wS hSw; go_simp; try (with_reducible rfl))
      try simp only [Act.put, List.setIfInBounds_toArray, List.set_cons_zero, List.set_cons_succ]
      refine wpHeld_val (v := ?vn15) (by rfl) ?yn15 ?rn15
      case yn15 => (intro wS hSw; go_simp; try (with_reducible rfl))
      try simp only [Act.put, List.setIfInBounds_toArray, List.set_cons_zero, List.set_cons_succ]
      refine wpHeld_val (v := ?vn16) (by rfl) ?yn16 ?rn16
      case yn16 => (intro wS hSw; go_simp; try (with_reducible rfl))
      try simp only [Act.put, List.setIfInBounds_toArray, List.set_cons_zero, List.set_cons_succ]
      refine wpHeld_val (v := ?vn17) (by rfl) ?yn17 ?rn17
      case yn17 => (intro wS hSw; go_simp; try (with_reducible rfl))
      try simp only [Act.put, List.setIfInBounds_toArray, List.set_cons_zero, List.set_cons_succ]
      refine wpHeld_val (v := ?vn18) (by rfl) ?yn18 ?rn18
      case yn18 => (intro wS hSw; go_simp; try (with_reducible rfl))
      try simp only [Act.put, List.setIfInBounds_toArray, List.set_cons_zero, List.set_cons_succ]
      refine wpHeld_val (v := ?vn19) (by rfl) ?yn19 ?rn19
      case yn19 => (intro wS hSw; obtain ⟨q0_0, q0_1, q0_2, q0_3, q0_4⟩ := (hSw).b0.cells5; obtain ⟨q1_0, q1_1, q1_2, q1_3, q1_4⟩ := (hSw).tl.b0.cells5; obtain ⟨q2_0, q2_1, q2_2, q2_3, q2_4⟩ := (hSw).tl.tl.b0.cells5; go_simp; try (with_reducible rfl))
      try simp only [Act.put, List.setIfInBounds_toArray, List.set_cons_zero, List.set_cons_succ]
      refine wpHeld_run (.bool rb) (by rfl) ?cn20 ?rn20
      case cn20 => (intro wS hSw K hK; go_simp; (go_at_call 12; (with_reducible refine (HTR.out _).mono ?_); rintro e w8 ⟨rfl, hx⟩); go_wp2_with fail; exact hK.out _ (hSw.keep hx))
      try simp only [Act.put, List.setIfInBounds_toArray, List.set_cons_zero, List.set_cons_succ]
      refine wpHeld_val (v := ?vn21) (by rfl) ?yn21 ?rn21
      case yn21 => (intro wS hSw; obtain ⟨q0_0, q0_1, q0_2, q0_3, q0_4⟩ := (hSw).b0.cells5; obtain ⟨q1_0, q1_1, q1_2, q1_3, q1_4⟩ := (hSw).tl.b0.cells5; obtain ⟨q2_0, q2_1, q2_2, q2_3, q2_4⟩ := (hSw).tl.tl.b0.cells5; go_simp; try (with_reducible rfl))
      try simp only [Act.put, List.setIfInBounds_toArray, List.set_cons_zero, List.set_cons_succ]
      refine wpHeld_run (.bool rb) (by rfl) ?cn22 ?rn22
      case cn22 => (intro wS hSw K hK; go_simp; (go_at_call 13; (with_reducible refine (HRR.out _).mono ?_); rintro e w8 ⟨rfl, hx⟩); go_wp2_with fail; exact hK.out _ (hSw.keep hx))
      try simp only [Act.put, List.setIfInBounds_toArray, List.set_cons_zero, List.set_cons_succ]
      refine wpHeld_val (v := ?vn23) (by rfl) ?yn23 ?rn23
      case yn23 => (intro wS hSw; go_simp; try (with_reducible rfl))
      try simp only [Act.put, List.setIfInBounds_toArray, List.set_cons_zero, List.set_cons_succ]
      refine wpHeld_val (v := ?vn24) (by rfl) ?yn24 ?rn24
      case yn24 => (intro wS hSw; go_simp; try (with_reducible rfl))
      try simp only [Act.put, List.setIfInBounds_toArray, List.set_cons_zero, List.set_cons_succ]
      refine wpHeld_nil ?_
      intro wS hSw
      have hb := Lib.hid hSw.2
      clear hSw
      go_wp2
      go_ret
      exact ⟨rfl, hb.out⟩
    · have g1 : decide ((200 : Int) < a0_2.size) = true := decide_eq_true (by omega)
      go_enter Tryd.func3, Tryd.ntmps3
      go_wp2_with (go_at_call 7; (with_reducible refine (awake_any _ HE0.out).mono ?_); rintro e wH1 ⟨rfl, hx⟩; have H1 := Lib.hid (H0.out.keep hx); clear hx; obtain ⟨p0_0, p0_1, p0_2, p0_3, p0_4⟩ := (H1.out).b0.cells5; have pf0 := (H1.out).b0.free)
      go_ret
      exact ⟨rfl, H1.out.2⟩
  · have g2 : decide ((1000 : Int) < a1.size) = true := decide_eq_true (by omega)
    by_cases hc : a0_2.size ≤ 200
    · have g1 : decide ((200 : Int) < a0_2.size) = false := decide_eq_false (by omega)
      go_enter Tryd.func3, Tryd.ntmps3
      go_wp2_with (go_at_call 7; (with_reducible refine (awake_any _ HE0.out).mono ?_); rintro e wH1 ⟨rfl, hx⟩; have H1 := Lib.hid (H0.out.keep hx); clear hx; obtain ⟨p0_0, p0_1, p0_2, p0_3, p0_4⟩ := (H1.out).b0.cells5; have pf0 := (H1.out).b0.free)
      go_ret
      exact ⟨rfl, H1.out.2⟩
    · have g1 : decide ((200 : Int) < a0_2.size) = true := decide_eq_true (by omega)
      go_enter Tryd.func3, Tryd.ntmps3
      go_wp2_with (go_at_call 7; (with_reducible refine (awake_any _ HE0.out).mono ?_); rintro e wH1 ⟨rfl, hx⟩; have H1 := Lib.hid (H0.out.keep hx); clear hx; obtain ⟨p0_0, p0_1, p0_2, p0_3, p0_4⟩ := (H1.out).b0.cells5; have pf0 := (H1.out).b0.free)
      go_ret
      exact ⟨rfl, H1.out.2⟩

end Go.Proofs.YtodjeidofgbdlaaDoor
