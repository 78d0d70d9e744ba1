/- The bytes of any lease, if it may be; when it is over. -/
import Derived.Test.YtihekjoeibljpaaAwk
namespace Go.Proofs.Ytihekjoeibljpaa
open Go.ChangeShapes Go.WideShapes Go.ChangeAt Go.RowKit
set_option linter.unusedVariables false
set_option linter.unusedSimpArgs false

theorem conv_nil (w : World) : (convert 27 9 (.slice none 0 0)).run Try.prog w = .ok (.string { data := #[] }) w := by kernel_rfl
set_option maxRecDepth 100000 in
set_option maxHeartbeats 2000000 in
theorem walk_LeaseEncodes (a0_0 : Int) (a0_1 : Int) (a0_2 : ByteArray) (a0_3 : Int) (a0_4 : Int) (a0_5 : Int) (a0_6 : Int) (a0_7 : Int) (W : World) (w0_0 : (Lit.int .u32 a0_0).wf = true) (w0_1 : (Lit.int .i64 a0_1).wf = true) (w0_2 : a0_2.size ≤ maxLen) (w0_3 : (Lit.int .i64 a0_3).wf = true) (w0_4 : (Lit.int .i64 a0_4).wf = true) (w0_5 : (Lit.int .i64 a0_5).wf = true) (w0_6 : (Lit.int .i64 a0_6).wf = true) (w0_7 : (Lit.int .i64 a0_7).wf = true) :
    Calls Try.prog 3 #[.agg #[.int .u32 a0_0, .int .i64 a0_1, .string a0_2, .int .i64 a0_3, .int .i64 a0_4, .int .i64 a0_5, .int .i64 a0_6, .int .i64 a0_7]] W fun e w' => e = .returned (.bool true) ∧ Below W.heap.size W w' := by
  have H0 := Lib.hid ((HeldB.nil (low0 W (.cells #[.int .u32 a0_0, .int .i64 a0_1, .string a0_2, .int .i64 a0_3, .int .i64 a0_4, .int .i64 a0_5, .int .i64 a0_6, .int .i64 a0_7] 25))).cons (Blk.new W #[.int .u32 a0_0, .int .i64 a0_1, .string a0_2, .int .i64 a0_3, .int .i64 a0_4, .int .i64 a0_5, .int .i64 a0_6, .int .i64 a0_7] 25))
  by_cases hlen : a0_2.size ≤ 1000
  · by_cases hr : RightP a0_1 a0_2 a0_3 a0_4 a0_5 a0_6 a0_7
    · have hd : decide (RightP a0_1 a0_2 a0_3 a0_4 a0_5 a0_6 a0_7) = true := decide_eq_true hr
      have HR := Lib.hid hr
      clear hr
      go_enter Try.func3, Try.ntmps3
      go_upto_region 6 with (first | (go_at_call 7; (with_reducible refine (awake_any _).mono ?_); rintro e w1 ⟨rfl, hx⟩; have H1 := Lib.hid (H0.out.keep hx); clear hx; obtain ⟨p0_0, p0_1, p0_2, p0_3, p0_4, p0_5, p0_6, p0_7⟩ := (H1.out).b0.cells8) | (go_at_call 8; refine (enc_any a0_0 a0_1 a0_2 a0_3 a0_4 a0_5 a0_6 a0_7 w0_0 _ HR.out).mono ?_; rintro e w2 ⟨v, rfl, hown, hx⟩; have H2 := Lib.hid (H1.out.keep hx); obtain ⟨g1, c1, rfl, _, hn1, hm1, hrow⟩ := own_row hown (by omega); have R1 := Lib.hid hrow; clear hx hown hrow; obtain ⟨p20_0, p20_1, p20_2, p20_3, p20_4, p20_5, p20_6, p20_7⟩ := (H2.out).b0.cells8) | (go_at_call 9; refine (renc_any a0_0 a0_1 a0_2 a0_3 a0_4 a0_5 a0_6 a0_7 w0_0 _ HR.out).mono ?_; rintro e w3 ⟨v, rfl, hown, hx⟩; have H3 := Lib.hid (H2.out.keep hx); obtain ⟨g2, c2, rfl, _, hn2, hm2, hrow⟩ := own_row hown (by omega); have R2 := Lib.hid hrow; have R1 := Lib.hid (R1.out.keep hx); clear hx hown hrow))
      refine wp_region_seq (S := fun w => HeldB W [(W.heap.size, #[.int .u32 a0_0, .int .i64 a0_1, .string a0_2, .int .i64 a0_3, .int .i64 a0_4, .int .i64 a0_5, .int .i64 a0_6, .int .i64 a0_7], 25)] w ∧ RowIs w g1 (cellB (encL a0_0 a0_1 a0_2 a0_3 a0_4 a0_5 a0_6 a0_7)) ∧ RowIs w g2 (cellB (encL a0_0 a0_1 a0_2 a0_3 a0_4 a0_5 a0_6 a0_7))) 25 (by kernel_rfl) (by kernel_rfl) (show _ ∧ _ ∧ _ from ⟨H3.out.drew, R1.out.drew, R2.out.drew⟩) ?_
      simp only [List.take_succ_cons, List.take_zero, List.drop_succ_cons, List.drop_zero]
      refine wpHeld_val (v := ?va0) (by rfl) ?ya0 ?ra0
      case ya0 => (intro wS hSw; go_simp; try (with_reducible rfl))
      try simp only [Act.put, List.setIfInBounds_toArray, List.set_cons_zero, List.set_cons_succ]
      refine wpHeld_val (v := .string (strOf (encL a0_0 a0_1 a0_2 a0_3 a0_4 a0_5 a0_6 a0_7))) (by rfl) ?ya1 ?ra1
      case ya1 => (intro wS hSw; have cv := conv_row (P := Try.prog) (src := 27) (dst := 9) (n := 36 + a0_2.size) (cap := c1) Try.underlying27 Try.underlying5 Try.underlying9 hSw.2.1 (encL_length _ _ _ _ _ _ _ _); go_simp; try (first | with_reducible rfl | (split <;> omega)))
      try simp only [Act.put, List.setIfInBounds_toArray, List.set_cons_zero, List.set_cons_succ]
      refine wpHeld_val (v := ?va2) (by rfl) ?ya2 ?ra2
      case ya2 => (intro wS hSw; go_simp; try (with_reducible rfl))
      try simp only [Act.put, List.setIfInBounds_toArray, List.set_cons_zero, List.set_cons_succ]
      refine wpHeld_val (v := .string (strOf (encL a0_0 a0_1 a0_2 a0_3 a0_4 a0_5 a0_6 a0_7))) (by rfl) ?ya3 ?ra3
      case ya3 => (intro wS hSw; have cv := conv_row (P := Try.prog) (src := 27) (dst := 9) (n := 36 + a0_2.size) (cap := c2) Try.underlying27 Try.underlying5 Try.underlying9 hSw.2.2 (encL_length _ _ _ _ _ _ _ _); go_simp; try (first | with_reducible rfl | (split <;> omega)))
      try simp only [Act.put, List.setIfInBounds_toArray, List.set_cons_zero, List.set_cons_succ]
      refine wpHeld_val (v := .bool true) (by rfl) ?ya4 ?ra4
      case ya4 => (intro wS hSw; go_simp; try (first | with_reducible rfl | (split <;> omega)))
      try simp only [Act.put, List.setIfInBounds_toArray, List.set_cons_zero, List.set_cons_succ]
      refine wpHeld_val (v := ?va5) (by rfl) ?ya5 ?ra5
      case ya5 => (intro wS hSw; go_simp; try (with_reducible rfl))
      try simp only [Act.put, List.setIfInBounds_toArray, List.set_cons_zero, List.set_cons_succ]
      refine wpHeld_val (v := ?va6) (by rfl) ?ya6 ?ra6
      case ya6 => (intro wS hSw; go_simp; try (with_reducible rfl))
      try simp only [Act.put, List.setIfInBounds_toArray, List.set_cons_zero, List.set_cons_succ]
      refine wpHeld_val (v := ?va7) (by rfl) ?ya7 ?ra7
      case ya7 => (intro wS hSw; go_simp; try (with_reducible rfl))
      try simp only [Act.put, List.setIfInBounds_toArray, List.set_cons_zero, List.set_cons_succ]
      refine wpHeld_val (v := ?va8) (by rfl) ?ya8 ?ra8
      case ya8 => (intro wS hSw; go_simp; try (with_reducible rfl))
      try simp only [Act.put, List.setIfInBounds_toArray, List.set_cons_zero, List.set_cons_succ]
      refine wpHeld_val (v := ?va9) (by rfl) ?ya9 ?ra9
      case ya9 => (intro wS hSw; go_simp; try (with_reducible rfl))
      try simp only [Act.put, List.setIfInBounds_toArray, List.set_cons_zero, List.set_cons_succ]
      refine wpHeld_val (v := ?va10) (by rfl) ?ya10 ?ra10
      case ya10 => (intro wS hSw; go_simp; try (with_reducible rfl))
      try simp only [Act.put, List.setIfInBounds_toArray, List.set_cons_zero, List.set_cons_succ]
      refine wpHeld_val (v := ?va11) (by rfl) ?ya11 ?ra11
      case ya11 => (intro wS hSw; obtain ⟨q0_0, q0_1, q0_2, q0_3, q0_4, q0_5, q0_6, q0_7⟩ := (hSw.1).b0.cells8; go_simp; try (with_reducible rfl))
      try simp only [Act.put, List.setIfInBounds_toArray, List.set_cons_zero, List.set_cons_succ]
      refine wpHeld_run (.bool true) (by rfl) ?ca12 ?ra12
      case ca12 => (intro wS hSw K hK; go_simp; (go_at_call 10; (with_reducible refine (right_any _ _ _ _ _ _ _ _ _).mono ?_); rintro e w5 ⟨rfl, hx⟩); go_wp2_with fail; exact hK.out _ (⟨hSw.1.keep hx, hSw.2.1.keep hx, hSw.2.2.keep hx⟩))
      try simp only [Act.put, List.setIfInBounds_toArray, List.set_cons_zero, List.set_cons_succ]
      refine wpHeld_val (v := ?va13) (by rfl) ?ya13 ?ra13
      case ya13 => (intro wS hSw; obtain ⟨q0_0, q0_1, q0_2, q0_3, q0_4, q0_5, q0_6, q0_7⟩ := (hSw.1).b0.cells8; go_simp; try (with_reducible rfl))
      try simp only [Act.put, List.setIfInBounds_toArray, List.set_cons_zero, List.set_cons_succ]
      refine wpHeld_run (.bool true) (by rfl) ?ca14 ?ra14
      case ca14 => (intro wS hSw K hK; go_simp; (go_at_call 11; (with_reducible refine (rright_any _ _ _ _ _ _ _ _ _).mono ?_); rintro e w5 ⟨rfl, hx⟩); go_wp2_with fail; exact hK.out _ (⟨hSw.1.keep hx, hSw.2.1.keep hx, hSw.2.2.keep hx⟩))
      try simp only [Act.put, List.setIfInBounds_toArray, List.set_cons_zero, List.set_cons_succ]
      refine wpHeld_val (v := ?va15) (by rfl) ?ya15 ?ra15
      case ya15 => (intro wS hSw; go_simp; try (with_reducible rfl))
      try simp only [Act.put, List.setIfInBounds_toArray, List.set_cons_zero, List.set_cons_succ]
      refine wpHeld_val (v := ?va16) (by rfl) ?ya16 ?ra16
      case ya16 => (intro wS hSw; go_simp; try (with_reducible rfl))
      try simp only [Act.put, List.setIfInBounds_toArray, List.set_cons_zero, List.set_cons_succ]
      refine wpHeld_val (v := ?va17) (by rfl) ?ya17 ?ra17
      case ya17 => (intro wS hSw; go_simp; try (with_reducible rfl))
      try simp only [Act.put, List.setIfInBounds_toArray, List.set_cons_zero, List.set_cons_succ]
      refine wpHeld_val (v := ?va18) (by rfl) ?ya18 ?ra18
      case ya18 => (intro wS hSw; obtain ⟨q0_0, q0_1, q0_2, q0_3, q0_4, q0_5, q0_6, q0_7⟩ := (hSw.1).b0.cells8; go_simp; try (with_reducible rfl))
      try simp only [Act.put, List.setIfInBounds_toArray, List.set_cons_zero, List.set_cons_succ]
      refine wpHeld_run (.int .i64 (max a0_3 a0_5)) (by rfl) ?ca19 ?ra19
      case ca19 => (intro wS hSw K hK; go_simp; (go_at_call 12; (with_reducible refine (over_any _ _ _ _ _ _ _ _ _).mono ?_); rintro e w5 ⟨rfl, hx⟩); go_wp2_with fail; exact hK.out _ (⟨hSw.1.keep hx, hSw.2.1.keep hx, hSw.2.2.keep hx⟩))
      try simp only [Act.put, List.setIfInBounds_toArray, List.set_cons_zero, List.set_cons_succ]
      refine wpHeld_val (v := ?va20) (by rfl) ?ya20 ?ra20
      case ya20 => (intro wS hSw; obtain ⟨q0_0, q0_1, q0_2, q0_3, q0_4, q0_5, q0_6, q0_7⟩ := (hSw.1).b0.cells8; go_simp; try (with_reducible rfl))
      try simp only [Act.put, List.setIfInBounds_toArray, List.set_cons_zero, List.set_cons_succ]
      refine wpHeld_run (.int .i64 (max a0_3 a0_5)) (by rfl) ?ca21 ?ra21
      case ca21 => (intro wS hSw K hK; go_simp; (go_at_call 13; (with_reducible refine (rover_any _ _ _ _ _ _ _ _ _).mono ?_); rintro e w5 ⟨rfl, hx⟩); go_wp2_with fail; exact hK.out _ (⟨hSw.1.keep hx, hSw.2.1.keep hx, hSw.2.2.keep hx⟩))
      try simp only [Act.put, List.setIfInBounds_toArray, List.set_cons_zero, List.set_cons_succ]
      refine wpHeld_val (v := .bool true) (by rfl) ?ya22 ?ra22
      case ya22 => (intro wS hSw; go_simp; try (first | with_reducible rfl | (split <;> omega)))
      try simp only [Act.put, List.setIfInBounds_toArray, List.set_cons_zero, List.set_cons_succ]
      refine wpHeld_val (v := ?va23) (by rfl) ?ya23 ?ra23
      case ya23 => (intro wS hSw; go_simp; try (with_reducible rfl))
      try simp only [Act.put, List.setIfInBounds_toArray, List.set_cons_zero, List.set_cons_succ]
      refine wpHeld_val (v := ?va24) (by rfl) ?ya24 ?ra24
      case ya24 => (intro wS hSw; go_simp; try (with_reducible rfl))
      try simp only [Act.put, List.setIfInBounds_toArray, List.set_cons_zero, List.set_cons_succ]
      refine wpHeld_nil ?_
      intro wS hSw
      go_wp2
      go_ret
      exact ⟨rfl, hSw.1.2⟩
    · have hd : decide (RightP a0_1 a0_2 a0_3 a0_4 a0_5 a0_6 a0_7) = false := decide_eq_false hr
      have HR := Lib.hid hr
      clear hr
      go_enter Try.func3, Try.ntmps3
      go_upto_region 6 with (first | (go_at_call 7; (with_reducible refine (awake_any _).mono ?_); rintro e w1 ⟨rfl, hx⟩; have H1 := Lib.hid (H0.out.keep hx); clear hx; obtain ⟨p0_0, p0_1, p0_2, p0_3, p0_4, p0_5, p0_6, p0_7⟩ := (H1.out).b0.cells8) | (go_at_call 8; (with_reducible refine (enc_no _ _ _ _ _ _ _ _ _ HR.out).mono ?_); rintro e w2 ⟨rfl, hx⟩; have H2 := Lib.hid (H1.out.keep hx); clear hx; obtain ⟨p20_0, p20_1, p20_2, p20_3, p20_4, p20_5, p20_6, p20_7⟩ := (H2.out).b0.cells8) | (go_at_call 9; (with_reducible refine (renc_no _ _ _ _ _ _ _ _ _ HR.out).mono ?_); rintro e w3 ⟨rfl, hx⟩; have H3 := Lib.hid (H2.out.keep hx); clear hx))
      refine wp_region_seq (S := HeldB W [(W.heap.size, #[.int .u32 a0_0, .int .i64 a0_1, .string a0_2, .int .i64 a0_3, .int .i64 a0_4, .int .i64 a0_5, .int .i64 a0_6, .int .i64 a0_7], 25)]) 25 (by kernel_rfl) (by kernel_rfl) H3.out.drew ?_
      simp only [List.take_succ_cons, List.take_zero, List.drop_succ_cons, List.drop_zero]
      refine wpHeld_val (v := ?vb0) (by rfl) ?yb0 ?rb0
      case yb0 => (intro wS hSw; go_simp; try (with_reducible rfl))
      try simp only [Act.put, List.setIfInBounds_toArray, List.set_cons_zero, List.set_cons_succ]
      refine wpHeld_val (v := ?vb1) (by rfl) ?yb1 ?rb1
      case yb1 => (intro wS hSw; have cv := conv_nil wS; go_simp; try (with_reducible rfl))
      try simp only [Act.put, List.setIfInBounds_toArray, List.set_cons_zero, List.set_cons_succ]
      refine wpHeld_val (v := ?vb2) (by rfl) ?yb2 ?rb2
      case yb2 => (intro wS hSw; go_simp; try (with_reducible rfl))
      try simp only [Act.put, List.setIfInBounds_toArray, List.set_cons_zero, List.set_cons_succ]
      refine wpHeld_val (v := ?vb3) (by rfl) ?yb3 ?rb3
      case yb3 => (intro wS hSw; have cv := conv_nil wS; go_simp; try (with_reducible rfl))
      try simp only [Act.put, List.setIfInBounds_toArray, List.set_cons_zero, List.set_cons_succ]
      refine wpHeld_val (v := .bool true) (by rfl) ?yb4 ?rb4
      case yb4 => (intro wS hSw; go_simp; try (first | with_reducible rfl | (split <;> omega)))
      try simp only [Act.put, List.setIfInBounds_toArray, List.set_cons_zero, List.set_cons_succ]
      refine wpHeld_val (v := ?vb5) (by rfl) ?yb5 ?rb5
      case yb5 => (intro wS hSw; go_simp; try (with_reducible rfl))
      try simp only [Act.put, List.setIfInBounds_toArray, List.set_cons_zero, List.set_cons_succ]
      refine wpHeld_val (v := ?vb6) (by rfl) ?yb6 ?rb6
      case yb6 => (intro wS hSw; go_simp; try (with_reducible rfl))
      try simp only [Act.put, List.setIfInBounds_toArray, List.set_cons_zero, List.set_cons_succ]
      refine wpHeld_val (v := ?vb7) (by rfl) ?yb7 ?rb7
      case yb7 => (intro wS hSw; go_simp; try (with_reducible rfl))
      try simp only [Act.put, List.setIfInBounds_toArray, List.set_cons_zero, List.set_cons_succ]
      refine wpHeld_val (v := ?vb8) (by rfl) ?yb8 ?rb8
      case yb8 => (intro wS hSw; go_simp; try (with_reducible rfl))
      try simp only [Act.put, List.setIfInBounds_toArray, List.set_cons_zero, List.set_cons_succ]
      refine wpHeld_val (v := ?vb9) (by rfl) ?yb9 ?rb9
      case yb9 => (intro wS hSw; go_simp; try (with_reducible rfl))
      try simp only [Act.put, List.setIfInBounds_toArray, List.set_cons_zero, List.set_cons_succ]
      refine wpHeld_val (v := ?vb10) (by rfl) ?yb10 ?rb10
      case yb10 => (intro wS hSw; go_simp; try (with_reducible rfl))
      try simp only [Act.put, List.setIfInBounds_toArray, List.set_cons_zero, List.set_cons_succ]
      refine wpHeld_val (v := ?vb11) (by rfl) ?yb11 ?rb11
      case yb11 => (intro wS hSw; obtain ⟨q0_0, q0_1, q0_2, q0_3, q0_4, q0_5, q0_6, q0_7⟩ := (hSw).b0.cells8; go_simp; try (with_reducible rfl))
      try simp only [Act.put, List.setIfInBounds_toArray, List.set_cons_zero, List.set_cons_succ]
      refine wpHeld_run (.bool false) (by rfl) ?cb12 ?rb12
      case cb12 => (intro wS hSw K hK; go_simp; (go_at_call 10; (with_reducible refine (right_any _ _ _ _ _ _ _ _ _).mono ?_); rintro e w5 ⟨rfl, hx⟩); go_wp2_with fail; exact hK.out _ (hSw.keep hx))
      try simp only [Act.put, List.setIfInBounds_toArray, List.set_cons_zero, List.set_cons_succ]
      refine wpHeld_val (v := ?vb13) (by rfl) ?yb13 ?rb13
      case yb13 => (intro wS hSw; obtain ⟨q0_0, q0_1, q0_2, q0_3, q0_4, q0_5, q0_6, q0_7⟩ := (hSw).b0.cells8; go_simp; try (with_reducible rfl))
      try simp only [Act.put, List.setIfInBounds_toArray, List.set_cons_zero, List.set_cons_succ]
      refine wpHeld_run (.bool false) (by rfl) ?cb14 ?rb14
      case cb14 => (intro wS hSw K hK; go_simp; (go_at_call 11; (with_reducible refine (rright_any _ _ _ _ _ _ _ _ _).mono ?_); rintro e w5 ⟨rfl, hx⟩); go_wp2_with fail; exact hK.out _ (hSw.keep hx))
      try simp only [Act.put, List.setIfInBounds_toArray, List.set_cons_zero, List.set_cons_succ]
      refine wpHeld_val (v := ?vb15) (by rfl) ?yb15 ?rb15
      case yb15 => (intro wS hSw; go_simp; try (with_reducible rfl))
      try simp only [Act.put, List.setIfInBounds_toArray, List.set_cons_zero, List.set_cons_succ]
      refine wpHeld_val (v := ?vb16) (by rfl) ?yb16 ?rb16
      case yb16 => (intro wS hSw; go_simp; try (with_reducible rfl))
      try simp only [Act.put, List.setIfInBounds_toArray, List.set_cons_zero, List.set_cons_succ]
      refine wpHeld_val (v := ?vb17) (by rfl) ?yb17 ?rb17
      case yb17 => (intro wS hSw; go_simp; try (with_reducible rfl))
      try simp only [Act.put, List.setIfInBounds_toArray, List.set_cons_zero, List.set_cons_succ]
      refine wpHeld_val (v := ?vb18) (by rfl) ?yb18 ?rb18
      case yb18 => (intro wS hSw; obtain ⟨q0_0, q0_1, q0_2, q0_3, q0_4, q0_5, q0_6, q0_7⟩ := (hSw).b0.cells8; go_simp; try (with_reducible rfl))
      try simp only [Act.put, List.setIfInBounds_toArray, List.set_cons_zero, List.set_cons_succ]
      refine wpHeld_run (.int .i64 (max a0_3 a0_5)) (by rfl) ?cb19 ?rb19
      case cb19 => (intro wS hSw K hK; go_simp; (go_at_call 12; (with_reducible refine (over_any _ _ _ _ _ _ _ _ _).mono ?_); rintro e w5 ⟨rfl, hx⟩); go_wp2_with fail; exact hK.out _ (hSw.keep hx))
      try simp only [Act.put, List.setIfInBounds_toArray, List.set_cons_zero, List.set_cons_succ]
      refine wpHeld_val (v := ?vb20) (by rfl) ?yb20 ?rb20
      case yb20 => (intro wS hSw; obtain ⟨q0_0, q0_1, q0_2, q0_3, q0_4, q0_5, q0_6, q0_7⟩ := (hSw).b0.cells8; go_simp; try (with_reducible rfl))
      try simp only [Act.put, List.setIfInBounds_toArray, List.set_cons_zero, List.set_cons_succ]
      refine wpHeld_run (.int .i64 (max a0_3 a0_5)) (by rfl) ?cb21 ?rb21
      case cb21 => (intro wS hSw K hK; go_simp; (go_at_call 13; (with_reducible refine (rover_any _ _ _ _ _ _ _ _ _).mono ?_); rintro e w5 ⟨rfl, hx⟩); go_wp2_with fail; exact hK.out _ (hSw.keep hx))
      try simp only [Act.put, List.setIfInBounds_toArray, List.set_cons_zero, List.set_cons_succ]
      refine wpHeld_val (v := .bool true) (by rfl) ?yb22 ?rb22
      case yb22 => (intro wS hSw; go_simp; try (first | with_reducible rfl | (split <;> omega)))
      try simp only [Act.put, List.setIfInBounds_toArray, List.set_cons_zero, List.set_cons_succ]
      refine wpHeld_val (v := ?vb23) (by rfl) ?yb23 ?rb23
      case yb23 => (intro wS hSw; go_simp; try (with_reducible rfl))
      try simp only [Act.put, List.setIfInBounds_toArray, List.set_cons_zero, List.set_cons_succ]
      refine wpHeld_val (v := ?vb24) (by rfl) ?yb24 ?rb24
      case yb24 => (intro wS hSw; go_simp; try (with_reducible rfl))
      try simp only [Act.put, List.setIfInBounds_toArray, List.set_cons_zero, List.set_cons_succ]
      refine wpHeld_nil ?_
      intro wS hSw
      go_wp2
      go_ret
      exact ⟨rfl, hSw.2⟩
  · have hlen' : (1000 : Int) < a0_2.size := by omega
    clear hlen
    go_enter Try.func3, Try.ntmps3
    go_wp2_with (go_at_call 7; (with_reducible refine (awake_any _).mono ?_); rintro e w1 ⟨rfl, hx⟩; have H1 := Lib.hid (H0.out.keep hx); clear hx; obtain ⟨p0_0, p0_1, p0_2, p0_3, p0_4, p0_5, p0_6, p0_7⟩ := (H1.out).b0.cells8)
    go_ret
    exact ⟨rfl, H1.out.2⟩

end Go.Proofs.Ytihekjoeibljpaa
