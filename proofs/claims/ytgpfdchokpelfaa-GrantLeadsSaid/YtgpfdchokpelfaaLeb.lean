/- What is known of an address once it was promised to somebody new. -/
import Derived.Test.YtgpfdchokpelfaaLea
import Derived.Lib.Strings
namespace Go.Proofs.Ytgpfdchokpelfaa
open Go.ChangeShapes Go.WideShapes Go.ChangeAt Go.RowKit
set_option linter.unusedVariables false

theorem str_ne {a c : ByteArray} (h : a ≠ c) : (a.toList == c.toList) = false := by
  rw [beq_eq_false_iff_ne]
  intro e
  rw [Lib.toList_data, Lib.toList_data] at e
  exact h (by rw [← Lib.mk_data a, e, Lib.mk_data])
theorem str_ne' {a c : ByteArray} (h : a ≠ c) : (a.toList != c.toList) = true := by
  unfold bne
  rw [str_ne h]
  rfl
theorem until_nn (lead now want ack : Int) : 0 ≤ untilV lead now want ack := by unfold untilV clkAdd mom bnd; omega

set_option maxRecDepth 100000 in
set_option maxHeartbeats 1000000 in
theorem lea_new01 (id lead guard la lb : Int) (lc client : ByteArray) (lu lk lt lz lv now want : Int) (h : lb ≠ 2) (hv : lb = ownV id) (w : World) : Calls Try.prog 17 #[.agg #[.int .i64 id, .int .i64 lead, .int .i64 guard], .agg #[.int .u32 la, .int .i64 lb, .string lc, .int .i64 lu, .int .i64 lk, .int .i64 lt, .int .i64 lz, .int .i64 lv], .string client, .int .i64 now, .int .i64 want] w fun e w' => e = .returned (.agg #[.int .u32 la, .int .i64 2, .string client, .int .i64 (untilV lead now want 0), .int .i64 0, .int .i64 0, .int .i64 (mom now), .int .i64 (lv)]) ∧ Below w.heap.size w w' := by
  have b1 : (lb != 2) = true := by simp [h]
  have b2 : (lb == 2) = false := by simp [h]
  have d1 : (lb != ownV id) = false := bne_eq_false_iff_eq.2 hv
  have d2 : decide (lb = ownV id) = true := decide_eq_true hv
  clear h; have hv' := Lib.hid hv; clear hv
  go_enter Try.func17, Try.ntmps17
  go_upto_region 3 with (fail)
  have hh := (((HeldB.nil (lowA (lowA (low0 w (.cells #[.int .i64 id, .int .i64 lead, .int .i64 guard] 25)) (.cells #[.int .u32 la, .int .i64 lb, .string lc, .int .i64 lu, .int .i64 lk, .int .i64 lt, .int .i64 lz, .int .i64 lv] 35)) (.cells #[.int .u32 0, .int .i64 0, .string ByteArray.empty, .int .i64 0, .int .i64 0, .int .i64 0, .int .i64 0, .int .i64 0] 35))).cons ((Blk.new2' w #[.int .i64 id, .int .i64 lead, .int .i64 guard] 25 (.cells #[.int .u32 la, .int .i64 lb, .string lc, .int .i64 lu, .int .i64 lk, .int .i64 lt, .int .i64 lz, .int .i64 lv] 35)).alloc (.cells #[.int .u32 0, .int .i64 0, .string ByteArray.empty, .int .i64 0, .int .i64 0, .int .i64 0, .int .i64 0, .int .i64 0] 35))).cons ((Blk.new2 w (.cells #[.int .i64 id, .int .i64 lead, .int .i64 guard] 25) #[.int .u32 la, .int .i64 lb, .string lc, .int .i64 lu, .int .i64 lk, .int .i64 lt, .int .i64 lz, .int .i64 lv] 35).alloc (.cells #[.int .u32 0, .int .i64 0, .string ByteArray.empty, .int .i64 0, .int .i64 0, .int .i64 0, .int .i64 0, .int .i64 0] 35))).cons (Blk.new3 w (.cells #[.int .i64 id, .int .i64 lead, .int .i64 guard] 25) (.cells #[.int .u32 la, .int .i64 lb, .string lc, .int .i64 lu, .int .i64 lk, .int .i64 lt, .int .i64 lz, .int .i64 lv] 35) #[.int .u32 0, .int .i64 0, .string ByteArray.empty, .int .i64 0, .int .i64 0, .int .i64 0, .int .i64 0, .int .i64 0] 35)
  have HH0 := Lib.hid hh
  clear hh
  refine wp_region_seq (S := HeldB w [((w.heap.size + 1 + 1), #[.int .u32 0, .int .i64 0, .string ByteArray.empty, .int .i64 0, .int .i64 0, .int .i64 0, .int .i64 0, .int .i64 0], 35), ((w.heap.size + 1), #[.int .u32 la, .int .i64 lb, .string lc, .int .i64 lu, .int .i64 lk, .int .i64 lt, .int .i64 lz, .int .i64 lv], 35), (w.heap.size, #[.int .i64 id, .int .i64 lead, .int .i64 guard], 25)]) 5 (by kernel_rfl) (by kernel_rfl) HH0.out.drew ?_
  simp only [List.take_succ_cons, List.take_zero, List.drop_succ_cons, List.drop_zero]
  refine wpHeld_val (v := ?vleao010) (by rfl) ?yleao010 ?rleao010
  case yleao010 => (intro wS hSw; go_simp; try (with_reducible rfl))
  try simp only [Act.put, List.setIfInBounds_toArray, List.set_cons_zero, List.set_cons_succ]
  refine wpHeld_val (v := ?vleao011) (by rfl) ?yleao011 ?rleao011
  case yleao011 => (intro wS hSw; obtain ⟨q0_0, q0_1, q0_2, q0_3, q0_4, q0_5, q0_6, q0_7⟩ := (hSw).b0.cells8; obtain ⟨q1_0, q1_1, q1_2, q1_3, q1_4, q1_5, q1_6, q1_7⟩ := (hSw).tl.b0.cells8; obtain ⟨q2_0, q2_1, q2_2⟩ := (hSw).tl.tl.b0.cells3; go_simp; try (with_reducible rfl))
  try simp only [Act.put, List.setIfInBounds_toArray, List.set_cons_zero, List.set_cons_succ]
  refine wpHeld_val (v := ?vleao012) (by rfl) ?yleao012 ?rleao012
  case yleao012 => (intro wS hSw; obtain ⟨q0_0, q0_1, q0_2, q0_3, q0_4, q0_5, q0_6, q0_7⟩ := (hSw).b0.cells8; obtain ⟨q1_0, q1_1, q1_2, q1_3, q1_4, q1_5, q1_6, q1_7⟩ := (hSw).tl.b0.cells8; obtain ⟨q2_0, q2_1, q2_2⟩ := (hSw).tl.tl.b0.cells3; go_simp; try (with_reducible rfl))
  try simp only [Act.put, List.setIfInBounds_toArray, List.set_cons_zero, List.set_cons_succ]
  refine wpHeld_run (.int .i64 (ownV id)) (by rfl) ?cleao013 ?rleao013
  case cleao013 => (intro wS hSw K hK; go_simp; (go_at_call 13; with_reducible refine (own_any id lead guard _).mono ?_; rintro e w5 ⟨rfl, hx⟩); go_wp2_with fail; exact hK.out _ (hSw.keep hx))
  try simp only [Act.put, List.setIfInBounds_toArray, List.set_cons_zero, List.set_cons_succ]
  refine wpHeld_val (v := .bool false) (by rfl) ?yleao014 ?rleao014
  case yleao014 => (intro wS hSw; go_simp; try (first | with_reducible rfl | simp))
  try simp only [Act.put, List.setIfInBounds_toArray, List.set_cons_zero, List.set_cons_succ]
  refine wpHeld_nil ?_
  intro wS hSw
  generalize wS = w3 at *
  clear HH0
  obtain ⟨q0_0, q0_1, q0_2, q0_3, q0_4, q0_5, q0_6, q0_7⟩ := (hSw).b0.cells8; have qf0 := (hSw).b0.free; obtain ⟨q1_0, q1_1, q1_2, q1_3, q1_4, q1_5, q1_6, q1_7⟩ := (hSw).tl.b0.cells8; have qf1 := (hSw).tl.b0.free; obtain ⟨q2_0, q2_1, q2_2⟩ := (hSw).tl.tl.b0.cells3; have qf2 := (hSw).tl.tl.b0.free
  go_upto_region 6 with ((go_at_call 21; with_reducible refine (add_any _ _ _).mono ?_; rintro e w1 ⟨rfl, rfl⟩))
  clear q0_0 q0_1 q0_2 q0_3 q0_4 q0_5 q0_6 q0_7 q1_0 q1_1 q1_2 q1_3 q1_4 q1_5 q1_6 q1_7 q2_0 q2_1 q2_2 qf0 qf1 qf2
  have H5 := (hSw).set81 (by first | omega | (simp; done) | (simp; omega)) (by simp) (.int .u32 la) (.int .i64 2) (.string client) (.int .i64 0) (.int .i64 0) (.int .i64 0) (.int .i64 0) (.int .i64 (lv))
  clear hSw
  generalize (((((((((w3).setCell ⟨(w.heap.size + 1), 0, none⟩ (.int .u32 la)).setCell ⟨(w.heap.size + 1), 1, none⟩ (.int .i64 2)).setCell ⟨(w.heap.size + 1), 2, none⟩ (.string client)).setCell ⟨(w.heap.size + 1), 3, none⟩ (.int .i64 0)).setCell ⟨(w.heap.size + 1), 4, none⟩ (.int .i64 0)).setCell ⟨(w.heap.size + 1), 5, none⟩ (.int .i64 0)).setCell ⟨(w.heap.size + 1), 6, none⟩ (.int .i64 0)).setCell ⟨(w.heap.size + 1), 7, none⟩ (.int .i64 (lv))) = w5 at *
  have HH5 := Lib.hid H5
  clear H5
  refine wp_region_seq (S := HeldB w [((w.heap.size + 1 + 1), #[.int .u32 0, .int .i64 0, .string ByteArray.empty, .int .i64 0, .int .i64 0, .int .i64 0, .int .i64 0, .int .i64 0], 35), ((w.heap.size + 1), #[.int .u32 la, .int .i64 2, .string client, .int .i64 0, .int .i64 0, .int .i64 0, .int .i64 0, .int .i64 (lv)], 35), (w.heap.size, #[.int .i64 id, .int .i64 lead, .int .i64 guard], 25)]) 10 (by kernel_rfl) (by kernel_rfl) HH5.out.drew ?_
  simp only [List.take_succ_cons, List.take_zero, List.drop_succ_cons, List.drop_zero]
  refine wpHeld_val (v := ?vleau010) (by rfl) ?yleau010 ?rleau010
  case yleau010 => (intro wS hSw; go_simp; try (with_reducible rfl))
  try simp only [Act.put, List.setIfInBounds_toArray, List.set_cons_zero, List.set_cons_succ]
  refine wpHeld_val (v := ?vleau011) (by rfl) ?yleau011 ?rleau011
  case yleau011 => (intro wS hSw; obtain ⟨q0_0, q0_1, q0_2, q0_3, q0_4, q0_5, q0_6, q0_7⟩ := (hSw).b0.cells8; obtain ⟨q1_0, q1_1, q1_2, q1_3, q1_4, q1_5, q1_6, q1_7⟩ := (hSw).tl.b0.cells8; obtain ⟨q2_0, q2_1, q2_2⟩ := (hSw).tl.tl.b0.cells3; go_simp; try (with_reducible rfl))
  try simp only [Act.put, List.setIfInBounds_toArray, List.set_cons_zero, List.set_cons_succ]
  refine wpHeld_val (v := ?vleau012) (by rfl) ?yleau012 ?rleau012
  case yleau012 => (intro wS hSw; obtain ⟨q0_0, q0_1, q0_2, q0_3, q0_4, q0_5, q0_6, q0_7⟩ := (hSw).b0.cells8; obtain ⟨q1_0, q1_1, q1_2, q1_3, q1_4, q1_5, q1_6, q1_7⟩ := (hSw).tl.b0.cells8; obtain ⟨q2_0, q2_1, q2_2⟩ := (hSw).tl.tl.b0.cells3; go_simp; try (with_reducible rfl))
  try simp only [Act.put, List.setIfInBounds_toArray, List.set_cons_zero, List.set_cons_succ]
  refine wpHeld_val (v := ?vleau013) (by rfl) ?yleau013 ?rleau013
  case yleau013 => (intro wS hSw; go_simp; try (with_reducible rfl))
  try simp only [Act.put, List.setIfInBounds_toArray, List.set_cons_zero, List.set_cons_succ]
  refine wpHeld_val (v := ?vleau014) (by rfl) ?yleau014 ?rleau014
  case yleau014 => (intro wS hSw; go_simp; try (with_reducible rfl))
  try simp only [Act.put, List.setIfInBounds_toArray, List.set_cons_zero, List.set_cons_succ]
  refine wpHeld_val (v := ?vleau015) (by rfl) ?yleau015 ?rleau015
  case yleau015 => (intro wS hSw; go_simp; try (with_reducible rfl))
  try simp only [Act.put, List.setIfInBounds_toArray, List.set_cons_zero, List.set_cons_succ]
  refine wpHeld_val (v := ?vleau016) (by rfl) ?yleau016 ?rleau016
  case yleau016 => (intro wS hSw; obtain ⟨q0_0, q0_1, q0_2, q0_3, q0_4, q0_5, q0_6, q0_7⟩ := (hSw).b0.cells8; obtain ⟨q1_0, q1_1, q1_2, q1_3, q1_4, q1_5, q1_6, q1_7⟩ := (hSw).tl.b0.cells8; obtain ⟨q2_0, q2_1, q2_2⟩ := (hSw).tl.tl.b0.cells3; go_simp; try (with_reducible rfl))
  try simp only [Act.put, List.setIfInBounds_toArray, List.set_cons_zero, List.set_cons_succ]
  refine wpHeld_run (.int .i64 (untilV lead now want 0)) (by rfl) ?cleau017 ?rleau017
  case cleau017 => (intro wS hSw K hK; go_simp; (go_at_call 11; with_reducible refine (until_any id lead guard now want 0 _).mono ?_; rintro e w5 ⟨rfl, hx⟩); go_wp2_with fail; exact hK.out _ (hSw.keep hx))
  try simp only [Act.put, List.setIfInBounds_toArray, List.set_cons_zero, List.set_cons_succ]
  refine wpHeld_val (v := .int .i64 (untilV lead now want 0)) (by rfl) ?yleau018 ?rleau018
  case yleau018 => (intro wS hSw; go_simp; try (intro hh; have hn := until_nn lead now want 0; omega))
  try simp only [Act.put, List.setIfInBounds_toArray, List.set_cons_zero, List.set_cons_succ]
  refine wpHeld_val (v := ?vleau019) (by rfl) ?yleau019 ?rleau019
  case yleau019 => (intro wS hSw; go_simp; try (with_reducible rfl))
  try simp only [Act.put, List.setIfInBounds_toArray, List.set_cons_zero, List.set_cons_succ]
  refine wpHeld_nil ?_
  intro wS hSw
  obtain ⟨q0_0, q0_1, q0_2, q0_3, q0_4, q0_5, q0_6, q0_7⟩ := (hSw).b0.cells8; have qf0 := (hSw).b0.free; obtain ⟨q1_0, q1_1, q1_2, q1_3, q1_4, q1_5, q1_6, q1_7⟩ := (hSw).tl.b0.cells8; have qf1 := (hSw).tl.b0.free; obtain ⟨q2_0, q2_1, q2_2⟩ := (hSw).tl.tl.b0.cells3; have qf2 := (hSw).tl.tl.b0.free
  go_upto_region 7 with (fail)
  clear q0_0 q0_1 q0_2 q0_3 q0_4 q0_5 q0_6 q0_7 q1_0 q1_1 q1_2 q1_3 q1_4 q1_5 q1_6 q1_7 q2_0 q2_1 q2_2 qf0 qf1 qf2
  have H7 := (hSw).set1 (by first | omega | (simp; done) | (simp; omega)) (by simp) 3 (.int .i64 (untilV lead now want 0))
  simp only [List.setIfInBounds_toArray, List.set_cons_zero, List.set_cons_succ] at H7
  clear hSw HH5
  generalize wS.setCell ⟨w.heap.size + 1, 3, none⟩ (.int .i64 (untilV lead now want 0)) = w7 at *
  obtain ⟨q0_0, q0_1, q0_2, q0_3, q0_4, q0_5, q0_6, q0_7⟩ := (H7).b0.cells8; have qf0 := (H7).b0.free; obtain ⟨q1_0, q1_1, q1_2, q1_3, q1_4, q1_5, q1_6, q1_7⟩ := (H7).tl.b0.cells8; have qf1 := (H7).tl.b0.free; obtain ⟨q2_0, q2_1, q2_2⟩ := (H7).tl.tl.b0.cells3; have qf2 := (H7).tl.tl.b0.free
  obtain ⟨p0_0, p0_1, p0_2, p0_3, p0_4, p0_5, p0_6, p0_7⟩ := (H7.alloc (.cells #[.int .i64 now] 3)).b0.cells8; have pf0 := (H7.alloc (.cells #[.int .i64 now] 3)).b0.free; obtain ⟨p1_0, p1_1, p1_2, p1_3, p1_4, p1_5, p1_6, p1_7⟩ := (H7.alloc (.cells #[.int .i64 now] 3)).tl.b0.cells8; have pf1 := (H7.alloc (.cells #[.int .i64 now] 3)).tl.b0.free; obtain ⟨p2_0, p2_1, p2_2⟩ := (H7.alloc (.cells #[.int .i64 now] 3)).tl.tl.b0.cells3; have pf2 := (H7.alloc (.cells #[.int .i64 now] 3)).tl.tl.b0.free
  have H7' := Lib.hid H7
  clear H7
  go_upto_region 8 with ((go_at_call 22; refine (latest1 now _ _ (by simp)).mono ?_; rintro e w5 ⟨rfl, rfl⟩))
  clear q0_0 q0_1 q0_2 q0_3 q0_4 q0_5 q0_6 q0_7 q1_0 q1_1 q1_2 q1_3 q1_4 q1_5 q1_6 q1_7 q2_0 q2_1 q2_2 qf0 qf1 qf2
  clear p0_0 p0_1 p0_2 p0_3 p0_4 p0_5 p0_6 p0_7 p1_0 p1_1 p1_2 p1_3 p1_4 p1_5 p1_6 p1_7 p2_0 p2_1 p2_2 pf0 pf1 pf2
  have H8 := (H7'.out.alloc (.cells #[.int .i64 now] 3)).set1 (by first | omega | (simp; done) | (simp; omega)) (by simp) 6 (.int .i64 (mom now))
  simp only [List.setIfInBounds_toArray, List.set_cons_zero, List.set_cons_succ] at H8
  clear H7'
  generalize (w7.alloc (.cells #[.int .i64 now] 3)).setCell ⟨w.heap.size + 1, 6, none⟩ (.int .i64 (mom now)) = w8 at *
  obtain ⟨q0_0, q0_1, q0_2, q0_3, q0_4, q0_5, q0_6, q0_7⟩ := (H8).b0.cells8; have qf0 := (H8).b0.free; obtain ⟨q1_0, q1_1, q1_2, q1_3, q1_4, q1_5, q1_6, q1_7⟩ := (H8).tl.b0.cells8; have qf1 := (H8).tl.b0.free; obtain ⟨q2_0, q2_1, q2_2⟩ := (H8).tl.tl.b0.cells3; have qf2 := (H8).tl.tl.b0.free
  have H8' := Lib.hid H8.2
  clear H8
  go_wp2
  refine bodyPost_ret (v := .agg #[.int .u32 la, .int .i64 2, .string client, .int .i64 (untilV lead now want 0), .int .i64 0, .int .i64 0, .int .i64 (mom now), .int .i64 (lv)]) (by simp [results, Try.results17, go_sem, q0_0, q0_1, q0_2, q0_3, q0_4, q0_5, q0_6, q0_7]) rfl ⟨rfl, ?_⟩
  repeat (refine Below.setCell ?_ (by first | omega | (simp; done) | (simp; omega)) _)
  exact H8'.out

set_option maxRecDepth 100000 in
set_option maxHeartbeats 1000000 in
theorem rlea_new01 (id lead guard la lb : Int) (lc client : ByteArray) (lu lk lt lz lv now want : Int) (h : lb ≠ 2) (hv : lb = ownV id) (w : World) : Calls Try.prog 18 #[.agg #[.int .i64 id, .int .i64 lead, .int .i64 guard], .agg #[.int .u32 la, .int .i64 lb, .string lc, .int .i64 lu, .int .i64 lk, .int .i64 lt, .int .i64 lz, .int .i64 lv], .string client, .int .i64 now, .int .i64 want] w fun e w' => e = .returned (.agg #[.int .u32 la, .int .i64 2, .string client, .int .i64 (untilV lead now want 0), .int .i64 0, .int .i64 0, .int .i64 (mom now), .int .i64 (lv)]) ∧ Below w.heap.size w w' := by
  have b1 : (lb != 2) = true := by simp [h]
  have b2 : (lb == 2) = false := by simp [h]
  have d1 : (lb != ownV id) = false := bne_eq_false_iff_eq.2 hv
  have d2 : decide (lb = ownV id) = true := decide_eq_true hv
  clear h; have hv' := Lib.hid hv; clear hv
  go_enter Try.func18, Try.ntmps18
  go_upto_region 6 with (fail)
  have hh := (((HeldB.nil (lowA (lowA (low0 w (.cells #[.int .i64 id, .int .i64 lead, .int .i64 guard] 26)) (.cells #[.int .u32 la, .int .i64 lb, .string lc, .int .i64 lu, .int .i64 lk, .int .i64 lt, .int .i64 lz, .int .i64 lv] 35)) (.cells #[.int .u32 0, .int .i64 0, .string ByteArray.empty, .int .i64 0, .int .i64 0, .int .i64 0, .int .i64 0, .int .i64 0] 35))).cons ((Blk.new2' w #[.int .i64 id, .int .i64 lead, .int .i64 guard] 26 (.cells #[.int .u32 la, .int .i64 lb, .string lc, .int .i64 lu, .int .i64 lk, .int .i64 lt, .int .i64 lz, .int .i64 lv] 35)).alloc (.cells #[.int .u32 0, .int .i64 0, .string ByteArray.empty, .int .i64 0, .int .i64 0, .int .i64 0, .int .i64 0, .int .i64 0] 35))).cons ((Blk.new2 w (.cells #[.int .i64 id, .int .i64 lead, .int .i64 guard] 26) #[.int .u32 la, .int .i64 lb, .string lc, .int .i64 lu, .int .i64 lk, .int .i64 lt, .int .i64 lz, .int .i64 lv] 35).alloc (.cells #[.int .u32 0, .int .i64 0, .string ByteArray.empty, .int .i64 0, .int .i64 0, .int .i64 0, .int .i64 0, .int .i64 0] 35))).cons (Blk.new3 w (.cells #[.int .i64 id, .int .i64 lead, .int .i64 guard] 26) (.cells #[.int .u32 la, .int .i64 lb, .string lc, .int .i64 lu, .int .i64 lk, .int .i64 lt, .int .i64 lz, .int .i64 lv] 35) #[.int .u32 0, .int .i64 0, .string ByteArray.empty, .int .i64 0, .int .i64 0, .int .i64 0, .int .i64 0, .int .i64 0] 35)
  have HH0 := Lib.hid hh
  clear hh
  refine wp_region_seq (S := HeldB w [((w.heap.size + 1 + 1), #[.int .u32 0, .int .i64 0, .string ByteArray.empty, .int .i64 0, .int .i64 0, .int .i64 0, .int .i64 0, .int .i64 0], 35), ((w.heap.size + 1), #[.int .u32 la, .int .i64 lb, .string lc, .int .i64 lu, .int .i64 lk, .int .i64 lt, .int .i64 lz, .int .i64 lv], 35), (w.heap.size, #[.int .i64 id, .int .i64 lead, .int .i64 guard], 26)]) 5 (by kernel_rfl) (by kernel_rfl) HH0.out.drew ?_
  simp only [List.take_succ_cons, List.take_zero, List.drop_succ_cons, List.drop_zero]
  refine wpHeld_val (v := ?vrleao010) (by rfl) ?yrleao010 ?rrleao010
  case yrleao010 => (intro wS hSw; go_simp; try (with_reducible rfl))
  try simp only [Act.put, List.setIfInBounds_toArray, List.set_cons_zero, List.set_cons_succ]
  refine wpHeld_val (v := ?vrleao011) (by rfl) ?yrleao011 ?rrleao011
  case yrleao011 => (intro wS hSw; obtain ⟨q0_0, q0_1, q0_2, q0_3, q0_4, q0_5, q0_6, q0_7⟩ := (hSw).b0.cells8; obtain ⟨q1_0, q1_1, q1_2, q1_3, q1_4, q1_5, q1_6, q1_7⟩ := (hSw).tl.b0.cells8; obtain ⟨q2_0, q2_1, q2_2⟩ := (hSw).tl.tl.b0.cells3; go_simp; try (with_reducible rfl))
  try simp only [Act.put, List.setIfInBounds_toArray, List.set_cons_zero, List.set_cons_succ]
  refine wpHeld_val (v := ?vrleao012) (by rfl) ?yrleao012 ?rrleao012
  case yrleao012 => (intro wS hSw; obtain ⟨q0_0, q0_1, q0_2, q0_3, q0_4, q0_5, q0_6, q0_7⟩ := (hSw).b0.cells8; obtain ⟨q1_0, q1_1, q1_2, q1_3, q1_4, q1_5, q1_6, q1_7⟩ := (hSw).tl.b0.cells8; obtain ⟨q2_0, q2_1, q2_2⟩ := (hSw).tl.tl.b0.cells3; go_simp; try (with_reducible rfl))
  try simp only [Act.put, List.setIfInBounds_toArray, List.set_cons_zero, List.set_cons_succ]
  refine wpHeld_run (.int .i64 (ownV id)) (by rfl) ?crleao013 ?rrleao013
  case crleao013 => (intro wS hSw K hK; go_simp; (go_at_call 14; with_reducible refine (rown_any id lead guard _).mono ?_; rintro e w5 ⟨rfl, hx⟩); go_wp2_with fail; exact hK.out _ (hSw.keep hx))
  try simp only [Act.put, List.setIfInBounds_toArray, List.set_cons_zero, List.set_cons_succ]
  refine wpHeld_val (v := .bool false) (by rfl) ?yrleao014 ?rrleao014
  case yrleao014 => (intro wS hSw; go_simp; try (first | with_reducible rfl | simp))
  try simp only [Act.put, List.setIfInBounds_toArray, List.set_cons_zero, List.set_cons_succ]
  refine wpHeld_nil ?_
  intro wS hSw
  generalize wS = w3 at *
  clear HH0
  obtain ⟨q0_0, q0_1, q0_2, q0_3, q0_4, q0_5, q0_6, q0_7⟩ := (hSw).b0.cells8; have qf0 := (hSw).b0.free; obtain ⟨q1_0, q1_1, q1_2, q1_3, q1_4, q1_5, q1_6, q1_7⟩ := (hSw).tl.b0.cells8; have qf1 := (hSw).tl.b0.free; obtain ⟨q2_0, q2_1, q2_2⟩ := (hSw).tl.tl.b0.cells3; have qf2 := (hSw).tl.tl.b0.free
  have HH5 := Lib.hid hSw
  clear hSw
  go_upto_region 8 with ((go_at_call 23; with_reducible refine (radd_any _ _ _).mono ?_; rintro e w1 ⟨rfl, rfl⟩))
  clear q0_0 q0_1 q0_2 q0_3 q0_4 q0_5 q0_6 q0_7 q1_0 q1_1 q1_2 q1_3 q1_4 q1_5 q1_6 q1_7 q2_0 q2_1 q2_2 qf0 qf1 qf2
  refine wp_region_seq (S := HeldB w [((w.heap.size + 1 + 1), #[.int .u32 0, .int .i64 0, .string ByteArray.empty, .int .i64 0, .int .i64 0, .int .i64 0, .int .i64 0, .int .i64 0], 35), ((w.heap.size + 1), #[.int .u32 la, .int .i64 lb, .string lc, .int .i64 lu, .int .i64 lk, .int .i64 lt, .int .i64 lz, .int .i64 lv], 35), (w.heap.size, #[.int .i64 id, .int .i64 lead, .int .i64 guard], 26)]) 11 (by kernel_rfl) (by kernel_rfl) HH5.out.drew ?_
  simp only [List.take_succ_cons, List.take_zero, List.drop_succ_cons, List.drop_zero]
  refine wpHeld_val (v := ?vrleax010) (by rfl) ?yrleax010 ?rrleax010
  case yrleax010 => (intro wS hSw; go_simp; try (with_reducible rfl))
  try simp only [Act.put, List.setIfInBounds_toArray, List.set_cons_zero, List.set_cons_succ]
  refine wpHeld_val (v := ?vrleax011) (by rfl) ?yrleax011 ?rrleax011
  case yrleax011 => (intro wS hSw; obtain ⟨q0_0, q0_1, q0_2, q0_3, q0_4, q0_5, q0_6, q0_7⟩ := (hSw).b0.cells8; obtain ⟨q1_0, q1_1, q1_2, q1_3, q1_4, q1_5, q1_6, q1_7⟩ := (hSw).tl.b0.cells8; obtain ⟨q2_0, q2_1, q2_2⟩ := (hSw).tl.tl.b0.cells3; go_simp; try (with_reducible rfl))
  try simp only [Act.put, List.setIfInBounds_toArray, List.set_cons_zero, List.set_cons_succ]
  refine wpHeld_val (v := ?vrleax012) (by rfl) ?yrleax012 ?rrleax012
  case yrleax012 => (intro wS hSw; go_simp; try (with_reducible rfl))
  try simp only [Act.put, List.setIfInBounds_toArray, List.set_cons_zero, List.set_cons_succ]
  refine wpHeld_val (v := ?vrleax013) (by rfl) ?yrleax013 ?rrleax013
  case yrleax013 => (intro wS hSw; obtain ⟨q0_0, q0_1, q0_2, q0_3, q0_4, q0_5, q0_6, q0_7⟩ := (hSw).b0.cells8; obtain ⟨q1_0, q1_1, q1_2, q1_3, q1_4, q1_5, q1_6, q1_7⟩ := (hSw).tl.b0.cells8; obtain ⟨q2_0, q2_1, q2_2⟩ := (hSw).tl.tl.b0.cells3; go_simp; try (with_reducible rfl))
  try simp only [Act.put, List.setIfInBounds_toArray, List.set_cons_zero, List.set_cons_succ]
  refine wpHeld_val (v := ?vrleax014) (by rfl) ?yrleax014 ?rrleax014
  case yrleax014 => (intro wS hSw; go_simp; try (with_reducible rfl))
  try simp only [Act.put, List.setIfInBounds_toArray, List.set_cons_zero, List.set_cons_succ]
  refine wpHeld_val (v := ?vrleax015) (by rfl) ?yrleax015 ?rrleax015
  case yrleax015 => (intro wS hSw; go_simp; try (with_reducible rfl))
  try simp only [Act.put, List.setIfInBounds_toArray, List.set_cons_zero, List.set_cons_succ]
  refine wpHeld_run (.int .i64 (untilV lead now want 0)) (by rfl) ?crleax016 ?rrleax016
  case crleax016 => (intro wS hSw K hK; go_simp; (go_at_call 12; with_reducible refine (runtil_any id lead guard now want 0 _).mono ?_; rintro e w5 ⟨rfl, hx⟩); go_wp2_with fail; exact hK.out _ (hSw.keep hx))
  try simp only [Act.put, List.setIfInBounds_toArray, List.set_cons_zero, List.set_cons_succ]
  refine wpHeld_val (v := ?vrleax017) (by rfl) ?yrleax017 ?rrleax017
  case yrleax017 => (intro wS hSw; go_simp; try (with_reducible rfl))
  try simp only [Act.put, List.setIfInBounds_toArray, List.set_cons_zero, List.set_cons_succ]
  refine wpHeld_run (.int .i64 (mom now)) (by rfl) ?crleax018 ?rrleax018
  case crleax018 => (intro wS hSw K hK; go_simp; (go_at_call 24; with_reducible refine (rbnd_any _ _).mono ?_; rintro e w1 ⟨rfl, rfl⟩); go_wp2_with fail; exact hK.out _ (hSw))
  try simp only [Act.put, List.setIfInBounds_toArray, List.set_cons_zero, List.set_cons_succ]
  refine wpHeld_val (v := ?vrleax019) (by rfl) ?yrleax019 ?rrleax019
  case yrleax019 => (intro wS hSw; go_simp; try (with_reducible rfl))
  try simp only [Act.put, List.setIfInBounds_toArray, List.set_cons_zero, List.set_cons_succ]
  refine wpHeld_val (v := ?vrleax0110) (by rfl) ?yrleax0110 ?rrleax0110
  case yrleax0110 => (intro wS hSw; go_simp; try (with_reducible rfl))
  try simp only [Act.put, List.setIfInBounds_toArray, List.set_cons_zero, List.set_cons_succ]
  refine wpHeld_nil ?_
  intro wS hSw
  obtain ⟨q0_0, q0_1, q0_2, q0_3, q0_4, q0_5, q0_6, q0_7⟩ := (hSw).b0.cells8; have qf0 := (hSw).b0.free; obtain ⟨q1_0, q1_1, q1_2, q1_3, q1_4, q1_5, q1_6, q1_7⟩ := (hSw).tl.b0.cells8; have qf1 := (hSw).tl.b0.free; obtain ⟨q2_0, q2_1, q2_2⟩ := (hSw).tl.tl.b0.cells3; have qf2 := (hSw).tl.tl.b0.free
  have H8' := Lib.hid hSw.2
  clear hSw
  go_wp2
  refine bodyPost_ret (v := .agg #[.int .u32 la, .int .i64 2, .string client, .int .i64 (untilV lead now want 0), .int .i64 0, .int .i64 0, .int .i64 (mom now), .int .i64 (lv)]) (by simp [results, Try.results18, go_sem, q0_0, q0_1, q0_2, q0_3, q0_4, q0_5, q0_6, q0_7]) rfl ⟨rfl, ?_⟩
  repeat (refine Below.setCell ?_ (by first | omega | (simp; done) | (simp; omega)) _)
  exact H8'.out

set_option maxRecDepth 100000 in
set_option maxHeartbeats 1000000 in
theorem lea_new00 (id lead guard la lb : Int) (lc client : ByteArray) (lu lk lt lz lv now want : Int) (h : lb ≠ 2) (hv : lb ≠ ownV id) (w : World) : Calls Try.prog 17 #[.agg #[.int .i64 id, .int .i64 lead, .int .i64 guard], .agg #[.int .u32 la, .int .i64 lb, .string lc, .int .i64 lu, .int .i64 lk, .int .i64 lt, .int .i64 lz, .int .i64 lv], .string client, .int .i64 now, .int .i64 want] w fun e w' => e = .returned (.agg #[.int .u32 la, .int .i64 2, .string client, .int .i64 (untilV lead now want 0), .int .i64 0, .int .i64 0, .int .i64 (mom now), .int .i64 (clkAdd lv 1)]) ∧ Below w.heap.size w w' := by
  have b1 : (lb != 2) = true := by simp [h]
  have b2 : (lb == 2) = false := by simp [h]
  have d1 : (lb != ownV id) = true := bne_iff_ne.2 hv
  have d2 : decide (lb = ownV id) = false := decide_eq_false hv
  clear h hv
  go_enter Try.func17, Try.ntmps17
  go_upto_region 3 with (fail)
  have hh := (((HeldB.nil (lowA (lowA (low0 w (.cells #[.int .i64 id, .int .i64 lead, .int .i64 guard] 25)) (.cells #[.int .u32 la, .int .i64 lb, .string lc, .int .i64 lu, .int .i64 lk, .int .i64 lt, .int .i64 lz, .int .i64 lv] 35)) (.cells #[.int .u32 0, .int .i64 0, .string ByteArray.empty, .int .i64 0, .int .i64 0, .int .i64 0, .int .i64 0, .int .i64 0] 35))).cons ((Blk.new2' w #[.int .i64 id, .int .i64 lead, .int .i64 guard] 25 (.cells #[.int .u32 la, .int .i64 lb, .string lc, .int .i64 lu, .int .i64 lk, .int .i64 lt, .int .i64 lz, .int .i64 lv] 35)).alloc (.cells #[.int .u32 0, .int .i64 0, .string ByteArray.empty, .int .i64 0, .int .i64 0, .int .i64 0, .int .i64 0, .int .i64 0] 35))).cons ((Blk.new2 w (.cells #[.int .i64 id, .int .i64 lead, .int .i64 guard] 25) #[.int .u32 la, .int .i64 lb, .string lc, .int .i64 lu, .int .i64 lk, .int .i64 lt, .int .i64 lz, .int .i64 lv] 35).alloc (.cells #[.int .u32 0, .int .i64 0, .string ByteArray.empty, .int .i64 0, .int .i64 0, .int .i64 0, .int .i64 0, .int .i64 0] 35))).cons (Blk.new3 w (.cells #[.int .i64 id, .int .i64 lead, .int .i64 guard] 25) (.cells #[.int .u32 la, .int .i64 lb, .string lc, .int .i64 lu, .int .i64 lk, .int .i64 lt, .int .i64 lz, .int .i64 lv] 35) #[.int .u32 0, .int .i64 0, .string ByteArray.empty, .int .i64 0, .int .i64 0, .int .i64 0, .int .i64 0, .int .i64 0] 35)
  have HH0 := Lib.hid hh
  clear hh
  refine wp_region_seq (S := HeldB w [((w.heap.size + 1 + 1), #[.int .u32 0, .int .i64 0, .string ByteArray.empty, .int .i64 0, .int .i64 0, .int .i64 0, .int .i64 0, .int .i64 0], 35), ((w.heap.size + 1), #[.int .u32 la, .int .i64 lb, .string lc, .int .i64 lu, .int .i64 lk, .int .i64 lt, .int .i64 lz, .int .i64 lv], 35), (w.heap.size, #[.int .i64 id, .int .i64 lead, .int .i64 guard], 25)]) 5 (by kernel_rfl) (by kernel_rfl) HH0.out.drew ?_
  simp only [List.take_succ_cons, List.take_zero, List.drop_succ_cons, List.drop_zero]
  refine wpHeld_val (v := ?vleao000) (by rfl) ?yleao000 ?rleao000
  case yleao000 => (intro wS hSw; go_simp; try (with_reducible rfl))
  try simp only [Act.put, List.setIfInBounds_toArray, List.set_cons_zero, List.set_cons_succ]
  refine wpHeld_val (v := ?vleao001) (by rfl) ?yleao001 ?rleao001
  case yleao001 => (intro wS hSw; obtain ⟨q0_0, q0_1, q0_2, q0_3, q0_4, q0_5, q0_6, q0_7⟩ := (hSw).b0.cells8; obtain ⟨q1_0, q1_1, q1_2, q1_3, q1_4, q1_5, q1_6, q1_7⟩ := (hSw).tl.b0.cells8; obtain ⟨q2_0, q2_1, q2_2⟩ := (hSw).tl.tl.b0.cells3; go_simp; try (with_reducible rfl))
  try simp only [Act.put, List.setIfInBounds_toArray, List.set_cons_zero, List.set_cons_succ]
  refine wpHeld_val (v := ?vleao002) (by rfl) ?yleao002 ?rleao002
  case yleao002 => (intro wS hSw; obtain ⟨q0_0, q0_1, q0_2, q0_3, q0_4, q0_5, q0_6, q0_7⟩ := (hSw).b0.cells8; obtain ⟨q1_0, q1_1, q1_2, q1_3, q1_4, q1_5, q1_6, q1_7⟩ := (hSw).tl.b0.cells8; obtain ⟨q2_0, q2_1, q2_2⟩ := (hSw).tl.tl.b0.cells3; go_simp; try (with_reducible rfl))
  try simp only [Act.put, List.setIfInBounds_toArray, List.set_cons_zero, List.set_cons_succ]
  refine wpHeld_run (.int .i64 (ownV id)) (by rfl) ?cleao003 ?rleao003
  case cleao003 => (intro wS hSw K hK; go_simp; (go_at_call 13; with_reducible refine (own_any id lead guard _).mono ?_; rintro e w5 ⟨rfl, hx⟩); go_wp2_with fail; exact hK.out _ (hSw.keep hx))
  try simp only [Act.put, List.setIfInBounds_toArray, List.set_cons_zero, List.set_cons_succ]
  refine wpHeld_val (v := .bool true) (by rfl) ?yleao004 ?rleao004
  case yleao004 => (intro wS hSw; go_simp; try (first | with_reducible rfl | simp))
  try simp only [Act.put, List.setIfInBounds_toArray, List.set_cons_zero, List.set_cons_succ]
  refine wpHeld_nil ?_
  intro wS hSw
  generalize wS = w3 at *
  clear HH0
  obtain ⟨q0_0, q0_1, q0_2, q0_3, q0_4, q0_5, q0_6, q0_7⟩ := (hSw).b0.cells8; have qf0 := (hSw).b0.free; obtain ⟨q1_0, q1_1, q1_2, q1_3, q1_4, q1_5, q1_6, q1_7⟩ := (hSw).tl.b0.cells8; have qf1 := (hSw).tl.b0.free; obtain ⟨q2_0, q2_1, q2_2⟩ := (hSw).tl.tl.b0.cells3; have qf2 := (hSw).tl.tl.b0.free
  go_upto_region 6 with ((go_at_call 21; with_reducible refine (add_any _ _ _).mono ?_; rintro e w1 ⟨rfl, rfl⟩))
  clear q0_0 q0_1 q0_2 q0_3 q0_4 q0_5 q0_6 q0_7 q1_0 q1_1 q1_2 q1_3 q1_4 q1_5 q1_6 q1_7 q2_0 q2_1 q2_2 qf0 qf1 qf2
  have H5 := (hSw).set81 (by first | omega | (simp; done) | (simp; omega)) (by simp) (.int .u32 la) (.int .i64 2) (.string client) (.int .i64 0) (.int .i64 0) (.int .i64 0) (.int .i64 0) (.int .i64 (clkAdd lv 1))
  clear hSw
  generalize (((((((((w3).setCell ⟨(w.heap.size + 1), 0, none⟩ (.int .u32 la)).setCell ⟨(w.heap.size + 1), 1, none⟩ (.int .i64 2)).setCell ⟨(w.heap.size + 1), 2, none⟩ (.string client)).setCell ⟨(w.heap.size + 1), 3, none⟩ (.int .i64 0)).setCell ⟨(w.heap.size + 1), 4, none⟩ (.int .i64 0)).setCell ⟨(w.heap.size + 1), 5, none⟩ (.int .i64 0)).setCell ⟨(w.heap.size + 1), 6, none⟩ (.int .i64 0)).setCell ⟨(w.heap.size + 1), 7, none⟩ (.int .i64 (clkAdd lv 1))) = w5 at *
  have HH5 := Lib.hid H5
  clear H5
  refine wp_region_seq (S := HeldB w [((w.heap.size + 1 + 1), #[.int .u32 0, .int .i64 0, .string ByteArray.empty, .int .i64 0, .int .i64 0, .int .i64 0, .int .i64 0, .int .i64 0], 35), ((w.heap.size + 1), #[.int .u32 la, .int .i64 2, .string client, .int .i64 0, .int .i64 0, .int .i64 0, .int .i64 0, .int .i64 (clkAdd lv 1)], 35), (w.heap.size, #[.int .i64 id, .int .i64 lead, .int .i64 guard], 25)]) 10 (by kernel_rfl) (by kernel_rfl) HH5.out.drew ?_
  simp only [List.take_succ_cons, List.take_zero, List.drop_succ_cons, List.drop_zero]
  refine wpHeld_val (v := ?vleau000) (by rfl) ?yleau000 ?rleau000
  case yleau000 => (intro wS hSw; go_simp; try (with_reducible rfl))
  try simp only [Act.put, List.setIfInBounds_toArray, List.set_cons_zero, List.set_cons_succ]
  refine wpHeld_val (v := ?vleau001) (by rfl) ?yleau001 ?rleau001
  case yleau001 => (intro wS hSw; obtain ⟨q0_0, q0_1, q0_2, q0_3, q0_4, q0_5, q0_6, q0_7⟩ := (hSw).b0.cells8; obtain ⟨q1_0, q1_1, q1_2, q1_3, q1_4, q1_5, q1_6, q1_7⟩ := (hSw).tl.b0.cells8; obtain ⟨q2_0, q2_1, q2_2⟩ := (hSw).tl.tl.b0.cells3; go_simp; try (with_reducible rfl))
  try simp only [Act.put, List.setIfInBounds_toArray, List.set_cons_zero, List.set_cons_succ]
  refine wpHeld_val (v := ?vleau002) (by rfl) ?yleau002 ?rleau002
  case yleau002 => (intro wS hSw; obtain ⟨q0_0, q0_1, q0_2, q0_3, q0_4, q0_5, q0_6, q0_7⟩ := (hSw).b0.cells8; obtain ⟨q1_0, q1_1, q1_2, q1_3, q1_4, q1_5, q1_6, q1_7⟩ := (hSw).tl.b0.cells8; obtain ⟨q2_0, q2_1, q2_2⟩ := (hSw).tl.tl.b0.cells3; go_simp; try (with_reducible rfl))
  try simp only [Act.put, List.setIfInBounds_toArray, List.set_cons_zero, List.set_cons_succ]
  refine wpHeld_val (v := ?vleau003) (by rfl) ?yleau003 ?rleau003
  case yleau003 => (intro wS hSw; go_simp; try (with_reducible rfl))
  try simp only [Act.put, List.setIfInBounds_toArray, List.set_cons_zero, List.set_cons_succ]
  refine wpHeld_val (v := ?vleau004) (by rfl) ?yleau004 ?rleau004
  case yleau004 => (intro wS hSw; go_simp; try (with_reducible rfl))
  try simp only [Act.put, List.setIfInBounds_toArray, List.set_cons_zero, List.set_cons_succ]
  refine wpHeld_val (v := ?vleau005) (by rfl) ?yleau005 ?rleau005
  case yleau005 => (intro wS hSw; go_simp; try (with_reducible rfl))
  try simp only [Act.put, List.setIfInBounds_toArray, List.set_cons_zero, List.set_cons_succ]
  refine wpHeld_val (v := ?vleau006) (by rfl) ?yleau006 ?rleau006
  case yleau006 => (intro wS hSw; obtain ⟨q0_0, q0_1, q0_2, q0_3, q0_4, q0_5, q0_6, q0_7⟩ := (hSw).b0.cells8; obtain ⟨q1_0, q1_1, q1_2, q1_3, q1_4, q1_5, q1_6, q1_7⟩ := (hSw).tl.b0.cells8; obtain ⟨q2_0, q2_1, q2_2⟩ := (hSw).tl.tl.b0.cells3; go_simp; try (with_reducible rfl))
  try simp only [Act.put, List.setIfInBounds_toArray, List.set_cons_zero, List.set_cons_succ]
  refine wpHeld_run (.int .i64 (untilV lead now want 0)) (by rfl) ?cleau007 ?rleau007
  case cleau007 => (intro wS hSw K hK; go_simp; (go_at_call 11; with_reducible refine (until_any id lead guard now want 0 _).mono ?_; rintro e w5 ⟨rfl, hx⟩); go_wp2_with fail; exact hK.out _ (hSw.keep hx))
  try simp only [Act.put, List.setIfInBounds_toArray, List.set_cons_zero, List.set_cons_succ]
  refine wpHeld_val (v := .int .i64 (untilV lead now want 0)) (by rfl) ?yleau008 ?rleau008
  case yleau008 => (intro wS hSw; go_simp; try (intro hh; have hn := until_nn lead now want 0; omega))
  try simp only [Act.put, List.setIfInBounds_toArray, List.set_cons_zero, List.set_cons_succ]
  refine wpHeld_val (v := ?vleau009) (by rfl) ?yleau009 ?rleau009
  case yleau009 => (intro wS hSw; go_simp; try (with_reducible rfl))
  try simp only [Act.put, List.setIfInBounds_toArray, List.set_cons_zero, List.set_cons_succ]
  refine wpHeld_nil ?_
  intro wS hSw
  obtain ⟨q0_0, q0_1, q0_2, q0_3, q0_4, q0_5, q0_6, q0_7⟩ := (hSw).b0.cells8; have qf0 := (hSw).b0.free; obtain ⟨q1_0, q1_1, q1_2, q1_3, q1_4, q1_5, q1_6, q1_7⟩ := (hSw).tl.b0.cells8; have qf1 := (hSw).tl.b0.free; obtain ⟨q2_0, q2_1, q2_2⟩ := (hSw).tl.tl.b0.cells3; have qf2 := (hSw).tl.tl.b0.free
  go_upto_region 7 with (fail)
  clear q0_0 q0_1 q0_2 q0_3 q0_4 q0_5 q0_6 q0_7 q1_0 q1_1 q1_2 q1_3 q1_4 q1_5 q1_6 q1_7 q2_0 q2_1 q2_2 qf0 qf1 qf2
  have H7 := (hSw).set1 (by first | omega | (simp; done) | (simp; omega)) (by simp) 3 (.int .i64 (untilV lead now want 0))
  simp only [List.setIfInBounds_toArray, List.set_cons_zero, List.set_cons_succ] at H7
  clear hSw HH5
  generalize wS.setCell ⟨w.heap.size + 1, 3, none⟩ (.int .i64 (untilV lead now want 0)) = w7 at *
  obtain ⟨q0_0, q0_1, q0_2, q0_3, q0_4, q0_5, q0_6, q0_7⟩ := (H7).b0.cells8; have qf0 := (H7).b0.free; obtain ⟨q1_0, q1_1, q1_2, q1_3, q1_4, q1_5, q1_6, q1_7⟩ := (H7).tl.b0.cells8; have qf1 := (H7).tl.b0.free; obtain ⟨q2_0, q2_1, q2_2⟩ := (H7).tl.tl.b0.cells3; have qf2 := (H7).tl.tl.b0.free
  obtain ⟨p0_0, p0_1, p0_2, p0_3, p0_4, p0_5, p0_6, p0_7⟩ := (H7.alloc (.cells #[.int .i64 now] 3)).b0.cells8; have pf0 := (H7.alloc (.cells #[.int .i64 now] 3)).b0.free; obtain ⟨p1_0, p1_1, p1_2, p1_3, p1_4, p1_5, p1_6, p1_7⟩ := (H7.alloc (.cells #[.int .i64 now] 3)).tl.b0.cells8; have pf1 := (H7.alloc (.cells #[.int .i64 now] 3)).tl.b0.free; obtain ⟨p2_0, p2_1, p2_2⟩ := (H7.alloc (.cells #[.int .i64 now] 3)).tl.tl.b0.cells3; have pf2 := (H7.alloc (.cells #[.int .i64 now] 3)).tl.tl.b0.free
  have H7' := Lib.hid H7
  clear H7
  go_upto_region 8 with ((go_at_call 22; refine (latest1 now _ _ (by simp)).mono ?_; rintro e w5 ⟨rfl, rfl⟩))
  clear q0_0 q0_1 q0_2 q0_3 q0_4 q0_5 q0_6 q0_7 q1_0 q1_1 q1_2 q1_3 q1_4 q1_5 q1_6 q1_7 q2_0 q2_1 q2_2 qf0 qf1 qf2
  clear p0_0 p0_1 p0_2 p0_3 p0_4 p0_5 p0_6 p0_7 p1_0 p1_1 p1_2 p1_3 p1_4 p1_5 p1_6 p1_7 p2_0 p2_1 p2_2 pf0 pf1 pf2
  have H8 := (H7'.out.alloc (.cells #[.int .i64 now] 3)).set1 (by first | omega | (simp; done) | (simp; omega)) (by simp) 6 (.int .i64 (mom now))
  simp only [List.setIfInBounds_toArray, List.set_cons_zero, List.set_cons_succ] at H8
  clear H7'
  generalize (w7.alloc (.cells #[.int .i64 now] 3)).setCell ⟨w.heap.size + 1, 6, none⟩ (.int .i64 (mom now)) = w8 at *
  obtain ⟨q0_0, q0_1, q0_2, q0_3, q0_4, q0_5, q0_6, q0_7⟩ := (H8).b0.cells8; have qf0 := (H8).b0.free; obtain ⟨q1_0, q1_1, q1_2, q1_3, q1_4, q1_5, q1_6, q1_7⟩ := (H8).tl.b0.cells8; have qf1 := (H8).tl.b0.free; obtain ⟨q2_0, q2_1, q2_2⟩ := (H8).tl.tl.b0.cells3; have qf2 := (H8).tl.tl.b0.free
  have H8' := Lib.hid H8.2
  clear H8
  go_wp2
  refine bodyPost_ret (v := .agg #[.int .u32 la, .int .i64 2, .string client, .int .i64 (untilV lead now want 0), .int .i64 0, .int .i64 0, .int .i64 (mom now), .int .i64 (clkAdd lv 1)]) (by simp [results, Try.results17, go_sem, q0_0, q0_1, q0_2, q0_3, q0_4, q0_5, q0_6, q0_7]) rfl ⟨rfl, ?_⟩
  repeat (refine Below.setCell ?_ (by first | omega | (simp; done) | (simp; omega)) _)
  exact H8'.out

set_option maxRecDepth 100000 in
set_option maxHeartbeats 1000000 in
theorem rlea_new00 (id lead guard la lb : Int) (lc client : ByteArray) (lu lk lt lz lv now want : Int) (h : lb ≠ 2) (hv : lb ≠ ownV id) (w : World) : Calls Try.prog 18 #[.agg #[.int .i64 id, .int .i64 lead, .int .i64 guard], .agg #[.int .u32 la, .int .i64 lb, .string lc, .int .i64 lu, .int .i64 lk, .int .i64 lt, .int .i64 lz, .int .i64 lv], .string client, .int .i64 now, .int .i64 want] w fun e w' => e = .returned (.agg #[.int .u32 la, .int .i64 2, .string client, .int .i64 (untilV lead now want 0), .int .i64 0, .int .i64 0, .int .i64 (mom now), .int .i64 (clkAdd lv 1)]) ∧ Below w.heap.size w w' := by
  have b1 : (lb != 2) = true := by simp [h]
  have b2 : (lb == 2) = false := by simp [h]
  have d1 : (lb != ownV id) = true := bne_iff_ne.2 hv
  have d2 : decide (lb = ownV id) = false := decide_eq_false hv
  clear h hv
  go_enter Try.func18, Try.ntmps18
  go_upto_region 6 with (fail)
  have hh := (((HeldB.nil (lowA (lowA (low0 w (.cells #[.int .i64 id, .int .i64 lead, .int .i64 guard] 26)) (.cells #[.int .u32 la, .int .i64 lb, .string lc, .int .i64 lu, .int .i64 lk, .int .i64 lt, .int .i64 lz, .int .i64 lv] 35)) (.cells #[.int .u32 0, .int .i64 0, .string ByteArray.empty, .int .i64 0, .int .i64 0, .int .i64 0, .int .i64 0, .int .i64 0] 35))).cons ((Blk.new2' w #[.int .i64 id, .int .i64 lead, .int .i64 guard] 26 (.cells #[.int .u32 la, .int .i64 lb, .string lc, .int .i64 lu, .int .i64 lk, .int .i64 lt, .int .i64 lz, .int .i64 lv] 35)).alloc (.cells #[.int .u32 0, .int .i64 0, .string ByteArray.empty, .int .i64 0, .int .i64 0, .int .i64 0, .int .i64 0, .int .i64 0] 35))).cons ((Blk.new2 w (.cells #[.int .i64 id, .int .i64 lead, .int .i64 guard] 26) #[.int .u32 la, .int .i64 lb, .string lc, .int .i64 lu, .int .i64 lk, .int .i64 lt, .int .i64 lz, .int .i64 lv] 35).alloc (.cells #[.int .u32 0, .int .i64 0, .string ByteArray.empty, .int .i64 0, .int .i64 0, .int .i64 0, .int .i64 0, .int .i64 0] 35))).cons (Blk.new3 w (.cells #[.int .i64 id, .int .i64 lead, .int .i64 guard] 26) (.cells #[.int .u32 la, .int .i64 lb, .string lc, .int .i64 lu, .int .i64 lk, .int .i64 lt, .int .i64 lz, .int .i64 lv] 35) #[.int .u32 0, .int .i64 0, .string ByteArray.empty, .int .i64 0, .int .i64 0, .int .i64 0, .int .i64 0, .int .i64 0] 35)
  have HH0 := Lib.hid hh
  clear hh
  refine wp_region_seq (S := HeldB w [((w.heap.size + 1 + 1), #[.int .u32 0, .int .i64 0, .string ByteArray.empty, .int .i64 0, .int .i64 0, .int .i64 0, .int .i64 0, .int .i64 0], 35), ((w.heap.size + 1), #[.int .u32 la, .int .i64 lb, .string lc, .int .i64 lu, .int .i64 lk, .int .i64 lt, .int .i64 lz, .int .i64 lv], 35), (w.heap.size, #[.int .i64 id, .int .i64 lead, .int .i64 guard], 26)]) 5 (by kernel_rfl) (by kernel_rfl) HH0.out.drew ?_
  simp only [List.take_succ_cons, List.take_zero, List.drop_succ_cons, List.drop_zero]
  refine wpHeld_val (v := ?vrleao000) (by rfl) ?yrleao000 ?rrleao000
  case yrleao000 => (intro wS hSw; go_simp; try (with_reducible rfl))
  try simp only [Act.put, List.setIfInBounds_toArray, List.set_cons_zero, List.set_cons_succ]
  refine wpHeld_val (v := ?vrleao001) (by rfl) ?yrleao001 ?rrleao001
  case yrleao001 => (intro wS hSw; obtain ⟨q0_0, q0_1, q0_2, q0_3, q0_4, q0_5, q0_6, q0_7⟩ := (hSw).b0.cells8; obtain ⟨q1_0, q1_1, q1_2, q1_3, q1_4, q1_5, q1_6, q1_7⟩ := (hSw).tl.b0.cells8; obtain ⟨q2_0, q2_1, q2_2⟩ := (hSw).tl.tl.b0.cells3; go_simp; try (with_reducible rfl))
  try simp only [Act.put, List.setIfInBounds_toArray, List.set_cons_zero, List.set_cons_succ]
  refine wpHeld_val (v := ?vrleao002) (by rfl) ?yrleao002 ?rrleao002
  case yrleao002 => (intro wS hSw; obtain ⟨q0_0, q0_1, q0_2, q0_3, q0_4, q0_5, q0_6, q0_7⟩ := (hSw).b0.cells8; obtain ⟨q1_0, q1_1, q1_2, q1_3, q1_4, q1_5, q1_6, q1_7⟩ := (hSw).tl.b0.cells8; obtain ⟨q2_0, q2_1, q2_2⟩ := (hSw).tl.tl.b0.cells3; go_simp; try (with_reducible rfl))
  try simp only [Act.put, List.setIfInBounds_toArray, List.set_cons_zero, List.set_cons_succ]
  refine wpHeld_run (.int .i64 (ownV id)) (by rfl) ?crleao003 ?rrleao003
  case crleao003 => (intro wS hSw K hK; go_simp; (go_at_call 14; with_reducible refine (rown_any id lead guard _).mono ?_; rintro e w5 ⟨rfl, hx⟩); go_wp2_with fail; exact hK.out _ (hSw.keep hx))
  try simp only [Act.put, List.setIfInBounds_toArray, List.set_cons_zero, List.set_cons_succ]
  refine wpHeld_val (v := .bool true) (by rfl) ?yrleao004 ?rrleao004
  case yrleao004 => (intro wS hSw; go_simp; try (first | with_reducible rfl | simp))
  try simp only [Act.put, List.setIfInBounds_toArray, List.set_cons_zero, List.set_cons_succ]
  refine wpHeld_nil ?_
  intro wS hSw
  generalize wS = w3 at *
  clear HH0
  obtain ⟨q0_0, q0_1, q0_2, q0_3, q0_4, q0_5, q0_6, q0_7⟩ := (hSw).b0.cells8; have qf0 := (hSw).b0.free; obtain ⟨q1_0, q1_1, q1_2, q1_3, q1_4, q1_5, q1_6, q1_7⟩ := (hSw).tl.b0.cells8; have qf1 := (hSw).tl.b0.free; obtain ⟨q2_0, q2_1, q2_2⟩ := (hSw).tl.tl.b0.cells3; have qf2 := (hSw).tl.tl.b0.free
  have HH5 := Lib.hid hSw
  clear hSw
  go_upto_region 8 with ((go_at_call 23; with_reducible refine (radd_any _ _ _).mono ?_; rintro e w1 ⟨rfl, rfl⟩))
  clear q0_0 q0_1 q0_2 q0_3 q0_4 q0_5 q0_6 q0_7 q1_0 q1_1 q1_2 q1_3 q1_4 q1_5 q1_6 q1_7 q2_0 q2_1 q2_2 qf0 qf1 qf2
  refine wp_region_seq (S := HeldB w [((w.heap.size + 1 + 1), #[.int .u32 0, .int .i64 0, .string ByteArray.empty, .int .i64 0, .int .i64 0, .int .i64 0, .int .i64 0, .int .i64 0], 35), ((w.heap.size + 1), #[.int .u32 la, .int .i64 lb, .string lc, .int .i64 lu, .int .i64 lk, .int .i64 lt, .int .i64 lz, .int .i64 lv], 35), (w.heap.size, #[.int .i64 id, .int .i64 lead, .int .i64 guard], 26)]) 11 (by kernel_rfl) (by kernel_rfl) HH5.out.drew ?_
  simp only [List.take_succ_cons, List.take_zero, List.drop_succ_cons, List.drop_zero]
  refine wpHeld_val (v := ?vrleax000) (by rfl) ?yrleax000 ?rrleax000
  case yrleax000 => (intro wS hSw; go_simp; try (with_reducible rfl))
  try simp only [Act.put, List.setIfInBounds_toArray, List.set_cons_zero, List.set_cons_succ]
  refine wpHeld_val (v := ?vrleax001) (by rfl) ?yrleax001 ?rrleax001
  case yrleax001 => (intro wS hSw; obtain ⟨q0_0, q0_1, q0_2, q0_3, q0_4, q0_5, q0_6, q0_7⟩ := (hSw).b0.cells8; obtain ⟨q1_0, q1_1, q1_2, q1_3, q1_4, q1_5, q1_6, q1_7⟩ := (hSw).tl.b0.cells8; obtain ⟨q2_0, q2_1, q2_2⟩ := (hSw).tl.tl.b0.cells3; go_simp; try (with_reducible rfl))
  try simp only [Act.put, List.setIfInBounds_toArray, List.set_cons_zero, List.set_cons_succ]
  refine wpHeld_val (v := ?vrleax002) (by rfl) ?yrleax002 ?rrleax002
  case yrleax002 => (intro wS hSw; go_simp; try (with_reducible rfl))
  try simp only [Act.put, List.setIfInBounds_toArray, List.set_cons_zero, List.set_cons_succ]
  refine wpHeld_val (v := ?vrleax003) (by rfl) ?yrleax003 ?rrleax003
  case yrleax003 => (intro wS hSw; obtain ⟨q0_0, q0_1, q0_2, q0_3, q0_4, q0_5, q0_6, q0_7⟩ := (hSw).b0.cells8; obtain ⟨q1_0, q1_1, q1_2, q1_3, q1_4, q1_5, q1_6, q1_7⟩ := (hSw).tl.b0.cells8; obtain ⟨q2_0, q2_1, q2_2⟩ := (hSw).tl.tl.b0.cells3; go_simp; try (with_reducible rfl))
  try simp only [Act.put, List.setIfInBounds_toArray, List.set_cons_zero, List.set_cons_succ]
  refine wpHeld_val (v := ?vrleax004) (by rfl) ?yrleax004 ?rrleax004
  case yrleax004 => (intro wS hSw; go_simp; try (with_reducible rfl))
  try simp only [Act.put, List.setIfInBounds_toArray, List.set_cons_zero, List.set_cons_succ]
  refine wpHeld_val (v := ?vrleax005) (by rfl) ?yrleax005 ?rrleax005
  case yrleax005 => (intro wS hSw; go_simp; try (with_reducible rfl))
  try simp only [Act.put, List.setIfInBounds_toArray, List.set_cons_zero, List.set_cons_succ]
  refine wpHeld_run (.int .i64 (untilV lead now want 0)) (by rfl) ?crleax006 ?rrleax006
  case crleax006 => (intro wS hSw K hK; go_simp; (go_at_call 12; with_reducible refine (runtil_any id lead guard now want 0 _).mono ?_; rintro e w5 ⟨rfl, hx⟩); go_wp2_with fail; exact hK.out _ (hSw.keep hx))
  try simp only [Act.put, List.setIfInBounds_toArray, List.set_cons_zero, List.set_cons_succ]
  refine wpHeld_val (v := ?vrleax007) (by rfl) ?yrleax007 ?rrleax007
  case yrleax007 => (intro wS hSw; go_simp; try (with_reducible rfl))
  try simp only [Act.put, List.setIfInBounds_toArray, List.set_cons_zero, List.set_cons_succ]
  refine wpHeld_run (.int .i64 (mom now)) (by rfl) ?crleax008 ?rrleax008
  case crleax008 => (intro wS hSw K hK; go_simp; (go_at_call 24; with_reducible refine (rbnd_any _ _).mono ?_; rintro e w1 ⟨rfl, rfl⟩); go_wp2_with fail; exact hK.out _ (hSw))
  try simp only [Act.put, List.setIfInBounds_toArray, List.set_cons_zero, List.set_cons_succ]
  refine wpHeld_val (v := ?vrleax009) (by rfl) ?yrleax009 ?rrleax009
  case yrleax009 => (intro wS hSw; go_simp; try (with_reducible rfl))
  try simp only [Act.put, List.setIfInBounds_toArray, List.set_cons_zero, List.set_cons_succ]
  refine wpHeld_val (v := ?vrleax0010) (by rfl) ?yrleax0010 ?rrleax0010
  case yrleax0010 => (intro wS hSw; go_simp; try (with_reducible rfl))
  try simp only [Act.put, List.setIfInBounds_toArray, List.set_cons_zero, List.set_cons_succ]
  refine wpHeld_nil ?_
  intro wS hSw
  obtain ⟨q0_0, q0_1, q0_2, q0_3, q0_4, q0_5, q0_6, q0_7⟩ := (hSw).b0.cells8; have qf0 := (hSw).b0.free; obtain ⟨q1_0, q1_1, q1_2, q1_3, q1_4, q1_5, q1_6, q1_7⟩ := (hSw).tl.b0.cells8; have qf1 := (hSw).tl.b0.free; obtain ⟨q2_0, q2_1, q2_2⟩ := (hSw).tl.tl.b0.cells3; have qf2 := (hSw).tl.tl.b0.free
  have H8' := Lib.hid hSw.2
  clear hSw
  go_wp2
  refine bodyPost_ret (v := .agg #[.int .u32 la, .int .i64 2, .string client, .int .i64 (untilV lead now want 0), .int .i64 0, .int .i64 0, .int .i64 (mom now), .int .i64 (clkAdd lv 1)]) (by simp [results, Try.results18, go_sem, q0_0, q0_1, q0_2, q0_3, q0_4, q0_5, q0_6, q0_7]) rfl ⟨rfl, ?_⟩
  repeat (refine Below.setCell ?_ (by first | omega | (simp; done) | (simp; omega)) _)
  exact H8'.out

set_option maxRecDepth 100000 in
set_option maxHeartbeats 1000000 in
theorem lea_new11 (id lead guard la : Int) (lc client : ByteArray) (lu lk lt lz lv now want : Int) (h : lc ≠ client) (hv : 2 = ownV id) (w : World) : Calls Try.prog 17 #[.agg #[.int .i64 id, .int .i64 lead, .int .i64 guard], .agg #[.int .u32 la, .int .i64 2, .string lc, .int .i64 lu, .int .i64 lk, .int .i64 lt, .int .i64 lz, .int .i64 lv], .string client, .int .i64 now, .int .i64 want] w fun e w' => e = .returned (.agg #[.int .u32 la, .int .i64 2, .string client, .int .i64 (untilV lead now want 0), .int .i64 0, .int .i64 0, .int .i64 (mom now), .int .i64 (lv)]) ∧ Below w.heap.size w w' := by
  have b3 : (lc.toList == client.toList) = false := str_ne h
  have b4 : (lc.toList != client.toList) = true := str_ne' h
  have d1 : (2 != ownV id) = false := bne_eq_false_iff_eq.2 hv
  have d2 : decide (2 = ownV id) = true := decide_eq_true hv
  clear h hv
  go_enter Try.func17, Try.ntmps17
  go_upto_region 3 with (fail)
  have hh := (((HeldB.nil (lowA (lowA (low0 w (.cells #[.int .i64 id, .int .i64 lead, .int .i64 guard] 25)) (.cells #[.int .u32 la, .int .i64 2, .string lc, .int .i64 lu, .int .i64 lk, .int .i64 lt, .int .i64 lz, .int .i64 lv] 35)) (.cells #[.int .u32 0, .int .i64 0, .string ByteArray.empty, .int .i64 0, .int .i64 0, .int .i64 0, .int .i64 0, .int .i64 0] 35))).cons ((Blk.new2' w #[.int .i64 id, .int .i64 lead, .int .i64 guard] 25 (.cells #[.int .u32 la, .int .i64 2, .string lc, .int .i64 lu, .int .i64 lk, .int .i64 lt, .int .i64 lz, .int .i64 lv] 35)).alloc (.cells #[.int .u32 0, .int .i64 0, .string ByteArray.empty, .int .i64 0, .int .i64 0, .int .i64 0, .int .i64 0, .int .i64 0] 35))).cons ((Blk.new2 w (.cells #[.int .i64 id, .int .i64 lead, .int .i64 guard] 25) #[.int .u32 la, .int .i64 2, .string lc, .int .i64 lu, .int .i64 lk, .int .i64 lt, .int .i64 lz, .int .i64 lv] 35).alloc (.cells #[.int .u32 0, .int .i64 0, .string ByteArray.empty, .int .i64 0, .int .i64 0, .int .i64 0, .int .i64 0, .int .i64 0] 35))).cons (Blk.new3 w (.cells #[.int .i64 id, .int .i64 lead, .int .i64 guard] 25) (.cells #[.int .u32 la, .int .i64 2, .string lc, .int .i64 lu, .int .i64 lk, .int .i64 lt, .int .i64 lz, .int .i64 lv] 35) #[.int .u32 0, .int .i64 0, .string ByteArray.empty, .int .i64 0, .int .i64 0, .int .i64 0, .int .i64 0, .int .i64 0] 35)
  have HH0 := Lib.hid hh
  clear hh
  refine wp_region_seq (S := HeldB w [((w.heap.size + 1 + 1), #[.int .u32 0, .int .i64 0, .string ByteArray.empty, .int .i64 0, .int .i64 0, .int .i64 0, .int .i64 0, .int .i64 0], 35), ((w.heap.size + 1), #[.int .u32 la, .int .i64 2, .string lc, .int .i64 lu, .int .i64 lk, .int .i64 lt, .int .i64 lz, .int .i64 lv], 35), (w.heap.size, #[.int .i64 id, .int .i64 lead, .int .i64 guard], 25)]) 5 (by kernel_rfl) (by kernel_rfl) HH0.out.drew ?_
  simp only [List.take_succ_cons, List.take_zero, List.drop_succ_cons, List.drop_zero]
  refine wpHeld_val (v := ?vleao110) (by rfl) ?yleao110 ?rleao110
  case yleao110 => (intro wS hSw; go_simp; try (with_reducible rfl))
  try simp only [Act.put, List.setIfInBounds_toArray, List.set_cons_zero, List.set_cons_succ]
  refine wpHeld_val (v := ?vleao111) (by rfl) ?yleao111 ?rleao111
  case yleao111 => (intro wS hSw; obtain ⟨q0_0, q0_1, q0_2, q0_3, q0_4, q0_5, q0_6, q0_7⟩ := (hSw).b0.cells8; obtain ⟨q1_0, q1_1, q1_2, q1_3, q1_4, q1_5, q1_6, q1_7⟩ := (hSw).tl.b0.cells8; obtain ⟨q2_0, q2_1, q2_2⟩ := (hSw).tl.tl.b0.cells3; go_simp; try (with_reducible rfl))
  try simp only [Act.put, List.setIfInBounds_toArray, List.set_cons_zero, List.set_cons_succ]
  refine wpHeld_val (v := ?vleao112) (by rfl) ?yleao112 ?rleao112
  case yleao112 => (intro wS hSw; obtain ⟨q0_0, q0_1, q0_2, q0_3, q0_4, q0_5, q0_6, q0_7⟩ := (hSw).b0.cells8; obtain ⟨q1_0, q1_1, q1_2, q1_3, q1_4, q1_5, q1_6, q1_7⟩ := (hSw).tl.b0.cells8; obtain ⟨q2_0, q2_1, q2_2⟩ := (hSw).tl.tl.b0.cells3; go_simp; try (with_reducible rfl))
  try simp only [Act.put, List.setIfInBounds_toArray, List.set_cons_zero, List.set_cons_succ]
  refine wpHeld_run (.int .i64 (ownV id)) (by rfl) ?cleao113 ?rleao113
  case cleao113 => (intro wS hSw K hK; go_simp; (go_at_call 13; with_reducible refine (own_any id lead guard _).mono ?_; rintro e w5 ⟨rfl, hx⟩); go_wp2_with fail; exact hK.out _ (hSw.keep hx))
  try simp only [Act.put, List.setIfInBounds_toArray, List.set_cons_zero, List.set_cons_succ]
  refine wpHeld_val (v := .bool false) (by rfl) ?yleao114 ?rleao114
  case yleao114 => (intro wS hSw; go_simp; try (first | with_reducible rfl | simp))
  try simp only [Act.put, List.setIfInBounds_toArray, List.set_cons_zero, List.set_cons_succ]
  refine wpHeld_nil ?_
  intro wS hSw
  generalize wS = w3 at *
  clear HH0
  obtain ⟨q0_0, q0_1, q0_2, q0_3, q0_4, q0_5, q0_6, q0_7⟩ := (hSw).b0.cells8; have qf0 := (hSw).b0.free; obtain ⟨q1_0, q1_1, q1_2, q1_3, q1_4, q1_5, q1_6, q1_7⟩ := (hSw).tl.b0.cells8; have qf1 := (hSw).tl.b0.free; obtain ⟨q2_0, q2_1, q2_2⟩ := (hSw).tl.tl.b0.cells3; have qf2 := (hSw).tl.tl.b0.free
  go_upto_region 6 with ((go_at_call 21; with_reducible refine (add_any _ _ _).mono ?_; rintro e w1 ⟨rfl, rfl⟩))
  clear q0_0 q0_1 q0_2 q0_3 q0_4 q0_5 q0_6 q0_7 q1_0 q1_1 q1_2 q1_3 q1_4 q1_5 q1_6 q1_7 q2_0 q2_1 q2_2 qf0 qf1 qf2
  have H5 := (hSw).set81 (by first | omega | (simp; done) | (simp; omega)) (by simp) (.int .u32 la) (.int .i64 2) (.string client) (.int .i64 0) (.int .i64 0) (.int .i64 0) (.int .i64 0) (.int .i64 (lv))
  clear hSw
  generalize (((((((((w3).setCell ⟨(w.heap.size + 1), 0, none⟩ (.int .u32 la)).setCell ⟨(w.heap.size + 1), 1, none⟩ (.int .i64 2)).setCell ⟨(w.heap.size + 1), 2, none⟩ (.string client)).setCell ⟨(w.heap.size + 1), 3, none⟩ (.int .i64 0)).setCell ⟨(w.heap.size + 1), 4, none⟩ (.int .i64 0)).setCell ⟨(w.heap.size + 1), 5, none⟩ (.int .i64 0)).setCell ⟨(w.heap.size + 1), 6, none⟩ (.int .i64 0)).setCell ⟨(w.heap.size + 1), 7, none⟩ (.int .i64 (lv))) = w5 at *
  have HH5 := Lib.hid H5
  clear H5
  refine wp_region_seq (S := HeldB w [((w.heap.size + 1 + 1), #[.int .u32 0, .int .i64 0, .string ByteArray.empty, .int .i64 0, .int .i64 0, .int .i64 0, .int .i64 0, .int .i64 0], 35), ((w.heap.size + 1), #[.int .u32 la, .int .i64 2, .string client, .int .i64 0, .int .i64 0, .int .i64 0, .int .i64 0, .int .i64 (lv)], 35), (w.heap.size, #[.int .i64 id, .int .i64 lead, .int .i64 guard], 25)]) 10 (by kernel_rfl) (by kernel_rfl) HH5.out.drew ?_
  simp only [List.take_succ_cons, List.take_zero, List.drop_succ_cons, List.drop_zero]
  refine wpHeld_val (v := ?vleau110) (by rfl) ?yleau110 ?rleau110
  case yleau110 => (intro wS hSw; go_simp; try (with_reducible rfl))
  try simp only [Act.put, List.setIfInBounds_toArray, List.set_cons_zero, List.set_cons_succ]
  refine wpHeld_val (v := ?vleau111) (by rfl) ?yleau111 ?rleau111
  case yleau111 => (intro wS hSw; obtain ⟨q0_0, q0_1, q0_2, q0_3, q0_4, q0_5, q0_6, q0_7⟩ := (hSw).b0.cells8; obtain ⟨q1_0, q1_1, q1_2, q1_3, q1_4, q1_5, q1_6, q1_7⟩ := (hSw).tl.b0.cells8; obtain ⟨q2_0, q2_1, q2_2⟩ := (hSw).tl.tl.b0.cells3; go_simp; try (with_reducible rfl))
  try simp only [Act.put, List.setIfInBounds_toArray, List.set_cons_zero, List.set_cons_succ]
  refine wpHeld_val (v := ?vleau112) (by rfl) ?yleau112 ?rleau112
  case yleau112 => (intro wS hSw; obtain ⟨q0_0, q0_1, q0_2, q0_3, q0_4, q0_5, q0_6, q0_7⟩ := (hSw).b0.cells8; obtain ⟨q1_0, q1_1, q1_2, q1_3, q1_4, q1_5, q1_6, q1_7⟩ := (hSw).tl.b0.cells8; obtain ⟨q2_0, q2_1, q2_2⟩ := (hSw).tl.tl.b0.cells3; go_simp; try (with_reducible rfl))
  try simp only [Act.put, List.setIfInBounds_toArray, List.set_cons_zero, List.set_cons_succ]
  refine wpHeld_val (v := ?vleau113) (by rfl) ?yleau113 ?rleau113
  case yleau113 => (intro wS hSw; go_simp; try (with_reducible rfl))
  try simp only [Act.put, List.setIfInBounds_toArray, List.set_cons_zero, List.set_cons_succ]
  refine wpHeld_val (v := ?vleau114) (by rfl) ?yleau114 ?rleau114
  case yleau114 => (intro wS hSw; go_simp; try (with_reducible rfl))
  try simp only [Act.put, List.setIfInBounds_toArray, List.set_cons_zero, List.set_cons_succ]
  refine wpHeld_val (v := ?vleau115) (by rfl) ?yleau115 ?rleau115
  case yleau115 => (intro wS hSw; go_simp; try (with_reducible rfl))
  try simp only [Act.put, List.setIfInBounds_toArray, List.set_cons_zero, List.set_cons_succ]
  refine wpHeld_val (v := ?vleau116) (by rfl) ?yleau116 ?rleau116
  case yleau116 => (intro wS hSw; obtain ⟨q0_0, q0_1, q0_2, q0_3, q0_4, q0_5, q0_6, q0_7⟩ := (hSw).b0.cells8; obtain ⟨q1_0, q1_1, q1_2, q1_3, q1_4, q1_5, q1_6, q1_7⟩ := (hSw).tl.b0.cells8; obtain ⟨q2_0, q2_1, q2_2⟩ := (hSw).tl.tl.b0.cells3; go_simp; try (with_reducible rfl))
  try simp only [Act.put, List.setIfInBounds_toArray, List.set_cons_zero, List.set_cons_succ]
  refine wpHeld_run (.int .i64 (untilV lead now want 0)) (by rfl) ?cleau117 ?rleau117
  case cleau117 => (intro wS hSw K hK; go_simp; (go_at_call 11; with_reducible refine (until_any id lead guard now want 0 _).mono ?_; rintro e w5 ⟨rfl, hx⟩); go_wp2_with fail; exact hK.out _ (hSw.keep hx))
  try simp only [Act.put, List.setIfInBounds_toArray, List.set_cons_zero, List.set_cons_succ]
  refine wpHeld_val (v := .int .i64 (untilV lead now want 0)) (by rfl) ?yleau118 ?rleau118
  case yleau118 => (intro wS hSw; go_simp; try (intro hh; have hn := until_nn lead now want 0; omega))
  try simp only [Act.put, List.setIfInBounds_toArray, List.set_cons_zero, List.set_cons_succ]
  refine wpHeld_val (v := ?vleau119) (by rfl) ?yleau119 ?rleau119
  case yleau119 => (intro wS hSw; go_simp; try (with_reducible rfl))
  try simp only [Act.put, List.setIfInBounds_toArray, List.set_cons_zero, List.set_cons_succ]
  refine wpHeld_nil ?_
  intro wS hSw
  obtain ⟨q0_0, q0_1, q0_2, q0_3, q0_4, q0_5, q0_6, q0_7⟩ := (hSw).b0.cells8; have qf0 := (hSw).b0.free; obtain ⟨q1_0, q1_1, q1_2, q1_3, q1_4, q1_5, q1_6, q1_7⟩ := (hSw).tl.b0.cells8; have qf1 := (hSw).tl.b0.free; obtain ⟨q2_0, q2_1, q2_2⟩ := (hSw).tl.tl.b0.cells3; have qf2 := (hSw).tl.tl.b0.free
  go_upto_region 7 with (fail)
  clear q0_0 q0_1 q0_2 q0_3 q0_4 q0_5 q0_6 q0_7 q1_0 q1_1 q1_2 q1_3 q1_4 q1_5 q1_6 q1_7 q2_0 q2_1 q2_2 qf0 qf1 qf2
  have H7 := (hSw).set1 (by first | omega | (simp; done) | (simp; omega)) (by simp) 3 (.int .i64 (untilV lead now want 0))
  simp only [List.setIfInBounds_toArray, List.set_cons_zero, List.set_cons_succ] at H7
  clear hSw HH5
  generalize wS.setCell ⟨w.heap.size + 1, 3, none⟩ (.int .i64 (untilV lead now want 0)) = w7 at *
  obtain ⟨q0_0, q0_1, q0_2, q0_3, q0_4, q0_5, q0_6, q0_7⟩ := (H7).b0.cells8; have qf0 := (H7).b0.free; obtain ⟨q1_0, q1_1, q1_2, q1_3, q1_4, q1_5, q1_6, q1_7⟩ := (H7).tl.b0.cells8; have qf1 := (H7).tl.b0.free; obtain ⟨q2_0, q2_1, q2_2⟩ := (H7).tl.tl.b0.cells3; have qf2 := (H7).tl.tl.b0.free
  obtain ⟨p0_0, p0_1, p0_2, p0_3, p0_4, p0_5, p0_6, p0_7⟩ := (H7.alloc (.cells #[.int .i64 now] 3)).b0.cells8; have pf0 := (H7.alloc (.cells #[.int .i64 now] 3)).b0.free; obtain ⟨p1_0, p1_1, p1_2, p1_3, p1_4, p1_5, p1_6, p1_7⟩ := (H7.alloc (.cells #[.int .i64 now] 3)).tl.b0.cells8; have pf1 := (H7.alloc (.cells #[.int .i64 now] 3)).tl.b0.free; obtain ⟨p2_0, p2_1, p2_2⟩ := (H7.alloc (.cells #[.int .i64 now] 3)).tl.tl.b0.cells3; have pf2 := (H7.alloc (.cells #[.int .i64 now] 3)).tl.tl.b0.free
  have H7' := Lib.hid H7
  clear H7
  go_upto_region 8 with ((go_at_call 22; refine (latest1 now _ _ (by simp)).mono ?_; rintro e w5 ⟨rfl, rfl⟩))
  clear q0_0 q0_1 q0_2 q0_3 q0_4 q0_5 q0_6 q0_7 q1_0 q1_1 q1_2 q1_3 q1_4 q1_5 q1_6 q1_7 q2_0 q2_1 q2_2 qf0 qf1 qf2
  clear p0_0 p0_1 p0_2 p0_3 p0_4 p0_5 p0_6 p0_7 p1_0 p1_1 p1_2 p1_3 p1_4 p1_5 p1_6 p1_7 p2_0 p2_1 p2_2 pf0 pf1 pf2
  have H8 := (H7'.out.alloc (.cells #[.int .i64 now] 3)).set1 (by first | omega | (simp; done) | (simp; omega)) (by simp) 6 (.int .i64 (mom now))
  simp only [List.setIfInBounds_toArray, List.set_cons_zero, List.set_cons_succ] at H8
  clear H7'
  generalize (w7.alloc (.cells #[.int .i64 now] 3)).setCell ⟨w.heap.size + 1, 6, none⟩ (.int .i64 (mom now)) = w8 at *
  obtain ⟨q0_0, q0_1, q0_2, q0_3, q0_4, q0_5, q0_6, q0_7⟩ := (H8).b0.cells8; have qf0 := (H8).b0.free; obtain ⟨q1_0, q1_1, q1_2, q1_3, q1_4, q1_5, q1_6, q1_7⟩ := (H8).tl.b0.cells8; have qf1 := (H8).tl.b0.free; obtain ⟨q2_0, q2_1, q2_2⟩ := (H8).tl.tl.b0.cells3; have qf2 := (H8).tl.tl.b0.free
  have H8' := Lib.hid H8.2
  clear H8
  go_wp2
  refine bodyPost_ret (v := .agg #[.int .u32 la, .int .i64 2, .string client, .int .i64 (untilV lead now want 0), .int .i64 0, .int .i64 0, .int .i64 (mom now), .int .i64 (lv)]) (by simp [results, Try.results17, go_sem, q0_0, q0_1, q0_2, q0_3, q0_4, q0_5, q0_6, q0_7]) rfl ⟨rfl, ?_⟩
  repeat (refine Below.setCell ?_ (by first | omega | (simp; done) | (simp; omega)) _)
  exact H8'.out

set_option maxRecDepth 100000 in
set_option maxHeartbeats 1000000 in
theorem rlea_new11 (id lead guard la : Int) (lc client : ByteArray) (lu lk lt lz lv now want : Int) (h : lc ≠ client) (hv : 2 = ownV id) (w : World) : Calls Try.prog 18 #[.agg #[.int .i64 id, .int .i64 lead, .int .i64 guard], .agg #[.int .u32 la, .int .i64 2, .string lc, .int .i64 lu, .int .i64 lk, .int .i64 lt, .int .i64 lz, .int .i64 lv], .string client, .int .i64 now, .int .i64 want] w fun e w' => e = .returned (.agg #[.int .u32 la, .int .i64 2, .string client, .int .i64 (untilV lead now want 0), .int .i64 0, .int .i64 0, .int .i64 (mom now), .int .i64 (lv)]) ∧ Below w.heap.size w w' := by
  have b3 : (lc.toList == client.toList) = false := str_ne h
  have b4 : (lc.toList != client.toList) = true := str_ne' h
  have d1 : (2 != ownV id) = false := bne_eq_false_iff_eq.2 hv
  have d2 : decide (2 = ownV id) = true := decide_eq_true hv
  clear h hv
  go_enter Try.func18, Try.ntmps18
  go_upto_region 6 with (fail)
  have hh := (((HeldB.nil (lowA (lowA (low0 w (.cells #[.int .i64 id, .int .i64 lead, .int .i64 guard] 26)) (.cells #[.int .u32 la, .int .i64 2, .string lc, .int .i64 lu, .int .i64 lk, .int .i64 lt, .int .i64 lz, .int .i64 lv] 35)) (.cells #[.int .u32 0, .int .i64 0, .string ByteArray.empty, .int .i64 0, .int .i64 0, .int .i64 0, .int .i64 0, .int .i64 0] 35))).cons ((Blk.new2' w #[.int .i64 id, .int .i64 lead, .int .i64 guard] 26 (.cells #[.int .u32 la, .int .i64 2, .string lc, .int .i64 lu, .int .i64 lk, .int .i64 lt, .int .i64 lz, .int .i64 lv] 35)).alloc (.cells #[.int .u32 0, .int .i64 0, .string ByteArray.empty, .int .i64 0, .int .i64 0, .int .i64 0, .int .i64 0, .int .i64 0] 35))).cons ((Blk.new2 w (.cells #[.int .i64 id, .int .i64 lead, .int .i64 guard] 26) #[.int .u32 la, .int .i64 2, .string lc, .int .i64 lu, .int .i64 lk, .int .i64 lt, .int .i64 lz, .int .i64 lv] 35).alloc (.cells #[.int .u32 0, .int .i64 0, .string ByteArray.empty, .int .i64 0, .int .i64 0, .int .i64 0, .int .i64 0, .int .i64 0] 35))).cons (Blk.new3 w (.cells #[.int .i64 id, .int .i64 lead, .int .i64 guard] 26) (.cells #[.int .u32 la, .int .i64 2, .string lc, .int .i64 lu, .int .i64 lk, .int .i64 lt, .int .i64 lz, .int .i64 lv] 35) #[.int .u32 0, .int .i64 0, .string ByteArray.empty, .int .i64 0, .int .i64 0, .int .i64 0, .int .i64 0, .int .i64 0] 35)
  have HH0 := Lib.hid hh
  clear hh
  refine wp_region_seq (S := HeldB w [((w.heap.size + 1 + 1), #[.int .u32 0, .int .i64 0, .string ByteArray.empty, .int .i64 0, .int .i64 0, .int .i64 0, .int .i64 0, .int .i64 0], 35), ((w.heap.size + 1), #[.int .u32 la, .int .i64 2, .string lc, .int .i64 lu, .int .i64 lk, .int .i64 lt, .int .i64 lz, .int .i64 lv], 35), (w.heap.size, #[.int .i64 id, .int .i64 lead, .int .i64 guard], 26)]) 5 (by kernel_rfl) (by kernel_rfl) HH0.out.drew ?_
  simp only [List.take_succ_cons, List.take_zero, List.drop_succ_cons, List.drop_zero]
  refine wpHeld_val (v := ?vrleao110) (by rfl) ?yrleao110 ?rrleao110
  case yrleao110 => (intro wS hSw; go_simp; try (with_reducible rfl))
  try simp only [Act.put, List.setIfInBounds_toArray, List.set_cons_zero, List.set_cons_succ]
  refine wpHeld_val (v := ?vrleao111) (by rfl) ?yrleao111 ?rrleao111
  case yrleao111 => (intro wS hSw; obtain ⟨q0_0, q0_1, q0_2, q0_3, q0_4, q0_5, q0_6, q0_7⟩ := (hSw).b0.cells8; obtain ⟨q1_0, q1_1, q1_2, q1_3, q1_4, q1_5, q1_6, q1_7⟩ := (hSw).tl.b0.cells8; obtain ⟨q2_0, q2_1, q2_2⟩ := (hSw).tl.tl.b0.cells3; go_simp; try (with_reducible rfl))
  try simp only [Act.put, List.setIfInBounds_toArray, List.set_cons_zero, List.set_cons_succ]
  refine wpHeld_val (v := ?vrleao112) (by rfl) ?yrleao112 ?rrleao112
  case yrleao112 => (intro wS hSw; obtain ⟨q0_0, q0_1, q0_2, q0_3, q0_4, q0_5, q0_6, q0_7⟩ := (hSw).b0.cells8; obtain ⟨q1_0, q1_1, q1_2, q1_3, q1_4, q1_5, q1_6, q1_7⟩ := (hSw).tl.b0.cells8; obtain ⟨q2_0, q2_1, q2_2⟩ := (hSw).tl.tl.b0.cells3; go_simp; try (with_reducible rfl))
  try simp only [Act.put, List.setIfInBounds_toArray, List.set_cons_zero, List.set_cons_succ]
  refine wpHeld_run (.int .i64 (ownV id)) (by rfl) ?crleao113 ?rrleao113
  case crleao113 => (intro wS hSw K hK; go_simp; (go_at_call 14; with_reducible refine (rown_any id lead guard _).mono ?_; rintro e w5 ⟨rfl, hx⟩); go_wp2_with fail; exact hK.out _ (hSw.keep hx))
  try simp only [Act.put, List.setIfInBounds_toArray, List.set_cons_zero, List.set_cons_succ]
  refine wpHeld_val (v := .bool false) (by rfl) ?yrleao114 ?rrleao114
  case yrleao114 => (intro wS hSw; go_simp; try (first | with_reducible rfl | simp))
  try simp only [Act.put, List.setIfInBounds_toArray, List.set_cons_zero, List.set_cons_succ]
  refine wpHeld_nil ?_
  intro wS hSw
  generalize wS = w3 at *
  clear HH0
  obtain ⟨q0_0, q0_1, q0_2, q0_3, q0_4, q0_5, q0_6, q0_7⟩ := (hSw).b0.cells8; have qf0 := (hSw).b0.free; obtain ⟨q1_0, q1_1, q1_2, q1_3, q1_4, q1_5, q1_6, q1_7⟩ := (hSw).tl.b0.cells8; have qf1 := (hSw).tl.b0.free; obtain ⟨q2_0, q2_1, q2_2⟩ := (hSw).tl.tl.b0.cells3; have qf2 := (hSw).tl.tl.b0.free
  have HH5 := Lib.hid hSw
  clear hSw
  go_upto_region 8 with ((go_at_call 23; with_reducible refine (radd_any _ _ _).mono ?_; rintro e w1 ⟨rfl, rfl⟩))
  clear q0_0 q0_1 q0_2 q0_3 q0_4 q0_5 q0_6 q0_7 q1_0 q1_1 q1_2 q1_3 q1_4 q1_5 q1_6 q1_7 q2_0 q2_1 q2_2 qf0 qf1 qf2
  refine wp_region_seq (S := HeldB w [((w.heap.size + 1 + 1), #[.int .u32 0, .int .i64 0, .string ByteArray.empty, .int .i64 0, .int .i64 0, .int .i64 0, .int .i64 0, .int .i64 0], 35), ((w.heap.size + 1), #[.int .u32 la, .int .i64 2, .string lc, .int .i64 lu, .int .i64 lk, .int .i64 lt, .int .i64 lz, .int .i64 lv], 35), (w.heap.size, #[.int .i64 id, .int .i64 lead, .int .i64 guard], 26)]) 11 (by kernel_rfl) (by kernel_rfl) HH5.out.drew ?_
  simp only [List.take_succ_cons, List.take_zero, List.drop_succ_cons, List.drop_zero]
  refine wpHeld_val (v := ?vrleax110) (by rfl) ?yrleax110 ?rrleax110
  case yrleax110 => (intro wS hSw; go_simp; try (with_reducible rfl))
  try simp only [Act.put, List.setIfInBounds_toArray, List.set_cons_zero, List.set_cons_succ]
  refine wpHeld_val (v := ?vrleax111) (by rfl) ?yrleax111 ?rrleax111
  case yrleax111 => (intro wS hSw; obtain ⟨q0_0, q0_1, q0_2, q0_3, q0_4, q0_5, q0_6, q0_7⟩ := (hSw).b0.cells8; obtain ⟨q1_0, q1_1, q1_2, q1_3, q1_4, q1_5, q1_6, q1_7⟩ := (hSw).tl.b0.cells8; obtain ⟨q2_0, q2_1, q2_2⟩ := (hSw).tl.tl.b0.cells3; go_simp; try (with_reducible rfl))
  try simp only [Act.put, List.setIfInBounds_toArray, List.set_cons_zero, List.set_cons_succ]
  refine wpHeld_val (v := ?vrleax112) (by rfl) ?yrleax112 ?rrleax112
  case yrleax112 => (intro wS hSw; go_simp; try (with_reducible rfl))
  try simp only [Act.put, List.setIfInBounds_toArray, List.set_cons_zero, List.set_cons_succ]
  refine wpHeld_val (v := ?vrleax113) (by rfl) ?yrleax113 ?rrleax113
  case yrleax113 => (intro wS hSw; obtain ⟨q0_0, q0_1, q0_2, q0_3, q0_4, q0_5, q0_6, q0_7⟩ := (hSw).b0.cells8; obtain ⟨q1_0, q1_1, q1_2, q1_3, q1_4, q1_5, q1_6, q1_7⟩ := (hSw).tl.b0.cells8; obtain ⟨q2_0, q2_1, q2_2⟩ := (hSw).tl.tl.b0.cells3; go_simp; try (with_reducible rfl))
  try simp only [Act.put, List.setIfInBounds_toArray, List.set_cons_zero, List.set_cons_succ]
  refine wpHeld_val (v := ?vrleax114) (by rfl) ?yrleax114 ?rrleax114
  case yrleax114 => (intro wS hSw; go_simp; try (with_reducible rfl))
  try simp only [Act.put, List.setIfInBounds_toArray, List.set_cons_zero, List.set_cons_succ]
  refine wpHeld_val (v := ?vrleax115) (by rfl) ?yrleax115 ?rrleax115
  case yrleax115 => (intro wS hSw; go_simp; try (with_reducible rfl))
  try simp only [Act.put, List.setIfInBounds_toArray, List.set_cons_zero, List.set_cons_succ]
  refine wpHeld_run (.int .i64 (untilV lead now want 0)) (by rfl) ?crleax116 ?rrleax116
  case crleax116 => (intro wS hSw K hK; go_simp; (go_at_call 12; with_reducible refine (runtil_any id lead guard now want 0 _).mono ?_; rintro e w5 ⟨rfl, hx⟩); go_wp2_with fail; exact hK.out _ (hSw.keep hx))
  try simp only [Act.put, List.setIfInBounds_toArray, List.set_cons_zero, List.set_cons_succ]
  refine wpHeld_val (v := ?vrleax117) (by rfl) ?yrleax117 ?rrleax117
  case yrleax117 => (intro wS hSw; go_simp; try (with_reducible rfl))
  try simp only [Act.put, List.setIfInBounds_toArray, List.set_cons_zero, List.set_cons_succ]
  refine wpHeld_run (.int .i64 (mom now)) (by rfl) ?crleax118 ?rrleax118
  case crleax118 => (intro wS hSw K hK; go_simp; (go_at_call 24; with_reducible refine (rbnd_any _ _).mono ?_; rintro e w1 ⟨rfl, rfl⟩); go_wp2_with fail; exact hK.out _ (hSw))
  try simp only [Act.put, List.setIfInBounds_toArray, List.set_cons_zero, List.set_cons_succ]
  refine wpHeld_val (v := ?vrleax119) (by rfl) ?yrleax119 ?rrleax119
  case yrleax119 => (intro wS hSw; go_simp; try (with_reducible rfl))
  try simp only [Act.put, List.setIfInBounds_toArray, List.set_cons_zero, List.set_cons_succ]
  refine wpHeld_val (v := ?vrleax1110) (by rfl) ?yrleax1110 ?rrleax1110
  case yrleax1110 => (intro wS hSw; go_simp; try (with_reducible rfl))
  try simp only [Act.put, List.setIfInBounds_toArray, List.set_cons_zero, List.set_cons_succ]
  refine wpHeld_nil ?_
  intro wS hSw
  obtain ⟨q0_0, q0_1, q0_2, q0_3, q0_4, q0_5, q0_6, q0_7⟩ := (hSw).b0.cells8; have qf0 := (hSw).b0.free; obtain ⟨q1_0, q1_1, q1_2, q1_3, q1_4, q1_5, q1_6, q1_7⟩ := (hSw).tl.b0.cells8; have qf1 := (hSw).tl.b0.free; obtain ⟨q2_0, q2_1, q2_2⟩ := (hSw).tl.tl.b0.cells3; have qf2 := (hSw).tl.tl.b0.free
  have H8' := Lib.hid hSw.2
  clear hSw
  go_wp2
  refine bodyPost_ret (v := .agg #[.int .u32 la, .int .i64 2, .string client, .int .i64 (untilV lead now want 0), .int .i64 0, .int .i64 0, .int .i64 (mom now), .int .i64 (lv)]) (by simp [results, Try.results18, go_sem, q0_0, q0_1, q0_2, q0_3, q0_4, q0_5, q0_6, q0_7]) rfl ⟨rfl, ?_⟩
  repeat (refine Below.setCell ?_ (by first | omega | (simp; done) | (simp; omega)) _)
  exact H8'.out

set_option maxRecDepth 100000 in
set_option maxHeartbeats 1000000 in
theorem lea_new10 (id lead guard la : Int) (lc client : ByteArray) (lu lk lt lz lv now want : Int) (h : lc ≠ client) (hv : 2 ≠ ownV id) (w : World) : Calls Try.prog 17 #[.agg #[.int .i64 id, .int .i64 lead, .int .i64 guard], .agg #[.int .u32 la, .int .i64 2, .string lc, .int .i64 lu, .int .i64 lk, .int .i64 lt, .int .i64 lz, .int .i64 lv], .string client, .int .i64 now, .int .i64 want] w fun e w' => e = .returned (.agg #[.int .u32 la, .int .i64 2, .string client, .int .i64 (untilV lead now want 0), .int .i64 0, .int .i64 0, .int .i64 (mom now), .int .i64 (clkAdd lv 1)]) ∧ Below w.heap.size w w' := by
  have b3 : (lc.toList == client.toList) = false := str_ne h
  have b4 : (lc.toList != client.toList) = true := str_ne' h
  have d1 : (2 != ownV id) = true := bne_iff_ne.2 hv
  have d2 : decide (2 = ownV id) = false := decide_eq_false hv
  clear h hv
  go_enter Try.func17, Try.ntmps17
  go_upto_region 3 with (fail)
  have hh := (((HeldB.nil (lowA (lowA (low0 w (.cells #[.int .i64 id, .int .i64 lead, .int .i64 guard] 25)) (.cells #[.int .u32 la, .int .i64 2, .string lc, .int .i64 lu, .int .i64 lk, .int .i64 lt, .int .i64 lz, .int .i64 lv] 35)) (.cells #[.int .u32 0, .int .i64 0, .string ByteArray.empty, .int .i64 0, .int .i64 0, .int .i64 0, .int .i64 0, .int .i64 0] 35))).cons ((Blk.new2' w #[.int .i64 id, .int .i64 lead, .int .i64 guard] 25 (.cells #[.int .u32 la, .int .i64 2, .string lc, .int .i64 lu, .int .i64 lk, .int .i64 lt, .int .i64 lz, .int .i64 lv] 35)).alloc (.cells #[.int .u32 0, .int .i64 0, .string ByteArray.empty, .int .i64 0, .int .i64 0, .int .i64 0, .int .i64 0, .int .i64 0] 35))).cons ((Blk.new2 w (.cells #[.int .i64 id, .int .i64 lead, .int .i64 guard] 25) #[.int .u32 la, .int .i64 2, .string lc, .int .i64 lu, .int .i64 lk, .int .i64 lt, .int .i64 lz, .int .i64 lv] 35).alloc (.cells #[.int .u32 0, .int .i64 0, .string ByteArray.empty, .int .i64 0, .int .i64 0, .int .i64 0, .int .i64 0, .int .i64 0] 35))).cons (Blk.new3 w (.cells #[.int .i64 id, .int .i64 lead, .int .i64 guard] 25) (.cells #[.int .u32 la, .int .i64 2, .string lc, .int .i64 lu, .int .i64 lk, .int .i64 lt, .int .i64 lz, .int .i64 lv] 35) #[.int .u32 0, .int .i64 0, .string ByteArray.empty, .int .i64 0, .int .i64 0, .int .i64 0, .int .i64 0, .int .i64 0] 35)
  have HH0 := Lib.hid hh
  clear hh
  refine wp_region_seq (S := HeldB w [((w.heap.size + 1 + 1), #[.int .u32 0, .int .i64 0, .string ByteArray.empty, .int .i64 0, .int .i64 0, .int .i64 0, .int .i64 0, .int .i64 0], 35), ((w.heap.size + 1), #[.int .u32 la, .int .i64 2, .string lc, .int .i64 lu, .int .i64 lk, .int .i64 lt, .int .i64 lz, .int .i64 lv], 35), (w.heap.size, #[.int .i64 id, .int .i64 lead, .int .i64 guard], 25)]) 5 (by kernel_rfl) (by kernel_rfl) HH0.out.drew ?_
  simp only [List.take_succ_cons, List.take_zero, List.drop_succ_cons, List.drop_zero]
  refine wpHeld_val (v := ?vleao100) (by rfl) ?yleao100 ?rleao100
  case yleao100 => (intro wS hSw; go_simp; try (with_reducible rfl))
  try simp only [Act.put, List.setIfInBounds_toArray, List.set_cons_zero, List.set_cons_succ]
  refine wpHeld_val (v := ?vleao101) (by rfl) ?yleao101 ?rleao101
  case yleao101 => (intro wS hSw; obtain ⟨q0_0, q0_1, q0_2, q0_3, q0_4, q0_5, q0_6, q0_7⟩ := (hSw).b0.cells8; obtain ⟨q1_0, q1_1, q1_2, q1_3, q1_4, q1_5, q1_6, q1_7⟩ := (hSw).tl.b0.cells8; obtain ⟨q2_0, q2_1, q2_2⟩ := (hSw).tl.tl.b0.cells3; go_simp; try (with_reducible rfl))
  try simp only [Act.put, List.setIfInBounds_toArray, List.set_cons_zero, List.set_cons_succ]
  refine wpHeld_val (v := ?vleao102) (by rfl) ?yleao102 ?rleao102
  case yleao102 => (intro wS hSw; obtain ⟨q0_0, q0_1, q0_2, q0_3, q0_4, q0_5, q0_6, q0_7⟩ := (hSw).b0.cells8; obtain ⟨q1_0, q1_1, q1_2, q1_3, q1_4, q1_5, q1_6, q1_7⟩ := (hSw).tl.b0.cells8; obtain ⟨q2_0, q2_1, q2_2⟩ := (hSw).tl.tl.b0.cells3; go_simp; try (with_reducible rfl))
  try simp only [Act.put, List.setIfInBounds_toArray, List.set_cons_zero, List.set_cons_succ]
  refine wpHeld_run (.int .i64 (ownV id)) (by rfl) ?cleao103 ?rleao103
  case cleao103 => (intro wS hSw K hK; go_simp; (go_at_call 13; with_reducible refine (own_any id lead guard _).mono ?_; rintro e w5 ⟨rfl, hx⟩); go_wp2_with fail; exact hK.out _ (hSw.keep hx))
  try simp only [Act.put, List.setIfInBounds_toArray, List.set_cons_zero, List.set_cons_succ]
  refine wpHeld_val (v := .bool true) (by rfl) ?yleao104 ?rleao104
  case yleao104 => (intro wS hSw; go_simp; try (first | with_reducible rfl | simp))
  try simp only [Act.put, List.setIfInBounds_toArray, List.set_cons_zero, List.set_cons_succ]
  refine wpHeld_nil ?_
  intro wS hSw
  generalize wS = w3 at *
  clear HH0
  obtain ⟨q0_0, q0_1, q0_2, q0_3, q0_4, q0_5, q0_6, q0_7⟩ := (hSw).b0.cells8; have qf0 := (hSw).b0.free; obtain ⟨q1_0, q1_1, q1_2, q1_3, q1_4, q1_5, q1_6, q1_7⟩ := (hSw).tl.b0.cells8; have qf1 := (hSw).tl.b0.free; obtain ⟨q2_0, q2_1, q2_2⟩ := (hSw).tl.tl.b0.cells3; have qf2 := (hSw).tl.tl.b0.free
  go_upto_region 6 with ((go_at_call 21; with_reducible refine (add_any _ _ _).mono ?_; rintro e w1 ⟨rfl, rfl⟩))
  clear q0_0 q0_1 q0_2 q0_3 q0_4 q0_5 q0_6 q0_7 q1_0 q1_1 q1_2 q1_3 q1_4 q1_5 q1_6 q1_7 q2_0 q2_1 q2_2 qf0 qf1 qf2
  have H5 := (hSw).set81 (by first | omega | (simp; done) | (simp; omega)) (by simp) (.int .u32 la) (.int .i64 2) (.string client) (.int .i64 0) (.int .i64 0) (.int .i64 0) (.int .i64 0) (.int .i64 (clkAdd lv 1))
  clear hSw
  generalize (((((((((w3).setCell ⟨(w.heap.size + 1), 0, none⟩ (.int .u32 la)).setCell ⟨(w.heap.size + 1), 1, none⟩ (.int .i64 2)).setCell ⟨(w.heap.size + 1), 2, none⟩ (.string client)).setCell ⟨(w.heap.size + 1), 3, none⟩ (.int .i64 0)).setCell ⟨(w.heap.size + 1), 4, none⟩ (.int .i64 0)).setCell ⟨(w.heap.size + 1), 5, none⟩ (.int .i64 0)).setCell ⟨(w.heap.size + 1), 6, none⟩ (.int .i64 0)).setCell ⟨(w.heap.size + 1), 7, none⟩ (.int .i64 (clkAdd lv 1))) = w5 at *
  have HH5 := Lib.hid H5
  clear H5
  refine wp_region_seq (S := HeldB w [((w.heap.size + 1 + 1), #[.int .u32 0, .int .i64 0, .string ByteArray.empty, .int .i64 0, .int .i64 0, .int .i64 0, .int .i64 0, .int .i64 0], 35), ((w.heap.size + 1), #[.int .u32 la, .int .i64 2, .string client, .int .i64 0, .int .i64 0, .int .i64 0, .int .i64 0, .int .i64 (clkAdd lv 1)], 35), (w.heap.size, #[.int .i64 id, .int .i64 lead, .int .i64 guard], 25)]) 10 (by kernel_rfl) (by kernel_rfl) HH5.out.drew ?_
  simp only [List.take_succ_cons, List.take_zero, List.drop_succ_cons, List.drop_zero]
  refine wpHeld_val (v := ?vleau100) (by rfl) ?yleau100 ?rleau100
  case yleau100 => (intro wS hSw; go_simp; try (with_reducible rfl))
  try simp only [Act.put, List.setIfInBounds_toArray, List.set_cons_zero, List.set_cons_succ]
  refine wpHeld_val (v := ?vleau101) (by rfl) ?yleau101 ?rleau101
  case yleau101 => (intro wS hSw; obtain ⟨q0_0, q0_1, q0_2, q0_3, q0_4, q0_5, q0_6, q0_7⟩ := (hSw).b0.cells8; obtain ⟨q1_0, q1_1, q1_2, q1_3, q1_4, q1_5, q1_6, q1_7⟩ := (hSw).tl.b0.cells8; obtain ⟨q2_0, q2_1, q2_2⟩ := (hSw).tl.tl.b0.cells3; go_simp; try (with_reducible rfl))
  try simp only [Act.put, List.setIfInBounds_toArray, List.set_cons_zero, List.set_cons_succ]
  refine wpHeld_val (v := ?vleau102) (by rfl) ?yleau102 ?rleau102
  case yleau102 => (intro wS hSw; obtain ⟨q0_0, q0_1, q0_2, q0_3, q0_4, q0_5, q0_6, q0_7⟩ := (hSw).b0.cells8; obtain ⟨q1_0, q1_1, q1_2, q1_3, q1_4, q1_5, q1_6, q1_7⟩ := (hSw).tl.b0.cells8; obtain ⟨q2_0, q2_1, q2_2⟩ := (hSw).tl.tl.b0.cells3; go_simp; try (with_reducible rfl))
  try simp only [Act.put, List.setIfInBounds_toArray, List.set_cons_zero, List.set_cons_succ]
  refine wpHeld_val (v := ?vleau103) (by rfl) ?yleau103 ?rleau103
  case yleau103 => (intro wS hSw; go_simp; try (with_reducible rfl))
  try simp only [Act.put, List.setIfInBounds_toArray, List.set_cons_zero, List.set_cons_succ]
  refine wpHeld_val (v := ?vleau104) (by rfl) ?yleau104 ?rleau104
  case yleau104 => (intro wS hSw; go_simp; try (with_reducible rfl))
  try simp only [Act.put, List.setIfInBounds_toArray, List.set_cons_zero, List.set_cons_succ]
  refine wpHeld_val (v := ?vleau105) (by rfl) ?yleau105 ?rleau105
  case yleau105 => (intro wS hSw; go_simp; try (with_reducible rfl))
  try simp only [Act.put, List.setIfInBounds_toArray, List.set_cons_zero, List.set_cons_succ]
  refine wpHeld_val (v := ?vleau106) (by rfl) ?yleau106 ?rleau106
  case yleau106 => (intro wS hSw; obtain ⟨q0_0, q0_1, q0_2, q0_3, q0_4, q0_5, q0_6, q0_7⟩ := (hSw).b0.cells8; obtain ⟨q1_0, q1_1, q1_2, q1_3, q1_4, q1_5, q1_6, q1_7⟩ := (hSw).tl.b0.cells8; obtain ⟨q2_0, q2_1, q2_2⟩ := (hSw).tl.tl.b0.cells3; go_simp; try (with_reducible rfl))
  try simp only [Act.put, List.setIfInBounds_toArray, List.set_cons_zero, List.set_cons_succ]
  refine wpHeld_run (.int .i64 (untilV lead now want 0)) (by rfl) ?cleau107 ?rleau107
  case cleau107 => (intro wS hSw K hK; go_simp; (go_at_call 11; with_reducible refine (until_any id lead guard now want 0 _).mono ?_; rintro e w5 ⟨rfl, hx⟩); go_wp2_with fail; exact hK.out _ (hSw.keep hx))
  try simp only [Act.put, List.setIfInBounds_toArray, List.set_cons_zero, List.set_cons_succ]
  refine wpHeld_val (v := .int .i64 (untilV lead now want 0)) (by rfl) ?yleau108 ?rleau108
  case yleau108 => (intro wS hSw; go_simp; try (intro hh; have hn := until_nn lead now want 0; omega))
  try simp only [Act.put, List.setIfInBounds_toArray, List.set_cons_zero, List.set_cons_succ]
  refine wpHeld_val (v := ?vleau109) (by rfl) ?yleau109 ?rleau109
  case yleau109 => (intro wS hSw; go_simp; try (with_reducible rfl))
  try simp only [Act.put, List.setIfInBounds_toArray, List.set_cons_zero, List.set_cons_succ]
  refine wpHeld_nil ?_
  intro wS hSw
  obtain ⟨q0_0, q0_1, q0_2, q0_3, q0_4, q0_5, q0_6, q0_7⟩ := (hSw).b0.cells8; have qf0 := (hSw).b0.free; obtain ⟨q1_0, q1_1, q1_2, q1_3, q1_4, q1_5, q1_6, q1_7⟩ := (hSw).tl.b0.cells8; have qf1 := (hSw).tl.b0.free; obtain ⟨q2_0, q2_1, q2_2⟩ := (hSw).tl.tl.b0.cells3; have qf2 := (hSw).tl.tl.b0.free
  go_upto_region 7 with (fail)
  clear q0_0 q0_1 q0_2 q0_3 q0_4 q0_5 q0_6 q0_7 q1_0 q1_1 q1_2 q1_3 q1_4 q1_5 q1_6 q1_7 q2_0 q2_1 q2_2 qf0 qf1 qf2
  have H7 := (hSw).set1 (by first | omega | (simp; done) | (simp; omega)) (by simp) 3 (.int .i64 (untilV lead now want 0))
  simp only [List.setIfInBounds_toArray, List.set_cons_zero, List.set_cons_succ] at H7
  clear hSw HH5
  generalize wS.setCell ⟨w.heap.size + 1, 3, none⟩ (.int .i64 (untilV lead now want 0)) = w7 at *
  obtain ⟨q0_0, q0_1, q0_2, q0_3, q0_4, q0_5, q0_6, q0_7⟩ := (H7).b0.cells8; have qf0 := (H7).b0.free; obtain ⟨q1_0, q1_1, q1_2, q1_3, q1_4, q1_5, q1_6, q1_7⟩ := (H7).tl.b0.cells8; have qf1 := (H7).tl.b0.free; obtain ⟨q2_0, q2_1, q2_2⟩ := (H7).tl.tl.b0.cells3; have qf2 := (H7).tl.tl.b0.free
  obtain ⟨p0_0, p0_1, p0_2, p0_3, p0_4, p0_5, p0_6, p0_7⟩ := (H7.alloc (.cells #[.int .i64 now] 3)).b0.cells8; have pf0 := (H7.alloc (.cells #[.int .i64 now] 3)).b0.free; obtain ⟨p1_0, p1_1, p1_2, p1_3, p1_4, p1_5, p1_6, p1_7⟩ := (H7.alloc (.cells #[.int .i64 now] 3)).tl.b0.cells8; have pf1 := (H7.alloc (.cells #[.int .i64 now] 3)).tl.b0.free; obtain ⟨p2_0, p2_1, p2_2⟩ := (H7.alloc (.cells #[.int .i64 now] 3)).tl.tl.b0.cells3; have pf2 := (H7.alloc (.cells #[.int .i64 now] 3)).tl.tl.b0.free
  have H7' := Lib.hid H7
  clear H7
  go_upto_region 8 with ((go_at_call 22; refine (latest1 now _ _ (by simp)).mono ?_; rintro e w5 ⟨rfl, rfl⟩))
  clear q0_0 q0_1 q0_2 q0_3 q0_4 q0_5 q0_6 q0_7 q1_0 q1_1 q1_2 q1_3 q1_4 q1_5 q1_6 q1_7 q2_0 q2_1 q2_2 qf0 qf1 qf2
  clear p0_0 p0_1 p0_2 p0_3 p0_4 p0_5 p0_6 p0_7 p1_0 p1_1 p1_2 p1_3 p1_4 p1_5 p1_6 p1_7 p2_0 p2_1 p2_2 pf0 pf1 pf2
  have H8 := (H7'.out.alloc (.cells #[.int .i64 now] 3)).set1 (by first | omega | (simp; done) | (simp; omega)) (by simp) 6 (.int .i64 (mom now))
  simp only [List.setIfInBounds_toArray, List.set_cons_zero, List.set_cons_succ] at H8
  clear H7'
  generalize (w7.alloc (.cells #[.int .i64 now] 3)).setCell ⟨w.heap.size + 1, 6, none⟩ (.int .i64 (mom now)) = w8 at *
  obtain ⟨q0_0, q0_1, q0_2, q0_3, q0_4, q0_5, q0_6, q0_7⟩ := (H8).b0.cells8; have qf0 := (H8).b0.free; obtain ⟨q1_0, q1_1, q1_2, q1_3, q1_4, q1_5, q1_6, q1_7⟩ := (H8).tl.b0.cells8; have qf1 := (H8).tl.b0.free; obtain ⟨q2_0, q2_1, q2_2⟩ := (H8).tl.tl.b0.cells3; have qf2 := (H8).tl.tl.b0.free
  have H8' := Lib.hid H8.2
  clear H8
  go_wp2
  refine bodyPost_ret (v := .agg #[.int .u32 la, .int .i64 2, .string client, .int .i64 (untilV lead now want 0), .int .i64 0, .int .i64 0, .int .i64 (mom now), .int .i64 (clkAdd lv 1)]) (by simp [results, Try.results17, go_sem, q0_0, q0_1, q0_2, q0_3, q0_4, q0_5, q0_6, q0_7]) rfl ⟨rfl, ?_⟩
  repeat (refine Below.setCell ?_ (by first | omega | (simp; done) | (simp; omega)) _)
  exact H8'.out

set_option maxRecDepth 100000 in
set_option maxHeartbeats 1000000 in
theorem rlea_new10 (id lead guard la : Int) (lc client : ByteArray) (lu lk lt lz lv now want : Int) (h : lc ≠ client) (hv : 2 ≠ ownV id) (w : World) : Calls Try.prog 18 #[.agg #[.int .i64 id, .int .i64 lead, .int .i64 guard], .agg #[.int .u32 la, .int .i64 2, .string lc, .int .i64 lu, .int .i64 lk, .int .i64 lt, .int .i64 lz, .int .i64 lv], .string client, .int .i64 now, .int .i64 want] w fun e w' => e = .returned (.agg #[.int .u32 la, .int .i64 2, .string client, .int .i64 (untilV lead now want 0), .int .i64 0, .int .i64 0, .int .i64 (mom now), .int .i64 (clkAdd lv 1)]) ∧ Below w.heap.size w w' := by
  have b3 : (lc.toList == client.toList) = false := str_ne h
  have b4 : (lc.toList != client.toList) = true := str_ne' h
  have d1 : (2 != ownV id) = true := bne_iff_ne.2 hv
  have d2 : decide (2 = ownV id) = false := decide_eq_false hv
  clear h hv
  go_enter Try.func18, Try.ntmps18
  go_upto_region 6 with (fail)
  have hh := (((HeldB.nil (lowA (lowA (low0 w (.cells #[.int .i64 id, .int .i64 lead, .int .i64 guard] 26)) (.cells #[.int .u32 la, .int .i64 2, .string lc, .int .i64 lu, .int .i64 lk, .int .i64 lt, .int .i64 lz, .int .i64 lv] 35)) (.cells #[.int .u32 0, .int .i64 0, .string ByteArray.empty, .int .i64 0, .int .i64 0, .int .i64 0, .int .i64 0, .int .i64 0] 35))).cons ((Blk.new2' w #[.int .i64 id, .int .i64 lead, .int .i64 guard] 26 (.cells #[.int .u32 la, .int .i64 2, .string lc, .int .i64 lu, .int .i64 lk, .int .i64 lt, .int .i64 lz, .int .i64 lv] 35)).alloc (.cells #[.int .u32 0, .int .i64 0, .string ByteArray.empty, .int .i64 0, .int .i64 0, .int .i64 0, .int .i64 0, .int .i64 0] 35))).cons ((Blk.new2 w (.cells #[.int .i64 id, .int .i64 lead, .int .i64 guard] 26) #[.int .u32 la, .int .i64 2, .string lc, .int .i64 lu, .int .i64 lk, .int .i64 lt, .int .i64 lz, .int .i64 lv] 35).alloc (.cells #[.int .u32 0, .int .i64 0, .string ByteArray.empty, .int .i64 0, .int .i64 0, .int .i64 0, .int .i64 0, .int .i64 0] 35))).cons (Blk.new3 w (.cells #[.int .i64 id, .int .i64 lead, .int .i64 guard] 26) (.cells #[.int .u32 la, .int .i64 2, .string lc, .int .i64 lu, .int .i64 lk, .int .i64 lt, .int .i64 lz, .int .i64 lv] 35) #[.int .u32 0, .int .i64 0, .string ByteArray.empty, .int .i64 0, .int .i64 0, .int .i64 0, .int .i64 0, .int .i64 0] 35)
  have HH0 := Lib.hid hh
  clear hh
  refine wp_region_seq (S := HeldB w [((w.heap.size + 1 + 1), #[.int .u32 0, .int .i64 0, .string ByteArray.empty, .int .i64 0, .int .i64 0, .int .i64 0, .int .i64 0, .int .i64 0], 35), ((w.heap.size + 1), #[.int .u32 la, .int .i64 2, .string lc, .int .i64 lu, .int .i64 lk, .int .i64 lt, .int .i64 lz, .int .i64 lv], 35), (w.heap.size, #[.int .i64 id, .int .i64 lead, .int .i64 guard], 26)]) 5 (by kernel_rfl) (by kernel_rfl) HH0.out.drew ?_
  simp only [List.take_succ_cons, List.take_zero, List.drop_succ_cons, List.drop_zero]
  refine wpHeld_val (v := ?vrleao100) (by rfl) ?yrleao100 ?rrleao100
  case yrleao100 => (intro wS hSw; go_simp; try (with_reducible rfl))
  try simp only [Act.put, List.setIfInBounds_toArray, List.set_cons_zero, List.set_cons_succ]
  refine wpHeld_val (v := ?vrleao101) (by rfl) ?yrleao101 ?rrleao101
  case yrleao101 => (intro wS hSw; obtain ⟨q0_0, q0_1, q0_2, q0_3, q0_4, q0_5, q0_6, q0_7⟩ := (hSw).b0.cells8; obtain ⟨q1_0, q1_1, q1_2, q1_3, q1_4, q1_5, q1_6, q1_7⟩ := (hSw).tl.b0.cells8; obtain ⟨q2_0, q2_1, q2_2⟩ := (hSw).tl.tl.b0.cells3; go_simp; try (with_reducible rfl))
  try simp only [Act.put, List.setIfInBounds_toArray, List.set_cons_zero, List.set_cons_succ]
  refine wpHeld_val (v := ?vrleao102) (by rfl) ?yrleao102 ?rrleao102
  case yrleao102 => (intro wS hSw; obtain ⟨q0_0, q0_1, q0_2, q0_3, q0_4, q0_5, q0_6, q0_7⟩ := (hSw).b0.cells8; obtain ⟨q1_0, q1_1, q1_2, q1_3, q1_4, q1_5, q1_6, q1_7⟩ := (hSw).tl.b0.cells8; obtain ⟨q2_0, q2_1, q2_2⟩ := (hSw).tl.tl.b0.cells3; go_simp; try (with_reducible rfl))
  try simp only [Act.put, List.setIfInBounds_toArray, List.set_cons_zero, List.set_cons_succ]
  refine wpHeld_run (.int .i64 (ownV id)) (by rfl) ?crleao103 ?rrleao103
  case crleao103 => (intro wS hSw K hK; go_simp; (go_at_call 14; with_reducible refine (rown_any id lead guard _).mono ?_; rintro e w5 ⟨rfl, hx⟩); go_wp2_with fail; exact hK.out _ (hSw.keep hx))
  try simp only [Act.put, List.setIfInBounds_toArray, List.set_cons_zero, List.set_cons_succ]
  refine wpHeld_val (v := .bool true) (by rfl) ?yrleao104 ?rrleao104
  case yrleao104 => (intro wS hSw; go_simp; try (first | with_reducible rfl | simp))
  try simp only [Act.put, List.setIfInBounds_toArray, List.set_cons_zero, List.set_cons_succ]
  refine wpHeld_nil ?_
  intro wS hSw
  generalize wS = w3 at *
  clear HH0
  obtain ⟨q0_0, q0_1, q0_2, q0_3, q0_4, q0_5, q0_6, q0_7⟩ := (hSw).b0.cells8; have qf0 := (hSw).b0.free; obtain ⟨q1_0, q1_1, q1_2, q1_3, q1_4, q1_5, q1_6, q1_7⟩ := (hSw).tl.b0.cells8; have qf1 := (hSw).tl.b0.free; obtain ⟨q2_0, q2_1, q2_2⟩ := (hSw).tl.tl.b0.cells3; have qf2 := (hSw).tl.tl.b0.free
  have HH5 := Lib.hid hSw
  clear hSw
  go_upto_region 8 with ((go_at_call 23; with_reducible refine (radd_any _ _ _).mono ?_; rintro e w1 ⟨rfl, rfl⟩))
  clear q0_0 q0_1 q0_2 q0_3 q0_4 q0_5 q0_6 q0_7 q1_0 q1_1 q1_2 q1_3 q1_4 q1_5 q1_6 q1_7 q2_0 q2_1 q2_2 qf0 qf1 qf2
  refine wp_region_seq (S := HeldB w [((w.heap.size + 1 + 1), #[.int .u32 0, .int .i64 0, .string ByteArray.empty, .int .i64 0, .int .i64 0, .int .i64 0, .int .i64 0, .int .i64 0], 35), ((w.heap.size + 1), #[.int .u32 la, .int .i64 2, .string lc, .int .i64 lu, .int .i64 lk, .int .i64 lt, .int .i64 lz, .int .i64 lv], 35), (w.heap.size, #[.int .i64 id, .int .i64 lead, .int .i64 guard], 26)]) 11 (by kernel_rfl) (by kernel_rfl) HH5.out.drew ?_
  simp only [List.take_succ_cons, List.take_zero, List.drop_succ_cons, List.drop_zero]
  refine wpHeld_val (v := ?vrleax100) (by rfl) ?yrleax100 ?rrleax100
  case yrleax100 => (intro wS hSw; go_simp; try (with_reducible rfl))
  try simp only [Act.put, List.setIfInBounds_toArray, List.set_cons_zero, List.set_cons_succ]
  refine wpHeld_val (v := ?vrleax101) (by rfl) ?yrleax101 ?rrleax101
  case yrleax101 => (intro wS hSw; obtain ⟨q0_0, q0_1, q0_2, q0_3, q0_4, q0_5, q0_6, q0_7⟩ := (hSw).b0.cells8; obtain ⟨q1_0, q1_1, q1_2, q1_3, q1_4, q1_5, q1_6, q1_7⟩ := (hSw).tl.b0.cells8; obtain ⟨q2_0, q2_1, q2_2⟩ := (hSw).tl.tl.b0.cells3; go_simp; try (with_reducible rfl))
  try simp only [Act.put, List.setIfInBounds_toArray, List.set_cons_zero, List.set_cons_succ]
  refine wpHeld_val (v := ?vrleax102) (by rfl) ?yrleax102 ?rrleax102
  case yrleax102 => (intro wS hSw; go_simp; try (with_reducible rfl))
  try simp only [Act.put, List.setIfInBounds_toArray, List.set_cons_zero, List.set_cons_succ]
  refine wpHeld_val (v := ?vrleax103) (by rfl) ?yrleax103 ?rrleax103
  case yrleax103 => (intro wS hSw; obtain ⟨q0_0, q0_1, q0_2, q0_3, q0_4, q0_5, q0_6, q0_7⟩ := (hSw).b0.cells8; obtain ⟨q1_0, q1_1, q1_2, q1_3, q1_4, q1_5, q1_6, q1_7⟩ := (hSw).tl.b0.cells8; obtain ⟨q2_0, q2_1, q2_2⟩ := (hSw).tl.tl.b0.cells3; go_simp; try (with_reducible rfl))
  try simp only [Act.put, List.setIfInBounds_toArray, List.set_cons_zero, List.set_cons_succ]
  refine wpHeld_val (v := ?vrleax104) (by rfl) ?yrleax104 ?rrleax104
  case yrleax104 => (intro wS hSw; go_simp; try (with_reducible rfl))
  try simp only [Act.put, List.setIfInBounds_toArray, List.set_cons_zero, List.set_cons_succ]
  refine wpHeld_val (v := ?vrleax105) (by rfl) ?yrleax105 ?rrleax105
  case yrleax105 => (intro wS hSw; go_simp; try (with_reducible rfl))
  try simp only [Act.put, List.setIfInBounds_toArray, List.set_cons_zero, List.set_cons_succ]
  refine wpHeld_run (.int .i64 (untilV lead now want 0)) (by rfl) ?crleax106 ?rrleax106
  case crleax106 => (intro wS hSw K hK; go_simp; (go_at_call 12; with_reducible refine (runtil_any id lead guard now want 0 _).mono ?_; rintro e w5 ⟨rfl, hx⟩); go_wp2_with fail; exact hK.out _ (hSw.keep hx))
  try simp only [Act.put, List.setIfInBounds_toArray, List.set_cons_zero, List.set_cons_succ]
  refine wpHeld_val (v := ?vrleax107) (by rfl) ?yrleax107 ?rrleax107
  case yrleax107 => (intro wS hSw; go_simp; try (with_reducible rfl))
  try simp only [Act.put, List.setIfInBounds_toArray, List.set_cons_zero, List.set_cons_succ]
  refine wpHeld_run (.int .i64 (mom now)) (by rfl) ?crleax108 ?rrleax108
  case crleax108 => (intro wS hSw K hK; go_simp; (go_at_call 24; with_reducible refine (rbnd_any _ _).mono ?_; rintro e w1 ⟨rfl, rfl⟩); go_wp2_with fail; exact hK.out _ (hSw))
  try simp only [Act.put, List.setIfInBounds_toArray, List.set_cons_zero, List.set_cons_succ]
  refine wpHeld_val (v := ?vrleax109) (by rfl) ?yrleax109 ?rrleax109
  case yrleax109 => (intro wS hSw; go_simp; try (with_reducible rfl))
  try simp only [Act.put, List.setIfInBounds_toArray, List.set_cons_zero, List.set_cons_succ]
  refine wpHeld_val (v := ?vrleax1010) (by rfl) ?yrleax1010 ?rrleax1010
  case yrleax1010 => (intro wS hSw; go_simp; try (with_reducible rfl))
  try simp only [Act.put, List.setIfInBounds_toArray, List.set_cons_zero, List.set_cons_succ]
  refine wpHeld_nil ?_
  intro wS hSw
  obtain ⟨q0_0, q0_1, q0_2, q0_3, q0_4, q0_5, q0_6, q0_7⟩ := (hSw).b0.cells8; have qf0 := (hSw).b0.free; obtain ⟨q1_0, q1_1, q1_2, q1_3, q1_4, q1_5, q1_6, q1_7⟩ := (hSw).tl.b0.cells8; have qf1 := (hSw).tl.b0.free; obtain ⟨q2_0, q2_1, q2_2⟩ := (hSw).tl.tl.b0.cells3; have qf2 := (hSw).tl.tl.b0.free
  have H8' := Lib.hid hSw.2
  clear hSw
  go_wp2
  refine bodyPost_ret (v := .agg #[.int .u32 la, .int .i64 2, .string client, .int .i64 (untilV lead now want 0), .int .i64 0, .int .i64 0, .int .i64 (mom now), .int .i64 (clkAdd lv 1)]) (by simp [results, Try.results18, go_sem, q0_0, q0_1, q0_2, q0_3, q0_4, q0_5, q0_6, q0_7]) rfl ⟨rfl, ?_⟩
  repeat (refine Below.setCell ?_ (by first | omega | (simp; done) | (simp; omega)) _)
  exact H8'.out

end Go.Proofs.Ytgpfdchokpelfaa
