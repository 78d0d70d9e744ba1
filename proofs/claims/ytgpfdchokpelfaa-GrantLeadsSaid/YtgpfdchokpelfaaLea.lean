/- What is known of an address once it was promised, where it was so already. -/
import Derived.Test.YtgpfdchokpelfaaLaw4
import Derived.Test.YtgpfdchokpelfaaSeq
import Derived.Deep.DeepCutAuto
namespace Go.Proofs.Ytgpfdchokpelfaa
open Go.ChangeShapes Go.WideShapes Go.ChangeAt Go.RowKit
set_option linter.unusedVariables false

def potV (lu now want : Int) : Int := max lu (clkAdd now (max want 0))

set_option maxRecDepth 100000 in
theorem pot_any (id lead guard : Int) (la lb : Int) (lc : ByteArray) (lu lk lt lz lv : Int) (now want : Int) (w : World) : Calls Try.prog 19 #[.agg #[.int .i64 id, .int .i64 lead, .int .i64 guard], .agg #[.int .u32 la, .int .i64 lb, .string lc, .int .i64 lu, .int .i64 lk, .int .i64 lt, .int .i64 lz, .int .i64 lv], .int .i64 now, .int .i64 want] w fun e w' => e = .returned (.int .i64 (potV lu now want)) ∧ Below w.heap.size w w' := by
  unfold potV
  go_enter Try.func19, Try.ntmps19
  go_wp2
  have hh := ((HeldB.nil (lowA (low0 w (.cells #[.int .i64 id, .int .i64 lead, .int .i64 guard] 25)) (.cells #[.int .u32 la, .int .i64 lb, .string lc, .int .i64 lu, .int .i64 lk, .int .i64 lt, .int .i64 lz, .int .i64 lv] 35))).cons (Blk.new2' w #[.int .i64 id, .int .i64 lead, .int .i64 guard] 25 (.cells #[.int .u32 la, .int .i64 lb, .string lc, .int .i64 lu, .int .i64 lk, .int .i64 lt, .int .i64 lz, .int .i64 lv] 35))).cons (Blk.new2 w (.cells #[.int .i64 id, .int .i64 lead, .int .i64 guard] 25) #[.int .u32 la, .int .i64 lb, .string lc, .int .i64 lu, .int .i64 lk, .int .i64 lt, .int .i64 lz, .int .i64 lv] 35)
  have HH0 := Lib.hid hh
  clear hh
  refine wp_region_seq (S := HeldB w [((w.heap.size + 1), #[.int .u32 la, .int .i64 lb, .string lc, .int .i64 lu, .int .i64 lk, .int .i64 lt, .int .i64 lz, .int .i64 lv], 35), (w.heap.size, #[.int .i64 id, .int .i64 lead, .int .i64 guard], 25)]) 7 (by kernel_rfl) (by kernel_rfl) HH0.out.drew ?_
  simp only [List.take_succ_cons, List.take_zero, List.drop_succ_cons, List.drop_zero]
  refine wpHeld_val (v := ?vpot0) (by rfl) ?ypot0 ?rpot0
  case ypot0 => (intro wS hSw; go_simp; try (with_reducible rfl))
  try simp only [Act.put, List.setIfInBounds_toArray, List.set_cons_zero, List.set_cons_succ]
  refine wpHeld_val (v := ?vpot1) (by rfl) ?ypot1 ?rpot1
  case ypot1 => (intro wS hSw; obtain ⟨q0_0, q0_1, q0_2, q0_3, q0_4, q0_5, q0_6, q0_7⟩ := (hSw).b0.cells8; obtain ⟨q1_0, q1_1, q1_2⟩ := (hSw).tl.b0.cells3; go_simp; try (with_reducible rfl))
  try simp only [Act.put, List.setIfInBounds_toArray, List.set_cons_zero, List.set_cons_succ]
  refine wpHeld_val (v := ?vpot2) (by rfl) ?ypot2 ?rpot2
  case ypot2 => (intro wS hSw; go_simp; try (with_reducible rfl))
  try simp only [Act.put, List.setIfInBounds_toArray, List.set_cons_zero, List.set_cons_succ]
  refine wpHeld_val (v := ?vpot3) (by rfl) ?ypot3 ?rpot3
  case ypot3 => (intro wS hSw; go_simp; try (with_reducible rfl))
  try simp only [Act.put, List.setIfInBounds_toArray, List.set_cons_zero, List.set_cons_succ]
  refine wpHeld_val (v := .int .i64 (max want 0)) (by rfl) ?ypot4 ?rpot4
  case ypot4 => (intro wS hSw; go_simp; try (first | with_reducible rfl | (split <;> omega)))
  try simp only [Act.put, List.setIfInBounds_toArray, List.set_cons_zero, List.set_cons_succ]
  refine wpHeld_run (.int .i64 (clkAdd now (max want 0))) (by rfl) ?cpot5 ?rpot5
  case cpot5 => (intro wS hSw K hK; go_simp; (go_at_call 21; with_reducible refine (add_any _ _ _).mono ?_; rintro e w5 ⟨rfl, rfl⟩); go_wp2_with fail; exact hK.out _ (hSw))
  try simp only [Act.put, List.setIfInBounds_toArray, List.set_cons_zero, List.set_cons_succ]
  refine wpHeld_val (v := .int .i64 (max lu (clkAdd now (max want 0)))) (by rfl) ?ypot6 ?rpot6
  case ypot6 => (intro wS hSw; go_simp; try (first | with_reducible rfl | (split <;> omega)))
  try simp only [Act.put, List.setIfInBounds_toArray, List.set_cons_zero, List.set_cons_succ]
  refine wpHeld_nil ?_
  intro wS hSw
  obtain ⟨q0_0, q0_1, q0_2, q0_3, q0_4, q0_5, q0_6, q0_7⟩ := (hSw).b0.cells8; obtain ⟨q1_0, q1_1, q1_2⟩ := (hSw).tl.b0.cells3
  have hb := Lib.hid hSw.2; clear hSw
  go_wp2
  go_ret
  exact ⟨rfl, hb.out⟩

set_option maxRecDepth 100000 in
theorem rpot_any (id lead guard : Int) (la lb : Int) (lc : ByteArray) (lu lk lt lz lv : Int) (now want : Int) (w : World) : Calls Try.prog 20 #[.agg #[.int .i64 id, .int .i64 lead, .int .i64 guard], .agg #[.int .u32 la, .int .i64 lb, .string lc, .int .i64 lu, .int .i64 lk, .int .i64 lt, .int .i64 lz, .int .i64 lv], .int .i64 now, .int .i64 want] w fun e w' => e = .returned (.int .i64 (potV lu now want)) ∧ Below w.heap.size w w' := by
  unfold potV
  go_enter Try.func20, Try.ntmps20
  go_wp2
  have hh := ((HeldB.nil (lowA (low0 w (.cells #[.int .i64 id, .int .i64 lead, .int .i64 guard] 26)) (.cells #[.int .u32 la, .int .i64 lb, .string lc, .int .i64 lu, .int .i64 lk, .int .i64 lt, .int .i64 lz, .int .i64 lv] 35))).cons (Blk.new2' w #[.int .i64 id, .int .i64 lead, .int .i64 guard] 26 (.cells #[.int .u32 la, .int .i64 lb, .string lc, .int .i64 lu, .int .i64 lk, .int .i64 lt, .int .i64 lz, .int .i64 lv] 35))).cons (Blk.new2 w (.cells #[.int .i64 id, .int .i64 lead, .int .i64 guard] 26) #[.int .u32 la, .int .i64 lb, .string lc, .int .i64 lu, .int .i64 lk, .int .i64 lt, .int .i64 lz, .int .i64 lv] 35)
  have HH0 := Lib.hid hh
  clear hh
  refine wp_region_seq (S := HeldB w [((w.heap.size + 1), #[.int .u32 la, .int .i64 lb, .string lc, .int .i64 lu, .int .i64 lk, .int .i64 lt, .int .i64 lz, .int .i64 lv], 35), (w.heap.size, #[.int .i64 id, .int .i64 lead, .int .i64 guard], 26)]) 7 (by kernel_rfl) (by kernel_rfl) HH0.out.drew ?_
  simp only [List.take_succ_cons, List.take_zero, List.drop_succ_cons, List.drop_zero]
  refine wpHeld_val (v := ?vrpot0) (by rfl) ?yrpot0 ?rrpot0
  case yrpot0 => (intro wS hSw; go_simp; try (with_reducible rfl))
  try simp only [Act.put, List.setIfInBounds_toArray, List.set_cons_zero, List.set_cons_succ]
  refine wpHeld_val (v := ?vrpot1) (by rfl) ?yrpot1 ?rrpot1
  case yrpot1 => (intro wS hSw; obtain ⟨q0_0, q0_1, q0_2, q0_3, q0_4, q0_5, q0_6, q0_7⟩ := (hSw).b0.cells8; obtain ⟨q1_0, q1_1, q1_2⟩ := (hSw).tl.b0.cells3; go_simp; try (with_reducible rfl))
  try simp only [Act.put, List.setIfInBounds_toArray, List.set_cons_zero, List.set_cons_succ]
  refine wpHeld_val (v := ?vrpot2) (by rfl) ?yrpot2 ?rrpot2
  case yrpot2 => (intro wS hSw; go_simp; try (with_reducible rfl))
  try simp only [Act.put, List.setIfInBounds_toArray, List.set_cons_zero, List.set_cons_succ]
  refine wpHeld_val (v := ?vrpot3) (by rfl) ?yrpot3 ?rrpot3
  case yrpot3 => (intro wS hSw; go_simp; try (with_reducible rfl))
  try simp only [Act.put, List.setIfInBounds_toArray, List.set_cons_zero, List.set_cons_succ]
  refine wpHeld_val (v := .int .i64 (max want 0)) (by rfl) ?yrpot4 ?rrpot4
  case yrpot4 => (intro wS hSw; go_simp; try (first | with_reducible rfl | (split <;> omega)))
  try simp only [Act.put, List.setIfInBounds_toArray, List.set_cons_zero, List.set_cons_succ]
  refine wpHeld_run (.int .i64 (clkAdd now (max want 0))) (by rfl) ?crpot5 ?rrpot5
  case crpot5 => (intro wS hSw K hK; go_simp; (go_at_call 23; with_reducible refine (radd_any _ _ _).mono ?_; rintro e w5 ⟨rfl, rfl⟩); go_wp2_with fail; exact hK.out _ (hSw))
  try simp only [Act.put, List.setIfInBounds_toArray, List.set_cons_zero, List.set_cons_succ]
  refine wpHeld_val (v := .int .i64 (max lu (clkAdd now (max want 0)))) (by rfl) ?yrpot6 ?rrpot6
  case yrpot6 => (intro wS hSw; go_simp; try (first | with_reducible rfl | (split <;> omega)))
  try simp only [Act.put, List.setIfInBounds_toArray, List.set_cons_zero, List.set_cons_succ]
  refine wpHeld_nil ?_
  intro wS hSw
  obtain ⟨q0_0, q0_1, q0_2, q0_3, q0_4, q0_5, q0_6, q0_7⟩ := (hSw).b0.cells8; obtain ⟨q1_0, q1_1, q1_2⟩ := (hSw).tl.b0.cells3
  have hb := Lib.hid hSw.2; clear hSw
  go_wp2
  go_ret
  exact ⟨rfl, hb.out⟩

set_option maxRecDepth 100000 in
theorem lea_same (id lead guard la : Int) (lc : ByteArray) (lu lk lt lz lv now want : Int) (w : World) : Calls Try.prog 17 #[.agg #[.int .i64 id, .int .i64 lead, .int .i64 guard], .agg #[.int .u32 la, .int .i64 2, .string lc, .int .i64 lu, .int .i64 lk, .int .i64 lt, .int .i64 lz, .int .i64 lv], .string lc, .int .i64 now, .int .i64 want] w fun e w' => e = .returned (.agg #[.int .u32 la, .int .i64 2, .string lc, .int .i64 (max lu (untilV lead now want lk)), .int .i64 lk, .int .i64 lt, .int .i64 (mom now), .int .i64 lv]) ∧ Below w.heap.size w w' := by
  go_enter Try.func17, Try.ntmps17
  go_wp2
  have hh := (((HeldB.nil (lowA (lowA (low0 w (.cells #[.int .i64 id, .int .i64 lead, .int .i64 guard] 25)) (.cells #[.int .u32 la, .int .i64 2, .string lc, .int .i64 lu, .int .i64 lk, .int .i64 lt, .int .i64 lz, .int .i64 lv] 35)) (.cells #[.int .u32 0, .int .i64 0, .string ByteArray.empty, .int .i64 0, .int .i64 0, .int .i64 0, .int .i64 0, .int .i64 0] 35))).cons ((Blk.new2' w #[.int .i64 id, .int .i64 lead, .int .i64 guard] 25 (.cells #[.int .u32 la, .int .i64 2, .string lc, .int .i64 lu, .int .i64 lk, .int .i64 lt, .int .i64 lz, .int .i64 lv] 35)).alloc (.cells #[.int .u32 0, .int .i64 0, .string ByteArray.empty, .int .i64 0, .int .i64 0, .int .i64 0, .int .i64 0, .int .i64 0] 35))).cons ((Blk.new2 w (.cells #[.int .i64 id, .int .i64 lead, .int .i64 guard] 25) #[.int .u32 la, .int .i64 2, .string lc, .int .i64 lu, .int .i64 lk, .int .i64 lt, .int .i64 lz, .int .i64 lv] 35).alloc (.cells #[.int .u32 0, .int .i64 0, .string ByteArray.empty, .int .i64 0, .int .i64 0, .int .i64 0, .int .i64 0, .int .i64 0] 35))).cons (Blk.new3 w (.cells #[.int .i64 id, .int .i64 lead, .int .i64 guard] 25) (.cells #[.int .u32 la, .int .i64 2, .string lc, .int .i64 lu, .int .i64 lk, .int .i64 lt, .int .i64 lz, .int .i64 lv] 35) #[.int .u32 0, .int .i64 0, .string ByteArray.empty, .int .i64 0, .int .i64 0, .int .i64 0, .int .i64 0, .int .i64 0] 35)
  have HH0 := Lib.hid hh
  clear hh
  refine wp_region_seq (S := HeldB w [((w.heap.size + 1 + 1), #[.int .u32 0, .int .i64 0, .string ByteArray.empty, .int .i64 0, .int .i64 0, .int .i64 0, .int .i64 0, .int .i64 0], 35), ((w.heap.size + 1), #[.int .u32 la, .int .i64 2, .string lc, .int .i64 lu, .int .i64 lk, .int .i64 lt, .int .i64 lz, .int .i64 lv], 35), (w.heap.size, #[.int .i64 id, .int .i64 lead, .int .i64 guard], 25)]) 10 (by kernel_rfl) (by kernel_rfl) HH0.out.drew ?_
  simp only [List.take_succ_cons, List.take_zero, List.drop_succ_cons, List.drop_zero]
  refine wpHeld_val (v := ?vlea0) (by rfl) ?ylea0 ?rlea0
  case ylea0 => (intro wS hSw; go_simp; try (with_reducible rfl))
  try simp only [Act.put, List.setIfInBounds_toArray, List.set_cons_zero, List.set_cons_succ]
  refine wpHeld_val (v := ?vlea1) (by rfl) ?ylea1 ?rlea1
  case ylea1 => (intro wS hSw; obtain ⟨q0_0, q0_1, q0_2, q0_3, q0_4, q0_5, q0_6, q0_7⟩ := (hSw).b0.cells8; obtain ⟨q1_0, q1_1, q1_2, q1_3, q1_4, q1_5, q1_6, q1_7⟩ := (hSw).tl.b0.cells8; obtain ⟨q2_0, q2_1, q2_2⟩ := (hSw).tl.tl.b0.cells3; go_simp; try (with_reducible rfl))
  try simp only [Act.put, List.setIfInBounds_toArray, List.set_cons_zero, List.set_cons_succ]
  refine wpHeld_val (v := ?vlea2) (by rfl) ?ylea2 ?rlea2
  case ylea2 => (intro wS hSw; obtain ⟨q0_0, q0_1, q0_2, q0_3, q0_4, q0_5, q0_6, q0_7⟩ := (hSw).b0.cells8; obtain ⟨q1_0, q1_1, q1_2, q1_3, q1_4, q1_5, q1_6, q1_7⟩ := (hSw).tl.b0.cells8; obtain ⟨q2_0, q2_1, q2_2⟩ := (hSw).tl.tl.b0.cells3; go_simp; try (with_reducible rfl))
  try simp only [Act.put, List.setIfInBounds_toArray, List.set_cons_zero, List.set_cons_succ]
  refine wpHeld_val (v := ?vlea3) (by rfl) ?ylea3 ?rlea3
  case ylea3 => (intro wS hSw; go_simp; try (with_reducible rfl))
  try simp only [Act.put, List.setIfInBounds_toArray, List.set_cons_zero, List.set_cons_succ]
  refine wpHeld_val (v := ?vlea4) (by rfl) ?ylea4 ?rlea4
  case ylea4 => (intro wS hSw; go_simp; try (with_reducible rfl))
  try simp only [Act.put, List.setIfInBounds_toArray, List.set_cons_zero, List.set_cons_succ]
  refine wpHeld_val (v := ?vlea5) (by rfl) ?ylea5 ?rlea5
  case ylea5 => (intro wS hSw; go_simp; try (with_reducible rfl))
  try simp only [Act.put, List.setIfInBounds_toArray, List.set_cons_zero, List.set_cons_succ]
  refine wpHeld_val (v := ?vlea6) (by rfl) ?ylea6 ?rlea6
  case ylea6 => (intro wS hSw; obtain ⟨q0_0, q0_1, q0_2, q0_3, q0_4, q0_5, q0_6, q0_7⟩ := (hSw).b0.cells8; obtain ⟨q1_0, q1_1, q1_2, q1_3, q1_4, q1_5, q1_6, q1_7⟩ := (hSw).tl.b0.cells8; obtain ⟨q2_0, q2_1, q2_2⟩ := (hSw).tl.tl.b0.cells3; go_simp; try (with_reducible rfl))
  try simp only [Act.put, List.setIfInBounds_toArray, List.set_cons_zero, List.set_cons_succ]
  refine wpHeld_run (.int .i64 (untilV lead now want lk)) (by rfl) ?clea7 ?rlea7
  case clea7 => (intro wS hSw K hK; go_simp; (go_at_call 11; with_reducible refine (until_any id lead guard now want lk _).mono ?_; rintro e w5 ⟨rfl, hx⟩); go_wp2_with fail; exact hK.out _ (hSw.keep hx))
  try simp only [Act.put, List.setIfInBounds_toArray, List.set_cons_zero, List.set_cons_succ]
  refine wpHeld_val (v := .int .i64 (max lu (untilV lead now want lk))) (by rfl) ?ylea8 ?rlea8
  case ylea8 => (intro wS hSw; go_simp; try (first | with_reducible rfl | (split <;> omega) | (congr 1; omega)))
  try simp only [Act.put, List.setIfInBounds_toArray, List.set_cons_zero, List.set_cons_succ]
  refine wpHeld_val (v := ?vlea9) (by rfl) ?ylea9 ?rlea9
  case ylea9 => (intro wS hSw; go_simp; try (with_reducible rfl))
  try simp only [Act.put, List.setIfInBounds_toArray, List.set_cons_zero, List.set_cons_succ]
  refine wpHeld_nil ?_
  intro wS hSw
  obtain ⟨q0_0, q0_1, q0_2, q0_3, q0_4, q0_5, q0_6, q0_7⟩ := (hSw).b0.cells8; have qf0 := (hSw).b0.free; obtain ⟨q1_0, q1_1, q1_2, q1_3, q1_4, q1_5, q1_6, q1_7⟩ := (hSw).tl.b0.cells8; have qf1 := (hSw).tl.b0.free; obtain ⟨q2_0, q2_1, q2_2⟩ := (hSw).tl.tl.b0.cells3; have qf2 := (hSw).tl.tl.b0.free
  go_upto_region 7 with (fail)
  clear q0_0 q0_1 q0_2 q0_3 q0_4 q0_5 q0_6 q0_7 q1_0 q1_1 q1_2 q1_3 q1_4 q1_5 q1_6 q1_7 q2_0 q2_1 q2_2 qf0 qf1 qf2
  have H7 := (hSw).set1 (by first | omega | (simp; done) | (simp; omega)) (by simp) 3 (.int .i64 (max lu (untilV lead now want lk)))
  simp only [List.setIfInBounds_toArray, List.set_cons_zero, List.set_cons_succ] at H7
  clear hSw HH0
  generalize wS.setCell ⟨w.heap.size + 1, 3, none⟩ (.int .i64 (max lu (untilV lead now want lk))) = w7 at *
  obtain ⟨q0_0, q0_1, q0_2, q0_3, q0_4, q0_5, q0_6, q0_7⟩ := (H7).b0.cells8; have qf0 := (H7).b0.free; obtain ⟨q1_0, q1_1, q1_2, q1_3, q1_4, q1_5, q1_6, q1_7⟩ := (H7).tl.b0.cells8; have qf1 := (H7).tl.b0.free; obtain ⟨q2_0, q2_1, q2_2⟩ := (H7).tl.tl.b0.cells3; have qf2 := (H7).tl.tl.b0.free
  obtain ⟨p0_0, p0_1, p0_2, p0_3, p0_4, p0_5, p0_6, p0_7⟩ := (H7.alloc (.cells #[.int .i64 now] 3)).b0.cells8; have pf0 := (H7.alloc (.cells #[.int .i64 now] 3)).b0.free; obtain ⟨p1_0, p1_1, p1_2, p1_3, p1_4, p1_5, p1_6, p1_7⟩ := (H7.alloc (.cells #[.int .i64 now] 3)).tl.b0.cells8; have pf1 := (H7.alloc (.cells #[.int .i64 now] 3)).tl.b0.free; obtain ⟨p2_0, p2_1, p2_2⟩ := (H7.alloc (.cells #[.int .i64 now] 3)).tl.tl.b0.cells3; have pf2 := (H7.alloc (.cells #[.int .i64 now] 3)).tl.tl.b0.free
  have H7' := Lib.hid H7
  clear H7
  go_upto_region 8 with ((go_at_call 22; refine (latest1 now _ _ (by simp)).mono ?_; rintro e w5 ⟨rfl, rfl⟩))
  clear q0_0 q0_1 q0_2 q0_3 q0_4 q0_5 q0_6 q0_7 q1_0 q1_1 q1_2 q1_3 q1_4 q1_5 q1_6 q1_7 q2_0 q2_1 q2_2 qf0 qf1 qf2
  clear p0_0 p0_1 p0_2 p0_3 p0_4 p0_5 p0_6 p0_7 p1_0 p1_1 p1_2 p1_3 p1_4 p1_5 p1_6 p1_7 p2_0 p2_1 p2_2 pf0 pf1 pf2
  have H8 := (H7'.out.alloc (.cells #[.int .i64 now] 3)).set1 (by first | omega | (simp; done) | (simp; omega)) (by simp) 6 (.int .i64 (mom now))
  simp only [List.setIfInBounds_toArray, List.set_cons_zero, List.set_cons_succ] at H8
  clear H7'
  generalize (w7.alloc (.cells #[.int .i64 now] 3)).setCell ⟨w.heap.size + 1, 6, none⟩ (.int .i64 (mom now)) = w8 at *
  obtain ⟨q0_0, q0_1, q0_2, q0_3, q0_4, q0_5, q0_6, q0_7⟩ := (H8).b0.cells8; have qf0 := (H8).b0.free; obtain ⟨q1_0, q1_1, q1_2, q1_3, q1_4, q1_5, q1_6, q1_7⟩ := (H8).tl.b0.cells8; have qf1 := (H8).tl.b0.free; obtain ⟨q2_0, q2_1, q2_2⟩ := (H8).tl.tl.b0.cells3; have qf2 := (H8).tl.tl.b0.free
  have H8' := Lib.hid H8.2
  clear H8
  go_wp2
  refine bodyPost_ret (v := .agg #[.int .u32 la, .int .i64 2, .string lc, .int .i64 (max lu (untilV lead now want lk)), .int .i64 lk, .int .i64 lt, .int .i64 (mom now), .int .i64 lv]) (by simp [results, Try.results17, go_sem, q0_0, q0_1, q0_2, q0_3, q0_4, q0_5, q0_6, q0_7]) rfl ⟨rfl, ?_⟩
  repeat (refine Below.setCell ?_ (by first | omega | (simp; done) | (simp; omega)) _)
  exact H8'.out

set_option maxRecDepth 100000 in
theorem rlea_same (id lead guard la : Int) (lc : ByteArray) (lu lk lt lz lv now want : Int) (w : World) : Calls Try.prog 18 #[.agg #[.int .i64 id, .int .i64 lead, .int .i64 guard], .agg #[.int .u32 la, .int .i64 2, .string lc, .int .i64 lu, .int .i64 lk, .int .i64 lt, .int .i64 lz, .int .i64 lv], .string lc, .int .i64 now, .int .i64 want] w fun e w' => e = .returned (.agg #[.int .u32 la, .int .i64 2, .string lc, .int .i64 (max lu (untilV lead now want lk)), .int .i64 lk, .int .i64 lt, .int .i64 (mom now), .int .i64 lv]) ∧ Below w.heap.size w w' := by
  go_enter Try.func18, Try.ntmps18
  go_wp2
  have hh := (((HeldB.nil (lowA (lowA (low0 w (.cells #[.int .i64 id, .int .i64 lead, .int .i64 guard] 26)) (.cells #[.int .u32 la, .int .i64 2, .string lc, .int .i64 lu, .int .i64 lk, .int .i64 lt, .int .i64 lz, .int .i64 lv] 35)) (.cells #[.int .u32 0, .int .i64 0, .string ByteArray.empty, .int .i64 0, .int .i64 0, .int .i64 0, .int .i64 0, .int .i64 0] 35))).cons ((Blk.new2' w #[.int .i64 id, .int .i64 lead, .int .i64 guard] 26 (.cells #[.int .u32 la, .int .i64 2, .string lc, .int .i64 lu, .int .i64 lk, .int .i64 lt, .int .i64 lz, .int .i64 lv] 35)).alloc (.cells #[.int .u32 0, .int .i64 0, .string ByteArray.empty, .int .i64 0, .int .i64 0, .int .i64 0, .int .i64 0, .int .i64 0] 35))).cons ((Blk.new2 w (.cells #[.int .i64 id, .int .i64 lead, .int .i64 guard] 26) #[.int .u32 la, .int .i64 2, .string lc, .int .i64 lu, .int .i64 lk, .int .i64 lt, .int .i64 lz, .int .i64 lv] 35).alloc (.cells #[.int .u32 0, .int .i64 0, .string ByteArray.empty, .int .i64 0, .int .i64 0, .int .i64 0, .int .i64 0, .int .i64 0] 35))).cons (Blk.new3 w (.cells #[.int .i64 id, .int .i64 lead, .int .i64 guard] 26) (.cells #[.int .u32 la, .int .i64 2, .string lc, .int .i64 lu, .int .i64 lk, .int .i64 lt, .int .i64 lz, .int .i64 lv] 35) #[.int .u32 0, .int .i64 0, .string ByteArray.empty, .int .i64 0, .int .i64 0, .int .i64 0, .int .i64 0, .int .i64 0] 35)
  have HH0 := Lib.hid hh
  clear hh
  refine wp_region_seq (S := HeldB w [((w.heap.size + 1 + 1), #[.int .u32 0, .int .i64 0, .string ByteArray.empty, .int .i64 0, .int .i64 0, .int .i64 0, .int .i64 0, .int .i64 0], 35), ((w.heap.size + 1), #[.int .u32 la, .int .i64 2, .string lc, .int .i64 lu, .int .i64 lk, .int .i64 lt, .int .i64 lz, .int .i64 lv], 35), (w.heap.size, #[.int .i64 id, .int .i64 lead, .int .i64 guard], 26)]) 10 (by kernel_rfl) (by kernel_rfl) HH0.out.drew ?_
  simp only [List.take_succ_cons, List.take_zero, List.drop_succ_cons, List.drop_zero]
  refine wpHeld_val (v := ?vrlea0) (by rfl) ?yrlea0 ?rrlea0
  case yrlea0 => (intro wS hSw; go_simp; try (with_reducible rfl))
  try simp only [Act.put, List.setIfInBounds_toArray, List.set_cons_zero, List.set_cons_succ]
  refine wpHeld_val (v := ?vrlea1) (by rfl) ?yrlea1 ?rrlea1
  case yrlea1 => (intro wS hSw; obtain ⟨q0_0, q0_1, q0_2, q0_3, q0_4, q0_5, q0_6, q0_7⟩ := (hSw).b0.cells8; obtain ⟨q1_0, q1_1, q1_2, q1_3, q1_4, q1_5, q1_6, q1_7⟩ := (hSw).tl.b0.cells8; obtain ⟨q2_0, q2_1, q2_2⟩ := (hSw).tl.tl.b0.cells3; go_simp; try (with_reducible rfl))
  try simp only [Act.put, List.setIfInBounds_toArray, List.set_cons_zero, List.set_cons_succ]
  refine wpHeld_val (v := ?vrlea2) (by rfl) ?yrlea2 ?rrlea2
  case yrlea2 => (intro wS hSw; obtain ⟨q0_0, q0_1, q0_2, q0_3, q0_4, q0_5, q0_6, q0_7⟩ := (hSw).b0.cells8; obtain ⟨q1_0, q1_1, q1_2, q1_3, q1_4, q1_5, q1_6, q1_7⟩ := (hSw).tl.b0.cells8; obtain ⟨q2_0, q2_1, q2_2⟩ := (hSw).tl.tl.b0.cells3; go_simp; try (with_reducible rfl))
  try simp only [Act.put, List.setIfInBounds_toArray, List.set_cons_zero, List.set_cons_succ]
  refine wpHeld_val (v := ?vrlea3) (by rfl) ?yrlea3 ?rrlea3
  case yrlea3 => (intro wS hSw; go_simp; try (with_reducible rfl))
  try simp only [Act.put, List.setIfInBounds_toArray, List.set_cons_zero, List.set_cons_succ]
  refine wpHeld_val (v := ?vrlea4) (by rfl) ?yrlea4 ?rrlea4
  case yrlea4 => (intro wS hSw; go_simp; try (with_reducible rfl))
  try simp only [Act.put, List.setIfInBounds_toArray, List.set_cons_zero, List.set_cons_succ]
  refine wpHeld_val (v := ?vrlea5) (by rfl) ?yrlea5 ?rrlea5
  case yrlea5 => (intro wS hSw; go_simp; try (with_reducible rfl))
  try simp only [Act.put, List.setIfInBounds_toArray, List.set_cons_zero, List.set_cons_succ]
  refine wpHeld_val (v := ?vrlea6) (by rfl) ?yrlea6 ?rrlea6
  case yrlea6 => (intro wS hSw; obtain ⟨q0_0, q0_1, q0_2, q0_3, q0_4, q0_5, q0_6, q0_7⟩ := (hSw).b0.cells8; obtain ⟨q1_0, q1_1, q1_2, q1_3, q1_4, q1_5, q1_6, q1_7⟩ := (hSw).tl.b0.cells8; obtain ⟨q2_0, q2_1, q2_2⟩ := (hSw).tl.tl.b0.cells3; go_simp; try (with_reducible rfl))
  try simp only [Act.put, List.setIfInBounds_toArray, List.set_cons_zero, List.set_cons_succ]
  refine wpHeld_run (.int .i64 (untilV lead now want lk)) (by rfl) ?crlea7 ?rrlea7
  case crlea7 => (intro wS hSw K hK; go_simp; (go_at_call 12; with_reducible refine (runtil_any id lead guard now want lk _).mono ?_; rintro e w5 ⟨rfl, hx⟩); go_wp2_with fail; exact hK.out _ (hSw.keep hx))
  try simp only [Act.put, List.setIfInBounds_toArray, List.set_cons_zero, List.set_cons_succ]
  refine wpHeld_val (v := .int .i64 (max lu (untilV lead now want lk))) (by rfl) ?yrlea8 ?rrlea8
  case yrlea8 => (intro wS hSw; go_simp; try (first | with_reducible rfl | (split <;> omega) | (congr 1; omega)))
  try simp only [Act.put, List.setIfInBounds_toArray, List.set_cons_zero, List.set_cons_succ]
  refine wpHeld_val (v := ?vrlea9) (by rfl) ?yrlea9 ?rrlea9
  case yrlea9 => (intro wS hSw; go_simp; try (with_reducible rfl))
  try simp only [Act.put, List.setIfInBounds_toArray, List.set_cons_zero, List.set_cons_succ]
  refine wpHeld_nil ?_
  intro wS hSw
  obtain ⟨q0_0, q0_1, q0_2, q0_3, q0_4, q0_5, q0_6, q0_7⟩ := (hSw).b0.cells8; have qf0 := (hSw).b0.free; obtain ⟨q1_0, q1_1, q1_2, q1_3, q1_4, q1_5, q1_6, q1_7⟩ := (hSw).tl.b0.cells8; have qf1 := (hSw).tl.b0.free; obtain ⟨q2_0, q2_1, q2_2⟩ := (hSw).tl.tl.b0.cells3; have qf2 := (hSw).tl.tl.b0.free
  go_upto_region 3 with (fail)
  clear q0_0 q0_1 q0_2 q0_3 q0_4 q0_5 q0_6 q0_7 q1_0 q1_1 q1_2 q1_3 q1_4 q1_5 q1_6 q1_7 q2_0 q2_1 q2_2 qf0 qf1 qf2
  have H7 := (hSw).set1 (by first | omega | (simp; done) | (simp; omega)) (by simp) 3 (.int .i64 (max lu (untilV lead now want lk)))
  simp only [List.setIfInBounds_toArray, List.set_cons_zero, List.set_cons_succ] at H7
  clear hSw HH0
  generalize wS.setCell ⟨w.heap.size + 1, 3, none⟩ (.int .i64 (max lu (untilV lead now want lk))) = w7 at *
  obtain ⟨q0_0, q0_1, q0_2, q0_3, q0_4, q0_5, q0_6, q0_7⟩ := (H7).b0.cells8; have qf0 := (H7).b0.free; obtain ⟨q1_0, q1_1, q1_2, q1_3, q1_4, q1_5, q1_6, q1_7⟩ := (H7).tl.b0.cells8; have qf1 := (H7).tl.b0.free; obtain ⟨q2_0, q2_1, q2_2⟩ := (H7).tl.tl.b0.cells3; have qf2 := (H7).tl.tl.b0.free
  have H7' := Lib.hid H7
  clear H7
  go_upto_region 4 with ((go_at_call 24; with_reducible refine (rbnd_any _ _).mono ?_; rintro e w1 ⟨rfl, rfl⟩))
  clear q0_0 q0_1 q0_2 q0_3 q0_4 q0_5 q0_6 q0_7 q1_0 q1_1 q1_2 q1_3 q1_4 q1_5 q1_6 q1_7 q2_0 q2_1 q2_2 qf0 qf1 qf2
  have H8 := (H7'.out).set1 (by first | omega | (simp; done) | (simp; omega)) (by simp) 6 (.int .i64 (mom now))
  simp only [List.setIfInBounds_toArray, List.set_cons_zero, List.set_cons_succ] at H8
  clear H7'
  generalize (w7).setCell ⟨w.heap.size + 1, 6, none⟩ (.int .i64 (mom now)) = w8 at *
  obtain ⟨q0_0, q0_1, q0_2, q0_3, q0_4, q0_5, q0_6, q0_7⟩ := (H8).b0.cells8; have qf0 := (H8).b0.free; obtain ⟨q1_0, q1_1, q1_2, q1_3, q1_4, q1_5, q1_6, q1_7⟩ := (H8).tl.b0.cells8; have qf1 := (H8).tl.b0.free; obtain ⟨q2_0, q2_1, q2_2⟩ := (H8).tl.tl.b0.cells3; have qf2 := (H8).tl.tl.b0.free
  have H8' := Lib.hid H8.2
  clear H8
  go_wp2
  refine bodyPost_ret (v := .agg #[.int .u32 la, .int .i64 2, .string lc, .int .i64 (max lu (untilV lead now want lk)), .int .i64 lk, .int .i64 lt, .int .i64 (mom now), .int .i64 lv]) (by simp [results, Try.results18, go_sem, q0_0, q0_1, q0_2, q0_3, q0_4, q0_5, q0_6, q0_7]) rfl ⟨rfl, ?_⟩
  repeat (refine Below.setCell ?_ (by first | omega | (simp; done) | (simp; omega)) _)
  exact H8'.out

end Go.Proofs.Ytgpfdchokpelfaa
