/- What is known of an address once it was promised. -/
import Derived.Test.YtgpfdchokpelfaaLeb
import Derived.Test.YtgpfdchokpelfaaLaw2
namespace Go.Proofs.Ytgpfdchokpelfaa
open Go.ChangeShapes Go.WideShapes Go.ChangeAt Go.RowKit
set_option linter.unusedVariables false

theorem lease_ex (id lead guard la lb : Int) (lc client : ByteArray) (lu lk lt lz lv now want : Int) : ∃ U K T V : Int,
    (∀ w, Calls Try.prog 17 #[.agg #[.int .i64 id, .int .i64 lead, .int .i64 guard], .agg #[.int .u32 la, .int .i64 lb, .string lc, .int .i64 lu, .int .i64 lk, .int .i64 lt, .int .i64 lz, .int .i64 lv], .string client, .int .i64 now, .int .i64 want] w fun e w' => e = .returned (.agg #[.int .u32 la, .int .i64 2, .string client, .int .i64 U, .int .i64 K, .int .i64 T, .int .i64 (mom now), .int .i64 V]) ∧ Below w.heap.size w w') ∧
    (∀ w, Calls Try.prog 18 #[.agg #[.int .i64 id, .int .i64 lead, .int .i64 guard], .agg #[.int .u32 la, .int .i64 lb, .string lc, .int .i64 lu, .int .i64 lk, .int .i64 lt, .int .i64 lz, .int .i64 lv], .string client, .int .i64 now, .int .i64 want] w fun e w' => e = .returned (.agg #[.int .u32 la, .int .i64 2, .string client, .int .i64 U, .int .i64 K, .int .i64 T, .int .i64 (mom now), .int .i64 V]) ∧ Below w.heap.size w w') ∧
    ((lb = 2 ∧ lc = client ∧ U = max lu (untilV lead now want lk) ∧ K = lk ∧ T = lt) ∨ (¬ (lb = 2 ∧ lc = client) ∧ U = untilV lead now want 0)) := by
  by_cases h1 : lb = 2
  · subst h1
    by_cases h2 : lc = client
    · subst h2
      exact ⟨_, _, _, _, fun w => lea_same id lead guard la lc lu lk lt lz lv now want w, fun w => rlea_same id lead guard la lc lu lk lt lz lv now want w, .inl ⟨rfl, rfl, rfl, rfl, rfl⟩⟩
    · by_cases h3 : 2 = ownV id
      · exact ⟨_, _, _, _, fun w => lea_new11 id lead guard la lc client lu lk lt lz lv now want h2 h3 w, fun w => rlea_new11 id lead guard la lc client lu lk lt lz lv now want h2 h3 w, .inr ⟨fun h => h2 h.2, rfl⟩⟩
      · exact ⟨_, _, _, _, fun w => lea_new10 id lead guard la lc client lu lk lt lz lv now want h2 h3 w, fun w => rlea_new10 id lead guard la lc client lu lk lt lz lv now want h2 h3 w, .inr ⟨fun h => h2 h.2, rfl⟩⟩
  · by_cases h3 : lb = ownV id
    · exact ⟨_, _, _, _, fun w => lea_new01 id lead guard la lb lc client lu lk lt lz lv now want h1 h3 w, fun w => rlea_new01 id lead guard la lb lc client lu lk lt lz lv now want h1 h3 w, .inr ⟨fun h => h1 h.1, rfl⟩⟩
    · exact ⟨_, _, _, _, fun w => lea_new00 id lead guard la lb lc client lu lk lt lz lv now want h1 h3 w, fun w => rlea_new00 id lead guard la lb lc client lu lk lt lz lv now want h1 h3 w, .inr ⟨fun h => h1 h.1, rfl⟩⟩

set_option maxRecDepth 100000 in
set_option maxHeartbeats 1000000 in
theorem walk_GrantLeases (a0_0 : Int) (a0_1 : Int) (a0_2 : Int) (a1_0 : Int) (a1_1 : Int) (a1_2 : ByteArray) (a1_3 : Int) (a1_4 : Int) (a1_5 : Int) (a1_6 : Int) (a1_7 : Int) (a2_0 : ByteArray) (a2_1 : Int) (a2_2 : Int) (W : World) (w0_0 : (Lit.int .i64 a0_0).wf = true) (w0_1 : (Lit.int .i64 a0_1).wf = true) (w0_2 : (Lit.int .i64 a0_2).wf = true) (w1_0 : (Lit.int .u32 a1_0).wf = true) (w1_1 : (Lit.int .i64 a1_1).wf = true) (w1_2 : a1_2.size ≤ maxLen) (w1_3 : (Lit.int .i64 a1_3).wf = true) (w1_4 : (Lit.int .i64 a1_4).wf = true) (w1_5 : (Lit.int .i64 a1_5).wf = true) (w1_6 : (Lit.int .i64 a1_6).wf = true) (w1_7 : (Lit.int .i64 a1_7).wf = true) (w2_0 : a2_0.size ≤ maxLen) (w2_1 : (Lit.int .i64 a2_1).wf = true) (w2_2 : (Lit.int .i64 a2_2).wf = true) :
    Calls Try.prog 7 #[.agg #[.int .i64 a0_0, .int .i64 a0_1, .int .i64 a0_2], .agg #[.int .u32 a1_0, .int .i64 a1_1, .string a1_2, .int .i64 a1_3, .int .i64 a1_4, .int .i64 a1_5, .int .i64 a1_6, .int .i64 a1_7], .agg #[.string a2_0, .int .i64 a2_1, .int .i64 a2_2]] W fun e w' => e = .returned (.bool true) ∧ Below W.heap.size W w' := by
  obtain ⟨U, K, T, V, hl1, hl2, hl3⟩ := lease_ex a0_0 a0_1 a0_2 a1_0 a1_1 a1_2 a2_0 a1_3 a1_4 a1_5 a1_6 a1_7 a2_1 a2_2
  clear hl3
  have HL1 := Lib.hid hl1
  have HL2 := Lib.hid hl2
  clear hl1 hl2
  have HB := Lib.hid ((Blk.new2' W #[.int .i64 a0_0, .int .i64 a0_1, .int .i64 a0_2] 22 (.cells #[.int .u32 a1_0, .int .i64 a1_1, .string a1_2, .int .i64 a1_3, .int .i64 a1_4, .int .i64 a1_5, .int .i64 a1_6, .int .i64 a1_7] 35)).alloc (.cells #[.string a2_0, .int .i64 a2_1, .int .i64 a2_2] 40))
  have HZ := Lib.hid ((Blk.new2 W (.cells #[.int .i64 a0_0, .int .i64 a0_1, .int .i64 a0_2] 22) #[.int .u32 a1_0, .int .i64 a1_1, .string a1_2, .int .i64 a1_3, .int .i64 a1_4, .int .i64 a1_5, .int .i64 a1_6, .int .i64 a1_7] 35).alloc (.cells #[.string a2_0, .int .i64 a2_1, .int .i64 a2_2] 40))
  have HY := Lib.hid (Blk.new3 W (.cells #[.int .i64 a0_0, .int .i64 a0_1, .int .i64 a0_2] 22) (.cells #[.int .u32 a1_0, .int .i64 a1_1, .string a1_2, .int .i64 a1_3, .int .i64 a1_4, .int .i64 a1_5, .int .i64 a1_6, .int .i64 a1_7] 35) #[.string a2_0, .int .i64 a2_1, .int .i64 a2_2] 40)
  have HW := Lib.hid (lowA (lowA (low0 W (.cells #[.int .i64 a0_0, .int .i64 a0_1, .int .i64 a0_2] 22)) (.cells #[.int .u32 a1_0, .int .i64 a1_1, .string a1_2, .int .i64 a1_3, .int .i64 a1_4, .int .i64 a1_5, .int .i64 a1_6, .int .i64 a1_7] 35)) (.cells #[.string a2_0, .int .i64 a2_1, .int .i64 a2_2] 40))
  go_enter Try.func7, Try.ntmps7
  go_wp2_with (first
    | (go_at_call 9; refine (awake_any _).mono ?_; rintro e w1 ⟨rfl, hx⟩; have HB2 := Lib.hid (HB.out.keep hx); have HY2 := Lib.hid (HY.out.keep hx); have HZ2 := Lib.hid (HZ.out.keep hx); have Hx1 := Lib.hid hx; clear hx; have cb0 := HB2.out.at (i := 0) (v := .int .i64 a0_0) rfl; have cb1 := HB2.out.at (i := 1) (v := .int .i64 a0_1) rfl; have cb2 := HB2.out.at (i := 2) (v := .int .i64 a0_2) rfl)
    | (go_at_call 10; refine (rules_any _ _ _ _).mono ?_; rintro e w2 ⟨rfl, hx⟩; have HY3 := Lib.hid (HY2.out.keep hx); have HZ3 := Lib.hid (HZ2.out.keep hx); have Hx2 := Lib.hid hx; clear hx))
  have hh := (((HeldB.nil (lowA (lowA (low (low HW.out Hx1.out) Hx2.out) (.cells #[.int .i64 a0_0, .int .i64 a0_1, .int .i64 a0_2] 25)) (.cells #[.int .i64 a0_0, .int .i64 a0_1, .int .i64 a0_2] 26))).cons ((HZ3.out.alloc (.cells #[.int .i64 a0_0, .int .i64 a0_1, .int .i64 a0_2] 25)).alloc (.cells #[.int .i64 a0_0, .int .i64 a0_1, .int .i64 a0_2] 26))).cons ((HY3.out.alloc (.cells #[.int .i64 a0_0, .int .i64 a0_1, .int .i64 a0_2] 25)).alloc (.cells #[.int .i64 a0_0, .int .i64 a0_1, .int .i64 a0_2] 26))).cons (Blk.new2' w2 #[.int .i64 a0_0, .int .i64 a0_1, .int .i64 a0_2] 25 (.cells #[.int .i64 a0_0, .int .i64 a0_1, .int .i64 a0_2] 26)) |>.cons (Blk.new2 w2 (.cells #[.int .i64 a0_0, .int .i64 a0_1, .int .i64 a0_2] 25) #[.int .i64 a0_0, .int .i64 a0_1, .int .i64 a0_2] 26)
  have HH0 := Lib.hid hh
  clear hh HB HB2 HY HY2 HY3 HZ HZ2 HZ3 HW Hx1 Hx2 cb0 cb1 cb2
  generalize ((w2.alloc (.cells #[.int .i64 a0_0, .int .i64 a0_1, .int .i64 a0_2] 25)).alloc (.cells #[.int .i64 a0_0, .int .i64 a0_1, .int .i64 a0_2] 26)) = w3 at *
  generalize w2.heap.size + 1 = g4 at *
  generalize w2.heap.size = g3 at *
  generalize W.heap.size + 1 + 1 = g2 at *
  generalize W.heap.size + 1 = g1 at *
  refine wp_region_seq (S := HeldB W [(g4, #[.int .i64 a0_0, .int .i64 a0_1, .int .i64 a0_2], 26), (g3, #[.int .i64 a0_0, .int .i64 a0_1, .int .i64 a0_2], 25), (g2, #[.string a2_0, .int .i64 a2_1, .int .i64 a2_2], 40), (g1, #[.int .u32 a1_0, .int .i64 a1_1, .string a1_2, .int .i64 a1_3, .int .i64 a1_4, .int .i64 a1_5, .int .i64 a1_6, .int .i64 a1_7], 35)]) 40 (by kernel_rfl) (by kernel_rfl) HH0.out.drew ?_
  simp only [List.take_succ_cons, List.take_zero, List.drop_succ_cons, List.drop_zero]
  refine wpHeld_val (v := ?vgl0) (by rfl) ?ygl0 ?rgl0
  case ygl0 => (intro wS hSw; go_simp; try (with_reducible rfl))
  try simp only [Act.put, List.setIfInBounds_toArray, List.set_cons_zero, List.set_cons_succ]
  refine wpHeld_val (v := ?vgl1) (by rfl) ?ygl1 ?rgl1
  case ygl1 => (intro wS hSw; go_simp; try (with_reducible rfl))
  try simp only [Act.put, List.setIfInBounds_toArray, List.set_cons_zero, List.set_cons_succ]
  refine wpHeld_val (v := ?vgl2) (by rfl) ?ygl2 ?rgl2
  case ygl2 => (intro wS hSw; obtain ⟨q0_0, q0_1, q0_2⟩ := (hSw).b0.cells3; obtain ⟨q1_0, q1_1, q1_2⟩ := (hSw).tl.b0.cells3; obtain ⟨q2_0, q2_1, q2_2⟩ := (hSw).tl.tl.b0.cells3; obtain ⟨q3_0, q3_1, q3_2, q3_3, q3_4, q3_5, q3_6, q3_7⟩ := (hSw).tl.tl.tl.b0.cells8; go_simp; try (with_reducible rfl))
  try simp only [Act.put, List.setIfInBounds_toArray, List.set_cons_zero, List.set_cons_succ]
  refine wpHeld_val (v := ?vgl3) (by rfl) ?ygl3 ?rgl3
  case ygl3 => (intro wS hSw; obtain ⟨q0_0, q0_1, q0_2⟩ := (hSw).b0.cells3; obtain ⟨q1_0, q1_1, q1_2⟩ := (hSw).tl.b0.cells3; obtain ⟨q2_0, q2_1, q2_2⟩ := (hSw).tl.tl.b0.cells3; obtain ⟨q3_0, q3_1, q3_2, q3_3, q3_4, q3_5, q3_6, q3_7⟩ := (hSw).tl.tl.tl.b0.cells8; go_simp; try (with_reducible rfl))
  try simp only [Act.put, List.setIfInBounds_toArray, List.set_cons_zero, List.set_cons_succ]
  refine wpHeld_val (v := ?vgl4) (by rfl) ?ygl4 ?rgl4
  case ygl4 => (intro wS hSw; go_simp; try (with_reducible rfl))
  try simp only [Act.put, List.setIfInBounds_toArray, List.set_cons_zero, List.set_cons_succ]
  refine wpHeld_val (v := ?vgl5) (by rfl) ?ygl5 ?rgl5
  case ygl5 => (intro wS hSw; obtain ⟨q0_0, q0_1, q0_2⟩ := (hSw).b0.cells3; obtain ⟨q1_0, q1_1, q1_2⟩ := (hSw).tl.b0.cells3; obtain ⟨q2_0, q2_1, q2_2⟩ := (hSw).tl.tl.b0.cells3; obtain ⟨q3_0, q3_1, q3_2, q3_3, q3_4, q3_5, q3_6, q3_7⟩ := (hSw).tl.tl.tl.b0.cells8; go_simp; try (with_reducible rfl))
  try simp only [Act.put, List.setIfInBounds_toArray, List.set_cons_zero, List.set_cons_succ]
  refine wpHeld_val (v := ?vgl6) (by rfl) ?ygl6 ?rgl6
  case ygl6 => (intro wS hSw; go_simp; try (with_reducible rfl))
  try simp only [Act.put, List.setIfInBounds_toArray, List.set_cons_zero, List.set_cons_succ]
  refine wpHeld_val (v := ?vgl7) (by rfl) ?ygl7 ?rgl7
  case ygl7 => (intro wS hSw; obtain ⟨q0_0, q0_1, q0_2⟩ := (hSw).b0.cells3; obtain ⟨q1_0, q1_1, q1_2⟩ := (hSw).tl.b0.cells3; obtain ⟨q2_0, q2_1, q2_2⟩ := (hSw).tl.tl.b0.cells3; obtain ⟨q3_0, q3_1, q3_2, q3_3, q3_4, q3_5, q3_6, q3_7⟩ := (hSw).tl.tl.tl.b0.cells8; go_simp; try (with_reducible rfl))
  try simp only [Act.put, List.setIfInBounds_toArray, List.set_cons_zero, List.set_cons_succ]
  refine wpHeld_val (v := ?vgl8) (by rfl) ?ygl8 ?rgl8
  case ygl8 => (intro wS hSw; go_simp; try (with_reducible rfl))
  try simp only [Act.put, List.setIfInBounds_toArray, List.set_cons_zero, List.set_cons_succ]
  refine wpHeld_val (v := ?vgl9) (by rfl) ?ygl9 ?rgl9
  case ygl9 => (intro wS hSw; obtain ⟨q0_0, q0_1, q0_2⟩ := (hSw).b0.cells3; obtain ⟨q1_0, q1_1, q1_2⟩ := (hSw).tl.b0.cells3; obtain ⟨q2_0, q2_1, q2_2⟩ := (hSw).tl.tl.b0.cells3; obtain ⟨q3_0, q3_1, q3_2, q3_3, q3_4, q3_5, q3_6, q3_7⟩ := (hSw).tl.tl.tl.b0.cells8; go_simp; try (with_reducible rfl))
  try simp only [Act.put, List.setIfInBounds_toArray, List.set_cons_zero, List.set_cons_succ]
  refine wpHeld_run (.agg #[.int .u32 a1_0, .int .i64 2, .string a2_0, .int .i64 U, .int .i64 K, .int .i64 T, .int .i64 (mom a2_1), .int .i64 V]) (by rfl) ?cgl10 ?rgl10
  case cgl10 => (intro wS hSw K hK; go_simp; (go_at_call 17; with_reducible refine (HL1.out _).mono ?_; rintro e w5 ⟨rfl, hx⟩); go_wp2_with fail; exact hK.out _ (hSw.keep hx))
  try simp only [Act.put, List.setIfInBounds_toArray, List.set_cons_zero, List.set_cons_succ]
  refine wpHeld_val (v := ?vgl11) (by rfl) ?ygl11 ?rgl11
  case ygl11 => (intro wS hSw; obtain ⟨q0_0, q0_1, q0_2⟩ := (hSw).b0.cells3; obtain ⟨q1_0, q1_1, q1_2⟩ := (hSw).tl.b0.cells3; obtain ⟨q2_0, q2_1, q2_2⟩ := (hSw).tl.tl.b0.cells3; obtain ⟨q3_0, q3_1, q3_2, q3_3, q3_4, q3_5, q3_6, q3_7⟩ := (hSw).tl.tl.tl.b0.cells8; go_simp; try (with_reducible rfl))
  try simp only [Act.put, List.setIfInBounds_toArray, List.set_cons_zero, List.set_cons_succ]
  refine wpHeld_val (v := ?vgl12) (by rfl) ?ygl12 ?rgl12
  case ygl12 => (intro wS hSw; obtain ⟨q0_0, q0_1, q0_2⟩ := (hSw).b0.cells3; obtain ⟨q1_0, q1_1, q1_2⟩ := (hSw).tl.b0.cells3; obtain ⟨q2_0, q2_1, q2_2⟩ := (hSw).tl.tl.b0.cells3; obtain ⟨q3_0, q3_1, q3_2, q3_3, q3_4, q3_5, q3_6, q3_7⟩ := (hSw).tl.tl.tl.b0.cells8; go_simp; try (with_reducible rfl))
  try simp only [Act.put, List.setIfInBounds_toArray, List.set_cons_zero, List.set_cons_succ]
  refine wpHeld_val (v := ?vgl13) (by rfl) ?ygl13 ?rgl13
  case ygl13 => (intro wS hSw; go_simp; try (with_reducible rfl))
  try simp only [Act.put, List.setIfInBounds_toArray, List.set_cons_zero, List.set_cons_succ]
  refine wpHeld_val (v := ?vgl14) (by rfl) ?ygl14 ?rgl14
  case ygl14 => (intro wS hSw; obtain ⟨q0_0, q0_1, q0_2⟩ := (hSw).b0.cells3; obtain ⟨q1_0, q1_1, q1_2⟩ := (hSw).tl.b0.cells3; obtain ⟨q2_0, q2_1, q2_2⟩ := (hSw).tl.tl.b0.cells3; obtain ⟨q3_0, q3_1, q3_2, q3_3, q3_4, q3_5, q3_6, q3_7⟩ := (hSw).tl.tl.tl.b0.cells8; go_simp; try (with_reducible rfl))
  try simp only [Act.put, List.setIfInBounds_toArray, List.set_cons_zero, List.set_cons_succ]
  refine wpHeld_val (v := ?vgl15) (by rfl) ?ygl15 ?rgl15
  case ygl15 => (intro wS hSw; go_simp; try (with_reducible rfl))
  try simp only [Act.put, List.setIfInBounds_toArray, List.set_cons_zero, List.set_cons_succ]
  refine wpHeld_val (v := ?vgl16) (by rfl) ?ygl16 ?rgl16
  case ygl16 => (intro wS hSw; obtain ⟨q0_0, q0_1, q0_2⟩ := (hSw).b0.cells3; obtain ⟨q1_0, q1_1, q1_2⟩ := (hSw).tl.b0.cells3; obtain ⟨q2_0, q2_1, q2_2⟩ := (hSw).tl.tl.b0.cells3; obtain ⟨q3_0, q3_1, q3_2, q3_3, q3_4, q3_5, q3_6, q3_7⟩ := (hSw).tl.tl.tl.b0.cells8; go_simp; try (with_reducible rfl))
  try simp only [Act.put, List.setIfInBounds_toArray, List.set_cons_zero, List.set_cons_succ]
  refine wpHeld_val (v := ?vgl17) (by rfl) ?ygl17 ?rgl17
  case ygl17 => (intro wS hSw; go_simp; try (with_reducible rfl))
  try simp only [Act.put, List.setIfInBounds_toArray, List.set_cons_zero, List.set_cons_succ]
  refine wpHeld_val (v := ?vgl18) (by rfl) ?ygl18 ?rgl18
  case ygl18 => (intro wS hSw; obtain ⟨q0_0, q0_1, q0_2⟩ := (hSw).b0.cells3; obtain ⟨q1_0, q1_1, q1_2⟩ := (hSw).tl.b0.cells3; obtain ⟨q2_0, q2_1, q2_2⟩ := (hSw).tl.tl.b0.cells3; obtain ⟨q3_0, q3_1, q3_2, q3_3, q3_4, q3_5, q3_6, q3_7⟩ := (hSw).tl.tl.tl.b0.cells8; go_simp; try (with_reducible rfl))
  try simp only [Act.put, List.setIfInBounds_toArray, List.set_cons_zero, List.set_cons_succ]
  refine wpHeld_run (.agg #[.int .u32 a1_0, .int .i64 2, .string a2_0, .int .i64 U, .int .i64 K, .int .i64 T, .int .i64 (mom a2_1), .int .i64 V]) (by rfl) ?cgl19 ?rgl19
  case cgl19 => (intro wS hSw K hK; go_simp; (go_at_call 18; with_reducible refine (HL2.out _).mono ?_; rintro e w5 ⟨rfl, hx⟩); go_wp2_with fail; exact hK.out _ (hSw.keep hx))
  try simp only [Act.put, List.setIfInBounds_toArray, List.set_cons_zero, List.set_cons_succ]
  refine wpHeld_val (v := .bool true) (by rfl) ?ygl20 ?rgl20
  case ygl20 => (intro wS hSw; go_simp; try (first | with_reducible rfl | (split <;> omega)))
  try simp only [Act.put, List.setIfInBounds_toArray, List.set_cons_zero, List.set_cons_succ]
  refine wpHeld_val (v := ?vgl21) (by rfl) ?ygl21 ?rgl21
  case ygl21 => (intro wS hSw; go_simp; try (with_reducible rfl))
  try simp only [Act.put, List.setIfInBounds_toArray, List.set_cons_zero, List.set_cons_succ]
  refine wpHeld_val (v := ?vgl22) (by rfl) ?ygl22 ?rgl22
  case ygl22 => (intro wS hSw; go_simp; try (with_reducible rfl))
  try simp only [Act.put, List.setIfInBounds_toArray, List.set_cons_zero, List.set_cons_succ]
  refine wpHeld_val (v := ?vgl23) (by rfl) ?ygl23 ?rgl23
  case ygl23 => (intro wS hSw; obtain ⟨q0_0, q0_1, q0_2⟩ := (hSw).b0.cells3; obtain ⟨q1_0, q1_1, q1_2⟩ := (hSw).tl.b0.cells3; obtain ⟨q2_0, q2_1, q2_2⟩ := (hSw).tl.tl.b0.cells3; obtain ⟨q3_0, q3_1, q3_2, q3_3, q3_4, q3_5, q3_6, q3_7⟩ := (hSw).tl.tl.tl.b0.cells8; go_simp; try (with_reducible rfl))
  try simp only [Act.put, List.setIfInBounds_toArray, List.set_cons_zero, List.set_cons_succ]
  refine wpHeld_val (v := ?vgl24) (by rfl) ?ygl24 ?rgl24
  case ygl24 => (intro wS hSw; obtain ⟨q0_0, q0_1, q0_2⟩ := (hSw).b0.cells3; obtain ⟨q1_0, q1_1, q1_2⟩ := (hSw).tl.b0.cells3; obtain ⟨q2_0, q2_1, q2_2⟩ := (hSw).tl.tl.b0.cells3; obtain ⟨q3_0, q3_1, q3_2, q3_3, q3_4, q3_5, q3_6, q3_7⟩ := (hSw).tl.tl.tl.b0.cells8; go_simp; try (with_reducible rfl))
  try simp only [Act.put, List.setIfInBounds_toArray, List.set_cons_zero, List.set_cons_succ]
  refine wpHeld_val (v := ?vgl25) (by rfl) ?ygl25 ?rgl25
  case ygl25 => (intro wS hSw; go_simp; try (with_reducible rfl))
  try simp only [Act.put, List.setIfInBounds_toArray, List.set_cons_zero, List.set_cons_succ]
  refine wpHeld_val (v := ?vgl26) (by rfl) ?ygl26 ?rgl26
  case ygl26 => (intro wS hSw; obtain ⟨q0_0, q0_1, q0_2⟩ := (hSw).b0.cells3; obtain ⟨q1_0, q1_1, q1_2⟩ := (hSw).tl.b0.cells3; obtain ⟨q2_0, q2_1, q2_2⟩ := (hSw).tl.tl.b0.cells3; obtain ⟨q3_0, q3_1, q3_2, q3_3, q3_4, q3_5, q3_6, q3_7⟩ := (hSw).tl.tl.tl.b0.cells8; go_simp; try (with_reducible rfl))
  try simp only [Act.put, List.setIfInBounds_toArray, List.set_cons_zero, List.set_cons_succ]
  refine wpHeld_val (v := ?vgl27) (by rfl) ?ygl27 ?rgl27
  case ygl27 => (intro wS hSw; go_simp; try (with_reducible rfl))
  try simp only [Act.put, List.setIfInBounds_toArray, List.set_cons_zero, List.set_cons_succ]
  refine wpHeld_val (v := ?vgl28) (by rfl) ?ygl28 ?rgl28
  case ygl28 => (intro wS hSw; obtain ⟨q0_0, q0_1, q0_2⟩ := (hSw).b0.cells3; obtain ⟨q1_0, q1_1, q1_2⟩ := (hSw).tl.b0.cells3; obtain ⟨q2_0, q2_1, q2_2⟩ := (hSw).tl.tl.b0.cells3; obtain ⟨q3_0, q3_1, q3_2, q3_3, q3_4, q3_5, q3_6, q3_7⟩ := (hSw).tl.tl.tl.b0.cells8; go_simp; try (with_reducible rfl))
  try simp only [Act.put, List.setIfInBounds_toArray, List.set_cons_zero, List.set_cons_succ]
  refine wpHeld_run (.int .i64 (potV a1_3 a2_1 a2_2)) (by rfl) ?cgl29 ?rgl29
  case cgl29 => (intro wS hSw K hK; go_simp; (go_at_call 19; with_reducible refine (pot_any _ _ _ _ _ _ _ _ _ _ _ _ _ _).mono ?_; rintro e w5 ⟨rfl, hx⟩); go_wp2_with fail; exact hK.out _ (hSw.keep hx))
  try simp only [Act.put, List.setIfInBounds_toArray, List.set_cons_zero, List.set_cons_succ]
  refine wpHeld_val (v := ?vgl30) (by rfl) ?ygl30 ?rgl30
  case ygl30 => (intro wS hSw; obtain ⟨q0_0, q0_1, q0_2⟩ := (hSw).b0.cells3; obtain ⟨q1_0, q1_1, q1_2⟩ := (hSw).tl.b0.cells3; obtain ⟨q2_0, q2_1, q2_2⟩ := (hSw).tl.tl.b0.cells3; obtain ⟨q3_0, q3_1, q3_2, q3_3, q3_4, q3_5, q3_6, q3_7⟩ := (hSw).tl.tl.tl.b0.cells8; go_simp; try (with_reducible rfl))
  try simp only [Act.put, List.setIfInBounds_toArray, List.set_cons_zero, List.set_cons_succ]
  refine wpHeld_val (v := ?vgl31) (by rfl) ?ygl31 ?rgl31
  case ygl31 => (intro wS hSw; obtain ⟨q0_0, q0_1, q0_2⟩ := (hSw).b0.cells3; obtain ⟨q1_0, q1_1, q1_2⟩ := (hSw).tl.b0.cells3; obtain ⟨q2_0, q2_1, q2_2⟩ := (hSw).tl.tl.b0.cells3; obtain ⟨q3_0, q3_1, q3_2, q3_3, q3_4, q3_5, q3_6, q3_7⟩ := (hSw).tl.tl.tl.b0.cells8; go_simp; try (with_reducible rfl))
  try simp only [Act.put, List.setIfInBounds_toArray, List.set_cons_zero, List.set_cons_succ]
  refine wpHeld_val (v := ?vgl32) (by rfl) ?ygl32 ?rgl32
  case ygl32 => (intro wS hSw; go_simp; try (with_reducible rfl))
  try simp only [Act.put, List.setIfInBounds_toArray, List.set_cons_zero, List.set_cons_succ]
  refine wpHeld_val (v := ?vgl33) (by rfl) ?ygl33 ?rgl33
  case ygl33 => (intro wS hSw; obtain ⟨q0_0, q0_1, q0_2⟩ := (hSw).b0.cells3; obtain ⟨q1_0, q1_1, q1_2⟩ := (hSw).tl.b0.cells3; obtain ⟨q2_0, q2_1, q2_2⟩ := (hSw).tl.tl.b0.cells3; obtain ⟨q3_0, q3_1, q3_2, q3_3, q3_4, q3_5, q3_6, q3_7⟩ := (hSw).tl.tl.tl.b0.cells8; go_simp; try (with_reducible rfl))
  try simp only [Act.put, List.setIfInBounds_toArray, List.set_cons_zero, List.set_cons_succ]
  refine wpHeld_val (v := ?vgl34) (by rfl) ?ygl34 ?rgl34
  case ygl34 => (intro wS hSw; go_simp; try (with_reducible rfl))
  try simp only [Act.put, List.setIfInBounds_toArray, List.set_cons_zero, List.set_cons_succ]
  refine wpHeld_val (v := ?vgl35) (by rfl) ?ygl35 ?rgl35
  case ygl35 => (intro wS hSw; obtain ⟨q0_0, q0_1, q0_2⟩ := (hSw).b0.cells3; obtain ⟨q1_0, q1_1, q1_2⟩ := (hSw).tl.b0.cells3; obtain ⟨q2_0, q2_1, q2_2⟩ := (hSw).tl.tl.b0.cells3; obtain ⟨q3_0, q3_1, q3_2, q3_3, q3_4, q3_5, q3_6, q3_7⟩ := (hSw).tl.tl.tl.b0.cells8; go_simp; try (with_reducible rfl))
  try simp only [Act.put, List.setIfInBounds_toArray, List.set_cons_zero, List.set_cons_succ]
  refine wpHeld_run (.int .i64 (potV a1_3 a2_1 a2_2)) (by rfl) ?cgl36 ?rgl36
  case cgl36 => (intro wS hSw K hK; go_simp; (go_at_call 20; with_reducible refine (rpot_any _ _ _ _ _ _ _ _ _ _ _ _ _ _).mono ?_; rintro e w5 ⟨rfl, hx⟩); go_wp2_with fail; exact hK.out _ (hSw.keep hx))
  try simp only [Act.put, List.setIfInBounds_toArray, List.set_cons_zero, List.set_cons_succ]
  refine wpHeld_val (v := .bool true) (by rfl) ?ygl37 ?rgl37
  case ygl37 => (intro wS hSw; go_simp; try (first | with_reducible rfl | (split <;> omega)))
  try simp only [Act.put, List.setIfInBounds_toArray, List.set_cons_zero, List.set_cons_succ]
  refine wpHeld_val (v := ?vgl38) (by rfl) ?ygl38 ?rgl38
  case ygl38 => (intro wS hSw; go_simp; try (with_reducible rfl))
  try simp only [Act.put, List.setIfInBounds_toArray, List.set_cons_zero, List.set_cons_succ]
  refine wpHeld_val (v := ?vgl39) (by rfl) ?ygl39 ?rgl39
  case ygl39 => (intro wS hSw; go_simp; try (with_reducible rfl))
  try simp only [Act.put, List.setIfInBounds_toArray, List.set_cons_zero, List.set_cons_succ]
  refine wpHeld_nil ?_
  intro wS hSw
  go_wp2
  go_ret
  exact ⟨rfl, hSw.2⟩

end Go.Proofs.Ytgpfdchokpelfaa
