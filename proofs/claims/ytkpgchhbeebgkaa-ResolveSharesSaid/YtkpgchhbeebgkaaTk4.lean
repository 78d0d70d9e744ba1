/- What is known of an address behind what is told of it, by the program: bound as 4. -/
import Derived.Test.YtkpgchhbeebgkaaTkd
namespace Go.Proofs.Ytkpgchhbeebgkaa
open Go.ChangeShapes Go.WideShapes Go.ChangeAt Go.RowKit
set_option linter.unusedVariables false
set_option linter.unusedSimpArgs false

set_option maxRecDepth 100000 in
set_option maxHeartbeats 40000000 in
theorem take_fair4 (la lb : Int) (lc : ByteArray) (lu lk lt lz lv : Int) (m0 m1 m2 m3 m4 ma : Int) (mc : ByteArray) (mp mt : Int) (mo : Bool) (st now gd : Int) (w : World) (hf : FairP la lb lc lu lk lt lz lv m0 ma 4 mc mp mt) : Calls Try.prog 9 #[.agg #[.int .u32 la, .int .i64 lb, .string lc, .int .i64 lu, .int .i64 lk, .int .i64 lt, .int .i64 lz, .int .i64 lv], .agg #[.int .i64 m0, .int .i64 m1, .int .i64 m2, .int .i64 m3, .int .i64 m4, .int .u32 ma, .int .i64 4, .string mc, .int .i64 mp, .int .i64 mt, .bool mo], .int .i64 st, .int .i64 now, .int .i64 gd] w fun e w' => e = .returned (.tuple #[(takeV la ⟨lb, lc, lu, lk, lt, lz, lv⟩ m0 ma 4 mc mp mt st now gd).1.val la, .bool (takeV la ⟨lb, lc, lu, lk, lt, lz, lv⟩ m0 ma 4 mc mp mt st now gd).2]) ∧ Below w.heap.size w w' := by
  have H0 := Lib.hid ((((HeldB.nil (lowA (lowA (low0 w (.cells #[.int .u32 la, .int .i64 lb, .string lc, .int .i64 lu, .int .i64 lk, .int .i64 lt, .int .i64 lz, .int .i64 lv] 25)) (.cells #[.int .i64 m0, .int .i64 m1, .int .i64 m2, .int .i64 m3, .int .i64 m4, .int .u32 ma, .int .i64 4, .string mc, .int .i64 mp, .int .i64 mt, .bool mo] 27)) (.cells #[.int .u32 0, .int .i64 0, .string { data := #[] }, .int .i64 0, .int .i64 0, .int .i64 0, .int .i64 0, .int .i64 0] 25))).cons ((Blk.new2' w #[.int .u32 la, .int .i64 lb, .string lc, .int .i64 lu, .int .i64 lk, .int .i64 lt, .int .i64 lz, .int .i64 lv] 25 (.cells #[.int .i64 m0, .int .i64 m1, .int .i64 m2, .int .i64 m3, .int .i64 m4, .int .u32 ma, .int .i64 4, .string mc, .int .i64 mp, .int .i64 mt, .bool mo] 27)).alloc (.cells #[.int .u32 0, .int .i64 0, .string { data := #[] }, .int .i64 0, .int .i64 0, .int .i64 0, .int .i64 0, .int .i64 0] 25))).cons ((Blk.new2 w (.cells #[.int .u32 la, .int .i64 lb, .string lc, .int .i64 lu, .int .i64 lk, .int .i64 lt, .int .i64 lz, .int .i64 lv] 25) #[.int .i64 m0, .int .i64 m1, .int .i64 m2, .int .i64 m3, .int .i64 m4, .int .u32 ma, .int .i64 4, .string mc, .int .i64 mp, .int .i64 mt, .bool mo] 27).alloc (.cells #[.int .u32 0, .int .i64 0, .string { data := #[] }, .int .i64 0, .int .i64 0, .int .i64 0, .int .i64 0, .int .i64 0] 25))).cons (Blk.new3 w (.cells #[.int .u32 la, .int .i64 lb, .string lc, .int .i64 lu, .int .i64 lk, .int .i64 lt, .int .i64 lz, .int .i64 lv] 25) (.cells #[.int .i64 m0, .int .i64 m1, .int .i64 m2, .int .i64 m3, .int .i64 m4, .int .u32 ma, .int .i64 4, .string mc, .int .i64 mp, .int .i64 mt, .bool mo] 27) #[.int .u32 0, .int .i64 0, .string { data := #[] }, .int .i64 0, .int .i64 0, .int .i64 0, .int .i64 0, .int .i64 0] 25))
  have HF := Lib.hid (show decide (FairP la lb lc lu lk lt lz lv m0 ma 4 mc mp mt) = true from decide_eq_true hf)
  rw [show takeV la ⟨lb, lc, lu, lk, lt, lz, lv⟩ m0 ma 4 mc mp mt st now gd = takeF ⟨lb, lc, lu, lk, lt, lz, lv⟩ 4 mc mp mt (recV st) (clkPast now lu 0) gd from if_pos hf]
  have HMA := Lib.hid (show ma = la from hf.2.2.1)
  clear hf
  generalize hrr : recV st = r
  generalize hoo : clkPast now lu 0 = o
  have HR := Lib.hid hrr
  have HO := Lib.hid hoo
  clear hrr hoo
  generalize hvv : verV 4 mp mt = vv
  have HVV := Lib.hid hvv
  clear hvv
  go_enter Try.func9, Try.ntmps9
  go_upto_region 4 with (first | (go_at_call 13; ((with_reducible refine (fair_any _ _ _ _ _ _ _ _ _ _ _ _ _ _ _ _ _ _ _ _).mono ?_)); rintro e w1 ⟨he, hx⟩; rw [HF.out] at he; subst he; have H1 := Lib.hid (H0.out.keep hx); clear hx; obtain ⟨p0_0, p0_1, p0_2, p0_3, p0_4, p0_5, p0_6, p0_7⟩ := (H1.out).b0.cells8; have pf0 := (H1.out).b0.free; obtain ⟨p1_0, p1_1, p1_2, p1_3, p1_4, p1_5, p1_6, p1_7, p1_8, p1_9, p1_10⟩ := (H1.out).tl.b0.cells11; have pf1 := (H1.out).tl.b0.free; obtain ⟨p2_0, p2_1, p2_2, p2_3, p2_4, p2_5, p2_6, p2_7⟩ := (H1.out).tl.tl.b0.cells8; have pf2 := (H1.out).tl.tl.b0.free) | (go_at_call 14; (with_reducible refine (past_any _ _ _ _).mono ?_); rintro e w1 ⟨he, rfl⟩; rw [HO.out] at he; subst he))
  go_cut [2, 13] (fun y x wx => x = .bool r ∧ y = .int .i64 st ∧ wx = w1)
  case first =>
    go_wp2
    all_goals
      go_meet
      exact ⟨congrArg Value.bool (by rw [← HR.out]; first | exact recV_bool | exact recV_bool.symm | (unfold recV; simp_all; done) | (rename_i k1 k2; first | exact recV_8 k1 k2 | exact (recV_8 k1 k2).symm)), by simp_all, rfl⟩
  case rest =>
    obtain ⟨rfl, rfl, rfl⟩ := hcut
    clear p0_0 p0_1 p0_2 p0_3 p0_4 p0_5 p0_6 p0_7 p1_0 p1_1 p1_2 p1_3 p1_4 p1_5 p1_6 p1_7 p1_8 p1_9 p1_10 p2_0 p2_1 p2_2 p2_3 p2_4 p2_5 p2_6 p2_7 pf0 pf1 pf2
    go_upto_region 5 with (fail)
    refine wp_region_seq (S := HeldB w [((w.heap.size + 1 + 1), #[.int .u32 0, .int .i64 0, .string { data := #[] }, .int .i64 0, .int .i64 0, .int .i64 0, .int .i64 0, .int .i64 0], 25), ((w.heap.size + 1), #[.int .i64 m0, .int .i64 m1, .int .i64 m2, .int .i64 m3, .int .i64 m4, .int .u32 ma, .int .i64 4, .string mc, .int .i64 mp, .int .i64 mt, .bool mo], 27), (w.heap.size, #[.int .u32 la, .int .i64 lb, .string lc, .int .i64 lu, .int .i64 lk, .int .i64 lt, .int .i64 lz, .int .i64 lv], 25)]) 8 (by kernel_rfl) (by kernel_rfl) H1.out.drew ?_
    simp only [List.take_succ_cons, List.take_zero, List.drop_succ_cons, List.drop_zero]
    refine wpHeld_val (v := ?vr50) (by rfl) ?yr50 ?rr50
    case yr50 => (intro wS hSw; go_simp; try (with_reducible rfl))
    try simp only [Act.put, List.setIfInBounds_toArray, List.set_cons_zero, List.set_cons_succ]
    refine wpHeld_val (v := ?vr51) (by rfl) ?yr51 ?rr51
    case yr51 => (intro wS hSw; obtain ⟨q0_0, q0_1, q0_2, q0_3, q0_4, q0_5, q0_6, q0_7⟩ := (hSw).b0.cells8; obtain ⟨q1_0, q1_1, q1_2, q1_3, q1_4, q1_5, q1_6, q1_7, q1_8, q1_9, q1_10⟩ := (hSw).tl.b0.cells11; obtain ⟨q2_0, q2_1, q2_2, q2_3, q2_4, q2_5, q2_6, q2_7⟩ := (hSw).tl.tl.b0.cells8; go_simp; try (with_reducible rfl))
    try simp only [Act.put, List.setIfInBounds_toArray, List.set_cons_zero, List.set_cons_succ]
    refine wpHeld_val (v := ?vr52) (by rfl) ?yr52 ?rr52
    case yr52 => (intro wS hSw; go_simp; try (with_reducible rfl))
    try simp only [Act.put, List.setIfInBounds_toArray, List.set_cons_zero, List.set_cons_succ]
    refine wpHeld_val (v := ?vr53) (by rfl) ?yr53 ?rr53
    case yr53 => (intro wS hSw; go_simp; try (with_reducible rfl))
    try simp only [Act.put, List.setIfInBounds_toArray, List.set_cons_zero, List.set_cons_succ]
    refine wpHeld_val (v := ?vr54) (by rfl) ?yr54 ?rr54
    case yr54 => (intro wS hSw; obtain ⟨q0_0, q0_1, q0_2, q0_3, q0_4, q0_5, q0_6, q0_7⟩ := (hSw).b0.cells8; obtain ⟨q1_0, q1_1, q1_2, q1_3, q1_4, q1_5, q1_6, q1_7, q1_8, q1_9, q1_10⟩ := (hSw).tl.b0.cells11; obtain ⟨q2_0, q2_1, q2_2, q2_3, q2_4, q2_5, q2_6, q2_7⟩ := (hSw).tl.tl.b0.cells8; go_simp; try (with_reducible rfl))
    try simp only [Act.put, List.setIfInBounds_toArray, List.set_cons_zero, List.set_cons_succ]
    refine wpHeld_val (v := ?vr55) (by rfl) ?yr55 ?rr55
    case yr55 => (intro wS hSw; go_simp; try (with_reducible rfl))
    try simp only [Act.put, List.setIfInBounds_toArray, List.set_cons_zero, List.set_cons_succ]
    refine wpHeld_val (v := ?vr56) (by rfl) ?yr56 ?rr56
    case yr56 => (intro wS hSw; go_simp; try (with_reducible rfl))
    try simp only [Act.put, List.setIfInBounds_toArray, List.set_cons_zero, List.set_cons_succ]
    refine wpHeld_val (v := ?vr57) (by rfl) ?yr57 ?rr57
    case yr57 => (intro wS hSw; go_simp; try (with_reducible rfl))
    try simp only [Act.put, List.setIfInBounds_toArray, List.set_cons_zero, List.set_cons_succ]
    refine wpHeld_nil ?_
    intro wS hSw
    have H2 := Lib.hid hSw
    clear hSw H1
    generalize hbusy : (lb == 2) = busy at *
    generalize hlost : (lb == 5) = lost at *
    have HBU := Lib.hid hbusy
    have HLO := Lib.hid hlost
    clear hbusy hlost
    go_upto_region 6 with (fail)
    go_cut [16, 17] (fun x y wx => x = .bool (busy && (!o || !r)) ∧ y = .bool (decide (vv < lv)) ∧ HeldB w [((w.heap.size + 1 + 1), #[.int .u32 0, .int .i64 0, .string { data := #[] }, .int .i64 0, .int .i64 0, .int .i64 0, .int .i64 0, .int .i64 0], 25), ((w.heap.size + 1), #[.int .i64 m0, .int .i64 m1, .int .i64 m2, .int .i64 m3, .int .i64 m4, .int .u32 ma, .int .i64 4, .string mc, .int .i64 mp, .int .i64 mt, .bool mo], 27), (w.heap.size, #[.int .u32 la, .int .i64 lb, .string lc, .int .i64 lu, .int .i64 lk, .int .i64 lt, .int .i64 lz, .int .i64 lv], 25)] wx)
    case first =>
      cases busy
      · skip
        refine wp_region_seq (S := HeldB w [((w.heap.size + 1 + 1), #[.int .u32 0, .int .i64 0, .string { data := #[] }, .int .i64 0, .int .i64 0, .int .i64 0, .int .i64 0, .int .i64 0], 25), ((w.heap.size + 1), #[.int .i64 m0, .int .i64 m1, .int .i64 m2, .int .i64 m3, .int .i64 m4, .int .u32 ma, .int .i64 4, .string mc, .int .i64 mp, .int .i64 mt, .bool mo], 27), (w.heap.size, #[.int .u32 la, .int .i64 lb, .string lc, .int .i64 lu, .int .i64 lk, .int .i64 lt, .int .i64 lz, .int .i64 lv], 25)]) 16 (by kernel_rfl) (by kernel_rfl) H2.out.drew ?_
        simp only [List.take_succ_cons, List.take_zero, List.drop_succ_cons, List.drop_zero]
        refine wpHeld_val (v := ?vra0) (by rfl) ?yra0 ?rra0
        case yra0 => (intro wS hSw; go_simp; try (with_reducible rfl))
        try simp only [Act.put, List.setIfInBounds_toArray, List.set_cons_zero, List.set_cons_succ]
        refine wpHeld_val (v := ?vra1) (by rfl) ?yra1 ?rra1
        case yra1 => (intro wS hSw; go_simp; try (with_reducible rfl))
        try simp only [Act.put, List.setIfInBounds_toArray, List.set_cons_zero, List.set_cons_succ]
        refine wpHeld_skip (by rfl) ?_
        try simp only [Act.put, List.setIfInBounds_toArray, List.set_cons_zero, List.set_cons_succ]
        refine wpHeld_skip (by rfl) ?_
        try simp only [Act.put, List.setIfInBounds_toArray, List.set_cons_zero, List.set_cons_succ]
        refine wpHeld_skip (by rfl) ?_
        try simp only [Act.put, List.setIfInBounds_toArray, List.set_cons_zero, List.set_cons_succ]
        refine wpHeld_skip (by rfl) ?_
        try simp only [Act.put, List.setIfInBounds_toArray, List.set_cons_zero, List.set_cons_succ]
        refine wpHeld_skip (by rfl) ?_
        try simp only [Act.put, List.setIfInBounds_toArray, List.set_cons_zero, List.set_cons_succ]
        refine wpHeld_skip (by rfl) ?_
        try simp only [Act.put, List.setIfInBounds_toArray, List.set_cons_zero, List.set_cons_succ]
        refine wpHeld_val (v := ?vra8) (by rfl) ?yra8 ?rra8
        case yra8 => (intro wS hSw; go_simp; try (with_reducible rfl))
        try simp only [Act.put, List.setIfInBounds_toArray, List.set_cons_zero, List.set_cons_succ]
        refine wpHeld_val (v := ?vra9) (by rfl) ?yra9 ?rra9
        case yra9 => (intro wS hSw; obtain ⟨q0_0, q0_1, q0_2, q0_3, q0_4, q0_5, q0_6, q0_7⟩ := (hSw).b0.cells8; obtain ⟨q1_0, q1_1, q1_2, q1_3, q1_4, q1_5, q1_6, q1_7, q1_8, q1_9, q1_10⟩ := (hSw).tl.b0.cells11; obtain ⟨q2_0, q2_1, q2_2, q2_3, q2_4, q2_5, q2_6, q2_7⟩ := (hSw).tl.tl.b0.cells8; go_simp; try (with_reducible rfl))
        try simp only [Act.put, List.setIfInBounds_toArray, List.set_cons_zero, List.set_cons_succ]
        refine wpHeld_run (.int .i64 vv) (by rfl) ?cra10 ?rra10
        case cra10 => (intro wS hSw K hK; go_simp; (go_at_call 15; (with_reducible refine (ver_any _ _ _ _ _ _ _ _ _ _ _ _).mono ?_); rintro e w5 ⟨he, hx⟩; rw [HVV.out] at he; subst he); go_wp2_with fail; exact hK.out _ (hSw.keep hx))
        try simp only [Act.put, List.setIfInBounds_toArray, List.set_cons_zero, List.set_cons_succ]
        refine wpHeld_val (v := ?vra11) (by rfl) ?yra11 ?rra11
        case yra11 => (intro wS hSw; go_simp; try (with_reducible rfl))
        try simp only [Act.put, List.setIfInBounds_toArray, List.set_cons_zero, List.set_cons_succ]
        refine wpHeld_val (v := ?vra12) (by rfl) ?yra12 ?rra12
        case yra12 => (intro wS hSw; obtain ⟨q0_0, q0_1, q0_2, q0_3, q0_4, q0_5, q0_6, q0_7⟩ := (hSw).b0.cells8; obtain ⟨q1_0, q1_1, q1_2, q1_3, q1_4, q1_5, q1_6, q1_7, q1_8, q1_9, q1_10⟩ := (hSw).tl.b0.cells11; obtain ⟨q2_0, q2_1, q2_2, q2_3, q2_4, q2_5, q2_6, q2_7⟩ := (hSw).tl.tl.b0.cells8; go_simp; try (with_reducible rfl))
        try simp only [Act.put, List.setIfInBounds_toArray, List.set_cons_zero, List.set_cons_succ]
        refine wpHeld_val (v := ?vra13) (by rfl) ?yra13 ?rra13
        case yra13 => (intro wS hSw; go_simp; try (with_reducible rfl))
        try simp only [Act.put, List.setIfInBounds_toArray, List.set_cons_zero, List.set_cons_succ]
        refine wpHeld_val (v := ?vra14) (by rfl) ?yra14 ?rra14
        case yra14 => (intro wS hSw; go_simp; try (with_reducible rfl))
        try simp only [Act.put, List.setIfInBounds_toArray, List.set_cons_zero, List.set_cons_succ]
        refine wpHeld_val (v := ?vra15) (by rfl) ?yra15 ?rra15
        case yra15 => (intro wS hSw; go_simp; try (with_reducible rfl))
        try simp only [Act.put, List.setIfInBounds_toArray, List.set_cons_zero, List.set_cons_succ]
        refine wpHeld_nil ?_
        intro wS hSw
        go_wp2_with fail
        go_meet
        exact ⟨rfl, rfl, hSw⟩
      · cases o
        · skip
          refine wp_region_seq (S := HeldB w [((w.heap.size + 1 + 1), #[.int .u32 0, .int .i64 0, .string { data := #[] }, .int .i64 0, .int .i64 0, .int .i64 0, .int .i64 0, .int .i64 0], 25), ((w.heap.size + 1), #[.int .i64 m0, .int .i64 m1, .int .i64 m2, .int .i64 m3, .int .i64 m4, .int .u32 ma, .int .i64 4, .string mc, .int .i64 mp, .int .i64 mt, .bool mo], 27), (w.heap.size, #[.int .u32 la, .int .i64 lb, .string lc, .int .i64 lu, .int .i64 lk, .int .i64 lt, .int .i64 lz, .int .i64 lv], 25)]) 16 (by kernel_rfl) (by kernel_rfl) H2.out.drew ?_
          simp only [List.take_succ_cons, List.take_zero, List.drop_succ_cons, List.drop_zero]
          refine wpHeld_val (v := ?vrb0) (by rfl) ?yrb0 ?rrb0
          case yrb0 => (intro wS hSw; go_simp; try (with_reducible rfl))
          try simp only [Act.put, List.setIfInBounds_toArray, List.set_cons_zero, List.set_cons_succ]
          refine wpHeld_val (v := ?vrb1) (by rfl) ?yrb1 ?rrb1
          case yrb1 => (intro wS hSw; go_simp; try (with_reducible rfl))
          try simp only [Act.put, List.setIfInBounds_toArray, List.set_cons_zero, List.set_cons_succ]
          refine wpHeld_val (v := ?vrb2) (by rfl) ?yrb2 ?rrb2
          case yrb2 => (intro wS hSw; go_simp; try (with_reducible rfl))
          try simp only [Act.put, List.setIfInBounds_toArray, List.set_cons_zero, List.set_cons_succ]
          refine wpHeld_val (v := ?vrb3) (by rfl) ?yrb3 ?rrb3
          case yrb3 => (intro wS hSw; go_simp; try (with_reducible rfl))
          try simp only [Act.put, List.setIfInBounds_toArray, List.set_cons_zero, List.set_cons_succ]
          refine wpHeld_val (v := ?vrb4) (by rfl) ?yrb4 ?rrb4
          case yrb4 => (intro wS hSw; go_simp; try (with_reducible rfl))
          try simp only [Act.put, List.setIfInBounds_toArray, List.set_cons_zero, List.set_cons_succ]
          refine wpHeld_skip (by rfl) ?_
          try simp only [Act.put, List.setIfInBounds_toArray, List.set_cons_zero, List.set_cons_succ]
          refine wpHeld_skip (by rfl) ?_
          try simp only [Act.put, List.setIfInBounds_toArray, List.set_cons_zero, List.set_cons_succ]
          refine wpHeld_val (v := ?vrb7) (by rfl) ?yrb7 ?rrb7
          case yrb7 => (intro wS hSw; go_simp; try (with_reducible rfl))
          try simp only [Act.put, List.setIfInBounds_toArray, List.set_cons_zero, List.set_cons_succ]
          refine wpHeld_val (v := ?vrb8) (by rfl) ?yrb8 ?rrb8
          case yrb8 => (intro wS hSw; go_simp; try (with_reducible rfl))
          try simp only [Act.put, List.setIfInBounds_toArray, List.set_cons_zero, List.set_cons_succ]
          refine wpHeld_val (v := ?vrb9) (by rfl) ?yrb9 ?rrb9
          case yrb9 => (intro wS hSw; obtain ⟨q0_0, q0_1, q0_2, q0_3, q0_4, q0_5, q0_6, q0_7⟩ := (hSw).b0.cells8; obtain ⟨q1_0, q1_1, q1_2, q1_3, q1_4, q1_5, q1_6, q1_7, q1_8, q1_9, q1_10⟩ := (hSw).tl.b0.cells11; obtain ⟨q2_0, q2_1, q2_2, q2_3, q2_4, q2_5, q2_6, q2_7⟩ := (hSw).tl.tl.b0.cells8; go_simp; try (with_reducible rfl))
          try simp only [Act.put, List.setIfInBounds_toArray, List.set_cons_zero, List.set_cons_succ]
          refine wpHeld_run (.int .i64 vv) (by rfl) ?crb10 ?rrb10
          case crb10 => (intro wS hSw K hK; go_simp; (go_at_call 15; (with_reducible refine (ver_any _ _ _ _ _ _ _ _ _ _ _ _).mono ?_); rintro e w5 ⟨he, hx⟩; rw [HVV.out] at he; subst he); go_wp2_with fail; exact hK.out _ (hSw.keep hx))
          try simp only [Act.put, List.setIfInBounds_toArray, List.set_cons_zero, List.set_cons_succ]
          refine wpHeld_val (v := ?vrb11) (by rfl) ?yrb11 ?rrb11
          case yrb11 => (intro wS hSw; go_simp; try (with_reducible rfl))
          try simp only [Act.put, List.setIfInBounds_toArray, List.set_cons_zero, List.set_cons_succ]
          refine wpHeld_val (v := ?vrb12) (by rfl) ?yrb12 ?rrb12
          case yrb12 => (intro wS hSw; obtain ⟨q0_0, q0_1, q0_2, q0_3, q0_4, q0_5, q0_6, q0_7⟩ := (hSw).b0.cells8; obtain ⟨q1_0, q1_1, q1_2, q1_3, q1_4, q1_5, q1_6, q1_7, q1_8, q1_9, q1_10⟩ := (hSw).tl.b0.cells11; obtain ⟨q2_0, q2_1, q2_2, q2_3, q2_4, q2_5, q2_6, q2_7⟩ := (hSw).tl.tl.b0.cells8; go_simp; try (with_reducible rfl))
          try simp only [Act.put, List.setIfInBounds_toArray, List.set_cons_zero, List.set_cons_succ]
          refine wpHeld_val (v := ?vrb13) (by rfl) ?yrb13 ?rrb13
          case yrb13 => (intro wS hSw; go_simp; try (with_reducible rfl))
          try simp only [Act.put, List.setIfInBounds_toArray, List.set_cons_zero, List.set_cons_succ]
          refine wpHeld_val (v := ?vrb14) (by rfl) ?yrb14 ?rrb14
          case yrb14 => (intro wS hSw; go_simp; try (with_reducible rfl))
          try simp only [Act.put, List.setIfInBounds_toArray, List.set_cons_zero, List.set_cons_succ]
          refine wpHeld_val (v := ?vrb15) (by rfl) ?yrb15 ?rrb15
          case yrb15 => (intro wS hSw; go_simp; try (with_reducible rfl))
          try simp only [Act.put, List.setIfInBounds_toArray, List.set_cons_zero, List.set_cons_succ]
          refine wpHeld_nil ?_
          intro wS hSw
          go_wp2_with fail
          go_meet
          exact ⟨rfl, rfl, hSw⟩
        · skip
          refine wp_region_seq (S := HeldB w [((w.heap.size + 1 + 1), #[.int .u32 0, .int .i64 0, .string { data := #[] }, .int .i64 0, .int .i64 0, .int .i64 0, .int .i64 0, .int .i64 0], 25), ((w.heap.size + 1), #[.int .i64 m0, .int .i64 m1, .int .i64 m2, .int .i64 m3, .int .i64 m4, .int .u32 ma, .int .i64 4, .string mc, .int .i64 mp, .int .i64 mt, .bool mo], 27), (w.heap.size, #[.int .u32 la, .int .i64 lb, .string lc, .int .i64 lu, .int .i64 lk, .int .i64 lt, .int .i64 lz, .int .i64 lv], 25)]) 16 (by kernel_rfl) (by kernel_rfl) H2.out.drew ?_
          simp only [List.take_succ_cons, List.take_zero, List.drop_succ_cons, List.drop_zero]
          refine wpHeld_val (v := ?vrc0) (by rfl) ?yrc0 ?rrc0
          case yrc0 => (intro wS hSw; go_simp; try (with_reducible rfl))
          try simp only [Act.put, List.setIfInBounds_toArray, List.set_cons_zero, List.set_cons_succ]
          refine wpHeld_val (v := ?vrc1) (by rfl) ?yrc1 ?rrc1
          case yrc1 => (intro wS hSw; go_simp; try (with_reducible rfl))
          try simp only [Act.put, List.setIfInBounds_toArray, List.set_cons_zero, List.set_cons_succ]
          refine wpHeld_val (v := ?vrc2) (by rfl) ?yrc2 ?rrc2
          case yrc2 => (intro wS hSw; go_simp; try (with_reducible rfl))
          try simp only [Act.put, List.setIfInBounds_toArray, List.set_cons_zero, List.set_cons_succ]
          refine wpHeld_val (v := ?vrc3) (by rfl) ?yrc3 ?rrc3
          case yrc3 => (intro wS hSw; go_simp; try (with_reducible rfl))
          try simp only [Act.put, List.setIfInBounds_toArray, List.set_cons_zero, List.set_cons_succ]
          refine wpHeld_val (v := ?vrc4) (by rfl) ?yrc4 ?rrc4
          case yrc4 => (intro wS hSw; go_simp; try (with_reducible rfl))
          try simp only [Act.put, List.setIfInBounds_toArray, List.set_cons_zero, List.set_cons_succ]
          refine wpHeld_val (v := ?vrc5) (by rfl) ?yrc5 ?rrc5
          case yrc5 => (intro wS hSw; go_simp; try (with_reducible rfl))
          try simp only [Act.put, List.setIfInBounds_toArray, List.set_cons_zero, List.set_cons_succ]
          refine wpHeld_val (v := ?vrc6) (by rfl) ?yrc6 ?rrc6
          case yrc6 => (intro wS hSw; go_simp; try (with_reducible rfl))
          try simp only [Act.put, List.setIfInBounds_toArray, List.set_cons_zero, List.set_cons_succ]
          refine wpHeld_val (v := ?vrc7) (by rfl) ?yrc7 ?rrc7
          case yrc7 => (intro wS hSw; go_simp; try (with_reducible rfl))
          try simp only [Act.put, List.setIfInBounds_toArray, List.set_cons_zero, List.set_cons_succ]
          refine wpHeld_val (v := ?vrc8) (by rfl) ?yrc8 ?rrc8
          case yrc8 => (intro wS hSw; go_simp; try (with_reducible rfl))
          try simp only [Act.put, List.setIfInBounds_toArray, List.set_cons_zero, List.set_cons_succ]
          refine wpHeld_val (v := ?vrc9) (by rfl) ?yrc9 ?rrc9
          case yrc9 => (intro wS hSw; obtain ⟨q0_0, q0_1, q0_2, q0_3, q0_4, q0_5, q0_6, q0_7⟩ := (hSw).b0.cells8; obtain ⟨q1_0, q1_1, q1_2, q1_3, q1_4, q1_5, q1_6, q1_7, q1_8, q1_9, q1_10⟩ := (hSw).tl.b0.cells11; obtain ⟨q2_0, q2_1, q2_2, q2_3, q2_4, q2_5, q2_6, q2_7⟩ := (hSw).tl.tl.b0.cells8; go_simp; try (with_reducible rfl))
          try simp only [Act.put, List.setIfInBounds_toArray, List.set_cons_zero, List.set_cons_succ]
          refine wpHeld_run (.int .i64 vv) (by rfl) ?crc10 ?rrc10
          case crc10 => (intro wS hSw K hK; go_simp; (go_at_call 15; (with_reducible refine (ver_any _ _ _ _ _ _ _ _ _ _ _ _).mono ?_); rintro e w5 ⟨he, hx⟩; rw [HVV.out] at he; subst he); go_wp2_with fail; exact hK.out _ (hSw.keep hx))
          try simp only [Act.put, List.setIfInBounds_toArray, List.set_cons_zero, List.set_cons_succ]
          refine wpHeld_val (v := ?vrc11) (by rfl) ?yrc11 ?rrc11
          case yrc11 => (intro wS hSw; go_simp; try (with_reducible rfl))
          try simp only [Act.put, List.setIfInBounds_toArray, List.set_cons_zero, List.set_cons_succ]
          refine wpHeld_val (v := ?vrc12) (by rfl) ?yrc12 ?rrc12
          case yrc12 => (intro wS hSw; obtain ⟨q0_0, q0_1, q0_2, q0_3, q0_4, q0_5, q0_6, q0_7⟩ := (hSw).b0.cells8; obtain ⟨q1_0, q1_1, q1_2, q1_3, q1_4, q1_5, q1_6, q1_7, q1_8, q1_9, q1_10⟩ := (hSw).tl.b0.cells11; obtain ⟨q2_0, q2_1, q2_2, q2_3, q2_4, q2_5, q2_6, q2_7⟩ := (hSw).tl.tl.b0.cells8; go_simp; try (with_reducible rfl))
          try simp only [Act.put, List.setIfInBounds_toArray, List.set_cons_zero, List.set_cons_succ]
          refine wpHeld_val (v := ?vrc13) (by rfl) ?yrc13 ?rrc13
          case yrc13 => (intro wS hSw; go_simp; try (with_reducible rfl))
          try simp only [Act.put, List.setIfInBounds_toArray, List.set_cons_zero, List.set_cons_succ]
          refine wpHeld_val (v := ?vrc14) (by rfl) ?yrc14 ?rrc14
          case yrc14 => (intro wS hSw; go_simp; try (with_reducible rfl))
          try simp only [Act.put, List.setIfInBounds_toArray, List.set_cons_zero, List.set_cons_succ]
          refine wpHeld_val (v := ?vrc15) (by rfl) ?yrc15 ?rrc15
          case yrc15 => (intro wS hSw; go_simp; try (with_reducible rfl))
          try simp only [Act.put, List.setIfInBounds_toArray, List.set_cons_zero, List.set_cons_succ]
          refine wpHeld_nil ?_
          intro wS hSw
          go_wp2_with fail
          go_meet
          exact ⟨rfl, rfl, hSw⟩
    case rest =>
      obtain ⟨rfl, rfl, hh⟩ := hcut
      have H3 := Lib.hid hh
      clear hh H2
      obtain ⟨p0_0, p0_1, p0_2, p0_3, p0_4, p0_5, p0_6, p0_7⟩ := (H3.out).b0.cells8; have pf0 := (H3.out).b0.free; obtain ⟨p1_0, p1_1, p1_2, p1_3, p1_4, p1_5, p1_6, p1_7, p1_8, p1_9, p1_10⟩ := (H3.out).tl.b0.cells11; have pf1 := (H3.out).tl.b0.free; obtain ⟨p2_0, p2_1, p2_2, p2_3, p2_4, p2_5, p2_6, p2_7⟩ := (H3.out).tl.tl.b0.cells8; have pf2 := (H3.out).tl.tl.b0.free
      go_upto_region 7 with (fail)
      go_cut [18] (fun x wx => x = .bool (busy && (lc.toList == mc.toList)) ∧ wx = wc)
      case first =>
        cases busy
        all_goals
          go_wp2
          go_meet
          exact ⟨rfl, rfl⟩
      case rest =>
        obtain ⟨rfl, rfl⟩ := hcut
        clear p0_0 p0_1 p0_2 p0_3 p0_4 p0_5 p0_6 p0_7 p1_0 p1_1 p1_2 p1_3 p1_4 p1_5 p1_6 p1_7 p1_8 p1_9 p1_10 p2_0 p2_1 p2_2 p2_3 p2_4 p2_5 p2_6 p2_7 pf0 pf1 pf2
        generalize hou : (busy && (lc.toList == mc.toList)) = ours at *
        have HOU := Lib.hid hou
        clear hou
        go_upto_region 8 with (fail)
        refine wp_region_seq (S := HeldB w [((w.heap.size + 1 + 1), #[.int .u32 0, .int .i64 0, .string { data := #[] }, .int .i64 0, .int .i64 0, .int .i64 0, .int .i64 0, .int .i64 0], 25), ((w.heap.size + 1), #[.int .i64 m0, .int .i64 m1, .int .i64 m2, .int .i64 m3, .int .i64 m4, .int .u32 ma, .int .i64 4, .string mc, .int .i64 mp, .int .i64 mt, .bool mo], 27), (w.heap.size, #[.int .u32 la, .int .i64 lb, .string lc, .int .i64 lu, .int .i64 lk, .int .i64 lt, .int .i64 lz, .int .i64 lv], 25)]) 10 (by kernel_rfl) (by kernel_rfl) H3.out.drew ?_
        simp only [List.take_succ_cons, List.take_zero, List.drop_succ_cons, List.drop_zero]
        refine wpHeld_val (v := ?vr80) (by rfl) ?yr80 ?rr80
        case yr80 => (intro wS hSw; go_simp; try (with_reducible rfl))
        try simp only [Act.put, List.setIfInBounds_toArray, List.set_cons_zero, List.set_cons_succ]
        refine wpHeld_val (v := ?vr81) (by rfl) ?yr81 ?rr81
        case yr81 => (intro wS hSw; obtain ⟨q0_0, q0_1, q0_2, q0_3, q0_4, q0_5, q0_6, q0_7⟩ := (hSw).b0.cells8; obtain ⟨q1_0, q1_1, q1_2, q1_3, q1_4, q1_5, q1_6, q1_7, q1_8, q1_9, q1_10⟩ := (hSw).tl.b0.cells11; obtain ⟨q2_0, q2_1, q2_2, q2_3, q2_4, q2_5, q2_6, q2_7⟩ := (hSw).tl.tl.b0.cells8; go_simp; try (with_reducible rfl))
        try simp only [Act.put, List.setIfInBounds_toArray, List.set_cons_zero, List.set_cons_succ]
        refine wpHeld_run (.int .i64 (clkAdd mp 0)) (by rfl) ?cr82 ?rr82
        case cr82 => (intro wS hSw K hK; go_simp; (go_at_call 16; with_reducible refine (add_any _ _ _).mono ?_; rintro e w5 ⟨rfl, rfl⟩); go_wp2_with fail; exact hK.out _ (hSw))
        try simp only [Act.put, List.setIfInBounds_toArray, List.set_cons_zero, List.set_cons_succ]
        refine wpHeld_val (v := ?vr83) (by rfl) ?yr83 ?rr83
        case yr83 => (intro wS hSw; go_simp; try (with_reducible rfl))
        try simp only [Act.put, List.setIfInBounds_toArray, List.set_cons_zero, List.set_cons_succ]
        refine wpHeld_val (v := ?vr84) (by rfl) ?yr84 ?rr84
        case yr84 => (intro wS hSw; obtain ⟨q0_0, q0_1, q0_2, q0_3, q0_4, q0_5, q0_6, q0_7⟩ := (hSw).b0.cells8; obtain ⟨q1_0, q1_1, q1_2, q1_3, q1_4, q1_5, q1_6, q1_7, q1_8, q1_9, q1_10⟩ := (hSw).tl.b0.cells11; obtain ⟨q2_0, q2_1, q2_2, q2_3, q2_4, q2_5, q2_6, q2_7⟩ := (hSw).tl.tl.b0.cells8; go_simp; try (with_reducible rfl))
        try simp only [Act.put, List.setIfInBounds_toArray, List.set_cons_zero, List.set_cons_succ]
        refine wpHeld_val (v := ?vr85) (by rfl) ?yr85 ?rr85
        case yr85 => (intro wS hSw; obtain ⟨q0_0, q0_1, q0_2, q0_3, q0_4, q0_5, q0_6, q0_7⟩ := (hSw).b0.cells8; obtain ⟨q1_0, q1_1, q1_2, q1_3, q1_4, q1_5, q1_6, q1_7, q1_8, q1_9, q1_10⟩ := (hSw).tl.b0.cells11; obtain ⟨q2_0, q2_1, q2_2, q2_3, q2_4, q2_5, q2_6, q2_7⟩ := (hSw).tl.tl.b0.cells8; go_simp; try (with_reducible rfl))
        try simp only [Act.put, List.setIfInBounds_toArray, List.set_cons_zero, List.set_cons_succ]
        refine wpHeld_run (.int .i64 vv) (by rfl) ?cr86 ?rr86
        case cr86 => (intro wS hSw K hK; go_simp; (go_at_call 15; (with_reducible refine (ver_any _ _ _ _ _ _ _ _ _ _ _ _).mono ?_); rintro e w5 ⟨he, hx⟩; rw [HVV.out] at he; subst he); go_wp2_with fail; exact hK.out _ (hSw.keep hx))
        try simp only [Act.put, List.setIfInBounds_toArray, List.set_cons_zero, List.set_cons_succ]
        refine wpHeld_val (v := .int .i64 (max lv vv)) (by rfl) ?yr87 ?rr87
        case yr87 => (intro wS hSw; go_simp; try (first | with_reducible rfl | (split <;> omega)))
        try simp only [Act.put, List.setIfInBounds_toArray, List.set_cons_zero, List.set_cons_succ]
        refine wpHeld_val (v := ?vr88) (by rfl) ?yr88 ?rr88
        case yr88 => (intro wS hSw; go_simp; try (with_reducible rfl))
        try simp only [Act.put, List.setIfInBounds_toArray, List.set_cons_zero, List.set_cons_succ]
        refine wpHeld_val (v := ?vr89) (by rfl) ?yr89 ?rr89
        case yr89 => (intro wS hSw; go_simp; try (with_reducible rfl))
        try simp only [Act.put, List.setIfInBounds_toArray, List.set_cons_zero, List.set_cons_succ]
        refine wpHeld_nil ?_
        intro wS hSw
        obtain ⟨p0_0, p0_1, p0_2, p0_3, p0_4, p0_5, p0_6, p0_7⟩ := (hSw).b0.cells8; have pf0 := (hSw).b0.free; obtain ⟨p1_0, p1_1, p1_2, p1_3, p1_4, p1_5, p1_6, p1_7, p1_8, p1_9, p1_10⟩ := (hSw).tl.b0.cells11; have pf1 := (hSw).tl.b0.free; obtain ⟨p2_0, p2_1, p2_2, p2_3, p2_4, p2_5, p2_6, p2_7⟩ := (hSw).tl.tl.b0.cells8; have pf2 := (hSw).tl.tl.b0.free
        have H4 := Lib.hid (hSw.new #[.int .u32 la, .int .i64 lb, .string lc, .int .i64 lu, .int .i64 lk, .int .i64 lt, .int .i64 lz, .int .i64 lv] 25)
        have hg : w.heap.size + 1 + 1 < wS.heap.size := hSw.b0.lt
        clear hSw H3
        go_upto_region 10 with (fail)
        clear p0_0 p0_1 p0_2 p0_3 p0_4 p0_5 p0_6 p0_7 p1_0 p1_1 p1_2 p1_3 p1_4 p1_5 p1_6 p1_7 p1_8 p1_9 p1_10 p2_0 p2_1 p2_2 p2_3 p2_4 p2_5 p2_6 p2_7 pf0 pf1 pf2
        generalize wS.alloc (.cells #[.int .u32 la, .int .i64 lb, .string lc, .int .i64 lu, .int .i64 lk, .int .i64 lt, .int .i64 lz, .int .i64 lv] 25) = w4 at *
        generalize wS.heap.size = g4 at *
        obtain ⟨p0_0, p0_1, p0_2, p0_3, p0_4, p0_5, p0_6, p0_7⟩ := (H4.out).b0.cells8; have pf0 := (H4.out).b0.free; obtain ⟨p1_0, p1_1, p1_2, p1_3, p1_4, p1_5, p1_6, p1_7⟩ := (H4.out).tl.b0.cells8; have pf1 := (H4.out).tl.b0.free; obtain ⟨p2_0, p2_1, p2_2, p2_3, p2_4, p2_5, p2_6, p2_7, p2_8, p2_9, p2_10⟩ := (H4.out).tl.tl.b0.cells11; have pf2 := (H4.out).tl.tl.b0.free; obtain ⟨p3_0, p3_1, p3_2, p3_3, p3_4, p3_5, p3_6, p3_7⟩ := (H4.out).tl.tl.tl.b0.cells8; have pf3 := (H4.out).tl.tl.tl.b0.free
        go_upto_region 11 with (fail)
        obtain rfl : mp = vv := HVV.out
        by_cases hz : lz = 0
        · have kz : (lz == 0) = true := beq_iff_eq.2 hz
          by_cases h5 : lb = 5
          · obtain rfl : lost = true := by rw [← HLO.out]; exact beq_iff_eq.2 h5
            obtain rfl : busy = false := by rw [← HBU.out]; exact beq_eq_false_iff_ne.2 (by omega)
            obtain rfl : ours = false := HOU.out.symm
            have HV := Lib.hid (show takeF (⟨lb, lc, lu, lk, lt, lz, lv⟩ : Lz) 4 mc mp mt r o gd = ((⟨lb, lc, lu, lk, lt, lz, lv⟩ : Lz), true) from by simp [takeF, actV, endV, freeV, bareL, h5, hz])
            clear h5 hz
            go_wp2_with (first | (go_at_call 14; with_reducible refine (past_any _ _ _ _).mono ?_; rintro e w5 ⟨rfl, rfl⟩) | (go_at_call 17; ((with_reducible refine (told_any _ _ _ _ _ _ _ _ _ _ _ _).mono ?_)); rintro e w6 ⟨rfl, hx⟩; have H5 := Lib.hid (H4.out.keep hx); clear hx; simp only [Lz.val] at *; obtain ⟨q0_0, q0_1, q0_2, q0_3, q0_4, q0_5, q0_6, q0_7⟩ := (H5.out).b0.cells8; have qf0 := (H5.out).b0.free; obtain ⟨q1_0, q1_1, q1_2, q1_3, q1_4, q1_5, q1_6, q1_7⟩ := (H5.out).tl.b0.cells8; have qf1 := (H5.out).tl.b0.free; obtain ⟨q2_0, q2_1, q2_2, q2_3, q2_4, q2_5, q2_6, q2_7, q2_8, q2_9, q2_10⟩ := (H5.out).tl.tl.b0.cells11; have qf2 := (H5.out).tl.tl.b0.free; obtain ⟨q3_0, q3_1, q3_2, q3_3, q3_4, q3_5, q3_6, q3_7⟩ := (H5.out).tl.tl.tl.b0.cells8; have qf3 := (H5.out).tl.tl.tl.b0.free))
            all_goals
              skip
              refine ret_by rfl ?_
              apply Exists.intro
              apply And.intro
              focus (simp [results, Try.results9, go_sem, p1_0, p1_1, p1_2, p1_3, p1_4, p1_5, p1_6, p1_7]; exact rfl)
              refine ⟨?_, ?_⟩
              · rw [HV.out]; try rw [HMA.out]
                first | rfl | exact ret_pair (by simp only [Lz.val]; congr <;> omega) rfl
              · repeat (with_reducible refine below_set ?_ (by omega) _)
                exact H4.out.2
          · obtain rfl : lost = false := by rw [← HLO.out]; exact beq_eq_false_iff_ne.2 h5
            by_cases hl : mp < lv
            · have kl : decide (mp < lv) = true := decide_eq_true hl
              have HV := Lib.hid (show takeF (⟨lb, lc, lu, lk, lt, lz, lv⟩ : Lz) 4 mc mp mt r o gd = ((⟨lb, lc, lu, lk, lt, lz, lv⟩ : Lz), false) from by simp [takeF, actV, endV, freeV, bareL, h5, hl, hz])
              clear h5 hl hz
              go_wp2_with (first | (go_at_call 14; with_reducible refine (past_any _ _ _ _).mono ?_; rintro e w5 ⟨rfl, rfl⟩) | (go_at_call 17; ((with_reducible refine (told_any _ _ _ _ _ _ _ _ _ _ _ _).mono ?_)); rintro e w6 ⟨rfl, hx⟩; have H5 := Lib.hid (H4.out.keep hx); clear hx; simp only [Lz.val] at *; obtain ⟨q0_0, q0_1, q0_2, q0_3, q0_4, q0_5, q0_6, q0_7⟩ := (H5.out).b0.cells8; have qf0 := (H5.out).b0.free; obtain ⟨q1_0, q1_1, q1_2, q1_3, q1_4, q1_5, q1_6, q1_7⟩ := (H5.out).tl.b0.cells8; have qf1 := (H5.out).tl.b0.free; obtain ⟨q2_0, q2_1, q2_2, q2_3, q2_4, q2_5, q2_6, q2_7, q2_8, q2_9, q2_10⟩ := (H5.out).tl.tl.b0.cells11; have qf2 := (H5.out).tl.tl.b0.free; obtain ⟨q3_0, q3_1, q3_2, q3_3, q3_4, q3_5, q3_6, q3_7⟩ := (H5.out).tl.tl.tl.b0.cells8; have qf3 := (H5.out).tl.tl.tl.b0.free))
              all_goals
                skip
                refine ret_by rfl ?_
                apply Exists.intro
                apply And.intro
                focus (simp [results, Try.results9, go_sem, p1_0, p1_1, p1_2, p1_3, p1_4, p1_5, p1_6, p1_7]; exact rfl)
                refine ⟨?_, ?_⟩
                · rw [HV.out]; try rw [HMA.out]
                  first | rfl | exact ret_pair (by simp only [Lz.val]; congr <;> omega) rfl
                · repeat (with_reducible refine below_set ?_ (by omega) _)
                  exact H4.out.2
            · have kl : decide (mp < lv) = false := decide_eq_false hl
              have hmx : max lv mp = mp := by omega
              rw [hmx] at *
              clear hmx
              by_cases h2 : lb = 2
              · obtain rfl : busy = true := by rw [← HBU.out]; exact beq_iff_eq.2 h2
                by_cases hc : lc = mc
                · have kc := str_eqb hc
                  obtain rfl : ours = true := by rw [← HOU.out, kc]; rfl
                  have HV := Lib.hid (show takeF (⟨lb, lc, lu, lk, lt, lz, lv⟩ : Lz) 4 mc mp mt r o gd = (⟨4, lc, lu, lk, lt, lz, mp⟩, true) from by simp [takeF, actV, endV, freeV, bareL, h5, hl, h2, hc, hz])
                  clear h5 hl h2 hc hz
                  go_wp2_with (first | (go_at_call 14; with_reducible refine (past_any _ _ _ _).mono ?_; rintro e w5 ⟨rfl, rfl⟩) | (go_at_call 17; ((with_reducible refine (told_any _ _ _ _ _ _ _ _ _ _ _ _).mono ?_)); rintro e w6 ⟨rfl, hx⟩; have H5 := Lib.hid (H4.out.keep hx); clear hx; simp only [Lz.val] at *; obtain ⟨q0_0, q0_1, q0_2, q0_3, q0_4, q0_5, q0_6, q0_7⟩ := (H5.out).b0.cells8; have qf0 := (H5.out).b0.free; obtain ⟨q1_0, q1_1, q1_2, q1_3, q1_4, q1_5, q1_6, q1_7⟩ := (H5.out).tl.b0.cells8; have qf1 := (H5.out).tl.b0.free; obtain ⟨q2_0, q2_1, q2_2, q2_3, q2_4, q2_5, q2_6, q2_7, q2_8, q2_9, q2_10⟩ := (H5.out).tl.tl.b0.cells11; have qf2 := (H5.out).tl.tl.b0.free; obtain ⟨q3_0, q3_1, q3_2, q3_3, q3_4, q3_5, q3_6, q3_7⟩ := (H5.out).tl.tl.tl.b0.cells8; have qf3 := (H5.out).tl.tl.tl.b0.free))
                  all_goals
                    skip
                    refine ret_by rfl ?_
                    apply Exists.intro
                    apply And.intro
                    focus (simp [results, Try.results9, go_sem, p1_0, p1_1, p1_2, p1_3, p1_4, p1_5, p1_6, p1_7]; exact rfl)
                    refine ⟨?_, ?_⟩
                    · rw [HV.out]; try rw [HMA.out]
                      first | rfl | exact ret_pair (by simp only [Lz.val]; congr <;> omega) rfl
                    · repeat (with_reducible refine below_set ?_ (by omega) _)
                      exact H4.out.2
                · have kc := str_ne hc
                  obtain rfl : ours = false := by rw [← HOU.out, kc]; rfl
                  have HV := Lib.hid (show takeF (⟨lb, lc, lu, lk, lt, lz, lv⟩ : Lz) 4 mc mp mt r o gd = ((⟨lb, lc, lu, lk, lt, lz, lv⟩ : Lz), false) from by simp [takeF, actV, endV, freeV, bareL, h5, hl, h2, hc])
                  clear h5 hl h2 hc hz
                  go_wp2_with (first | (go_at_call 14; with_reducible refine (past_any _ _ _ _).mono ?_; rintro e w5 ⟨rfl, rfl⟩) | (go_at_call 17; ((with_reducible refine (told_any _ _ _ _ _ _ _ _ _ _ _ _).mono ?_)); rintro e w6 ⟨rfl, hx⟩; have H5 := Lib.hid (H4.out.keep hx); clear hx; simp only [Lz.val] at *; obtain ⟨q0_0, q0_1, q0_2, q0_3, q0_4, q0_5, q0_6, q0_7⟩ := (H5.out).b0.cells8; have qf0 := (H5.out).b0.free; obtain ⟨q1_0, q1_1, q1_2, q1_3, q1_4, q1_5, q1_6, q1_7⟩ := (H5.out).tl.b0.cells8; have qf1 := (H5.out).tl.b0.free; obtain ⟨q2_0, q2_1, q2_2, q2_3, q2_4, q2_5, q2_6, q2_7, q2_8, q2_9, q2_10⟩ := (H5.out).tl.tl.b0.cells11; have qf2 := (H5.out).tl.tl.b0.free; obtain ⟨q3_0, q3_1, q3_2, q3_3, q3_4, q3_5, q3_6, q3_7⟩ := (H5.out).tl.tl.tl.b0.cells8; have qf3 := (H5.out).tl.tl.tl.b0.free))
                  all_goals
                    skip
                    refine ret_by rfl ?_
                    apply Exists.intro
                    apply And.intro
                    focus (simp [results, Try.results9, go_sem, p1_0, p1_1, p1_2, p1_3, p1_4, p1_5, p1_6, p1_7]; exact rfl)
                    refine ⟨?_, ?_⟩
                    · rw [HV.out]; try rw [HMA.out]
                      first | rfl | exact ret_pair (by simp only [Lz.val]; congr <;> omega) rfl
                    · repeat (with_reducible refine below_set ?_ (by omega) _)
                      exact H4.out.2
              · obtain rfl : busy = false := by rw [← HBU.out]; exact beq_eq_false_iff_ne.2 h2
                obtain rfl : ours = false := HOU.out.symm
                by_cases h3 : lb = 3
                · have k3 : (lb == 3) = true := beq_iff_eq.2 h3
                  by_cases hv : lv = mp
                  · have kv : (lv == mp) = true := beq_iff_eq.2 hv
                    have HV := Lib.hid (show takeF (⟨lb, lc, lu, lk, lt, lz, lv⟩ : Lz) 4 mc mp mt r o gd = ((⟨lb, lc, lu, lk, lt, lz, lv⟩ : Lz), true) from by simp [takeF, actV, endV, freeV, bareL, h5, hl, h2, h3, hv])
                    clear h5 hl h2 h3 hv hz
                    go_wp2_with (first | (go_at_call 14; with_reducible refine (past_any _ _ _ _).mono ?_; rintro e w5 ⟨rfl, rfl⟩) | (go_at_call 17; ((with_reducible refine (told_any _ _ _ _ _ _ _ _ _ _ _ _).mono ?_)); rintro e w6 ⟨rfl, hx⟩; have H5 := Lib.hid (H4.out.keep hx); clear hx; simp only [Lz.val] at *; obtain ⟨q0_0, q0_1, q0_2, q0_3, q0_4, q0_5, q0_6, q0_7⟩ := (H5.out).b0.cells8; have qf0 := (H5.out).b0.free; obtain ⟨q1_0, q1_1, q1_2, q1_3, q1_4, q1_5, q1_6, q1_7⟩ := (H5.out).tl.b0.cells8; have qf1 := (H5.out).tl.b0.free; obtain ⟨q2_0, q2_1, q2_2, q2_3, q2_4, q2_5, q2_6, q2_7, q2_8, q2_9, q2_10⟩ := (H5.out).tl.tl.b0.cells11; have qf2 := (H5.out).tl.tl.b0.free; obtain ⟨q3_0, q3_1, q3_2, q3_3, q3_4, q3_5, q3_6, q3_7⟩ := (H5.out).tl.tl.tl.b0.cells8; have qf3 := (H5.out).tl.tl.tl.b0.free))
                    all_goals
                      skip
                      refine ret_by rfl ?_
                      apply Exists.intro
                      apply And.intro
                      focus (simp [results, Try.results9, go_sem, p1_0, p1_1, p1_2, p1_3, p1_4, p1_5, p1_6, p1_7]; exact rfl)
                      refine ⟨?_, ?_⟩
                      · rw [HV.out]; try rw [HMA.out]
                        first | rfl | exact ret_pair (by simp only [Lz.val]; congr <;> omega) rfl
                      · repeat (with_reducible refine below_set ?_ (by omega) _)
                        exact H4.out.2
                  · have kv : (lv == mp) = false := beq_eq_false_iff_ne.2 hv
                    have HV := Lib.hid (show takeF (⟨lb, lc, lu, lk, lt, lz, lv⟩ : Lz) 4 mc mp mt r o gd = (⟨4, mc, 0, 0, 0, clkAdd mt 0, mp⟩, true) from by simp [takeF, actV, endV, freeV, bareL, h5, hl, h2, h3, hv])
                    clear h5 hl h2 h3 hv hz
                    go_wp2_with (first | (go_at_call 14; with_reducible refine (past_any _ _ _ _).mono ?_; rintro e w5 ⟨rfl, rfl⟩) | (go_at_call 17; ((with_reducible refine (told_any _ _ _ _ _ _ _ _ _ _ _ _).mono ?_)); rintro e w6 ⟨rfl, hx⟩; have H5 := Lib.hid (H4.out.keep hx); clear hx; simp only [Lz.val] at *; obtain ⟨q0_0, q0_1, q0_2, q0_3, q0_4, q0_5, q0_6, q0_7⟩ := (H5.out).b0.cells8; have qf0 := (H5.out).b0.free; obtain ⟨q1_0, q1_1, q1_2, q1_3, q1_4, q1_5, q1_6, q1_7⟩ := (H5.out).tl.b0.cells8; have qf1 := (H5.out).tl.b0.free; obtain ⟨q2_0, q2_1, q2_2, q2_3, q2_4, q2_5, q2_6, q2_7, q2_8, q2_9, q2_10⟩ := (H5.out).tl.tl.b0.cells11; have qf2 := (H5.out).tl.tl.b0.free; obtain ⟨q3_0, q3_1, q3_2, q3_3, q3_4, q3_5, q3_6, q3_7⟩ := (H5.out).tl.tl.tl.b0.cells8; have qf3 := (H5.out).tl.tl.tl.b0.free))
                    all_goals
                      skip
                      refine ret_by rfl ?_
                      apply Exists.intro
                      apply And.intro
                      focus (simp [results, Try.results9, go_sem, q1_0, q1_1, q1_2, q1_3, q1_4, q1_5, q1_6, q1_7]; exact rfl)
                      refine ⟨?_, ?_⟩
                      · rw [HV.out]; try rw [HMA.out]
                        first | rfl | exact ret_pair (by simp only [Lz.val]; congr <;> omega) rfl
                      · repeat (with_reducible refine below_set ?_ (by omega) _)
                        exact H5.out.2
                · have k3 : (lb == 3) = false := beq_eq_false_iff_ne.2 h3
                  by_cases h4 : lb = 4
                  · have k4 : (lb == 4) = true := beq_iff_eq.2 h4
                    by_cases hv : lv = mp
                    · have kv : (lv == mp) = true := beq_iff_eq.2 hv
                      have HV := Lib.hid (show takeF (⟨lb, lc, lu, lk, lt, lz, lv⟩ : Lz) 4 mc mp mt r o gd = ((⟨lb, lc, lu, lk, lt, lz, lv⟩ : Lz), true) from by simp [takeF, actV, endV, freeV, bareL, h5, hl, h2, h3, h4, hv])
                      clear h5 hl h2 h3 h4 hv hz
                      go_wp2_with (first | (go_at_call 14; with_reducible refine (past_any _ _ _ _).mono ?_; rintro e w5 ⟨rfl, rfl⟩) | (go_at_call 17; ((with_reducible refine (told_any _ _ _ _ _ _ _ _ _ _ _ _).mono ?_)); rintro e w6 ⟨rfl, hx⟩; have H5 := Lib.hid (H4.out.keep hx); clear hx; simp only [Lz.val] at *; obtain ⟨q0_0, q0_1, q0_2, q0_3, q0_4, q0_5, q0_6, q0_7⟩ := (H5.out).b0.cells8; have qf0 := (H5.out).b0.free; obtain ⟨q1_0, q1_1, q1_2, q1_3, q1_4, q1_5, q1_6, q1_7⟩ := (H5.out).tl.b0.cells8; have qf1 := (H5.out).tl.b0.free; obtain ⟨q2_0, q2_1, q2_2, q2_3, q2_4, q2_5, q2_6, q2_7, q2_8, q2_9, q2_10⟩ := (H5.out).tl.tl.b0.cells11; have qf2 := (H5.out).tl.tl.b0.free; obtain ⟨q3_0, q3_1, q3_2, q3_3, q3_4, q3_5, q3_6, q3_7⟩ := (H5.out).tl.tl.tl.b0.cells8; have qf3 := (H5.out).tl.tl.tl.b0.free))
                      all_goals
                        skip
                        refine ret_by rfl ?_
                        apply Exists.intro
                        apply And.intro
                        focus (simp [results, Try.results9, go_sem, p1_0, p1_1, p1_2, p1_3, p1_4, p1_5, p1_6, p1_7]; exact rfl)
                        refine ⟨?_, ?_⟩
                        · rw [HV.out]; try rw [HMA.out]
                          first | rfl | exact ret_pair (by simp only [Lz.val]; congr <;> omega) rfl
                        · repeat (with_reducible refine below_set ?_ (by omega) _)
                          exact H4.out.2
                    · have kv : (lv == mp) = false := beq_eq_false_iff_ne.2 hv
                      have HV := Lib.hid (show takeF (⟨lb, lc, lu, lk, lt, lz, lv⟩ : Lz) 4 mc mp mt r o gd = (⟨4, mc, 0, 0, 0, clkAdd mt 0, mp⟩, true) from by simp [takeF, actV, endV, freeV, bareL, h5, hl, h2, h3, h4, hv])
                      clear h5 hl h2 h3 h4 hv hz
                      go_wp2_with (first | (go_at_call 14; with_reducible refine (past_any _ _ _ _).mono ?_; rintro e w5 ⟨rfl, rfl⟩) | (go_at_call 17; ((with_reducible refine (told_any _ _ _ _ _ _ _ _ _ _ _ _).mono ?_)); rintro e w6 ⟨rfl, hx⟩; have H5 := Lib.hid (H4.out.keep hx); clear hx; simp only [Lz.val] at *; obtain ⟨q0_0, q0_1, q0_2, q0_3, q0_4, q0_5, q0_6, q0_7⟩ := (H5.out).b0.cells8; have qf0 := (H5.out).b0.free; obtain ⟨q1_0, q1_1, q1_2, q1_3, q1_4, q1_5, q1_6, q1_7⟩ := (H5.out).tl.b0.cells8; have qf1 := (H5.out).tl.b0.free; obtain ⟨q2_0, q2_1, q2_2, q2_3, q2_4, q2_5, q2_6, q2_7, q2_8, q2_9, q2_10⟩ := (H5.out).tl.tl.b0.cells11; have qf2 := (H5.out).tl.tl.b0.free; obtain ⟨q3_0, q3_1, q3_2, q3_3, q3_4, q3_5, q3_6, q3_7⟩ := (H5.out).tl.tl.tl.b0.cells8; have qf3 := (H5.out).tl.tl.tl.b0.free))
                      all_goals
                        skip
                        refine ret_by rfl ?_
                        apply Exists.intro
                        apply And.intro
                        focus (simp [results, Try.results9, go_sem, q1_0, q1_1, q1_2, q1_3, q1_4, q1_5, q1_6, q1_7]; exact rfl)
                        refine ⟨?_, ?_⟩
                        · rw [HV.out]; try rw [HMA.out]
                          first | rfl | exact ret_pair (by simp only [Lz.val]; congr <;> omega) rfl
                        · repeat (with_reducible refine below_set ?_ (by omega) _)
                          exact H5.out.2
                  · have k4 : (lb == 4) = false := beq_eq_false_iff_ne.2 h4
                    have HV := Lib.hid (show takeF (⟨lb, lc, lu, lk, lt, lz, lv⟩ : Lz) 4 mc mp mt r o gd = (⟨4, mc, 0, 0, 0, clkAdd mt 0, mp⟩, true) from by simp [takeF, actV, endV, freeV, bareL, h5, hl, h2, h3, h4])
                    clear h5 hl h2 h3 h4 hz
                    go_wp2_with (first | (go_at_call 14; with_reducible refine (past_any _ _ _ _).mono ?_; rintro e w5 ⟨rfl, rfl⟩) | (go_at_call 17; ((with_reducible refine (told_any _ _ _ _ _ _ _ _ _ _ _ _).mono ?_)); rintro e w6 ⟨rfl, hx⟩; have H5 := Lib.hid (H4.out.keep hx); clear hx; simp only [Lz.val] at *; obtain ⟨q0_0, q0_1, q0_2, q0_3, q0_4, q0_5, q0_6, q0_7⟩ := (H5.out).b0.cells8; have qf0 := (H5.out).b0.free; obtain ⟨q1_0, q1_1, q1_2, q1_3, q1_4, q1_5, q1_6, q1_7⟩ := (H5.out).tl.b0.cells8; have qf1 := (H5.out).tl.b0.free; obtain ⟨q2_0, q2_1, q2_2, q2_3, q2_4, q2_5, q2_6, q2_7, q2_8, q2_9, q2_10⟩ := (H5.out).tl.tl.b0.cells11; have qf2 := (H5.out).tl.tl.b0.free; obtain ⟨q3_0, q3_1, q3_2, q3_3, q3_4, q3_5, q3_6, q3_7⟩ := (H5.out).tl.tl.tl.b0.cells8; have qf3 := (H5.out).tl.tl.tl.b0.free))
                    all_goals
                      skip
                      refine ret_by rfl ?_
                      apply Exists.intro
                      apply And.intro
                      focus (simp [results, Try.results9, go_sem, q1_0, q1_1, q1_2, q1_3, q1_4, q1_5, q1_6, q1_7]; exact rfl)
                      refine ⟨?_, ?_⟩
                      · rw [HV.out]; try rw [HMA.out]
                        first | rfl | exact ret_pair (by simp only [Lz.val]; congr <;> omega) rfl
                      · repeat (with_reducible refine below_set ?_ (by omega) _)
                        exact H5.out.2
        · have kz : (lz == 0) = false := beq_eq_false_iff_ne.2 hz
          by_cases h5 : lb = 5
          · obtain rfl : lost = true := by rw [← HLO.out]; exact beq_iff_eq.2 h5
            obtain rfl : busy = false := by rw [← HBU.out]; exact beq_eq_false_iff_ne.2 (by omega)
            obtain rfl : ours = false := HOU.out.symm
            have HV := Lib.hid (show takeF (⟨lb, lc, lu, lk, lt, lz, lv⟩ : Lz) 4 mc mp mt r o gd = ((⟨lb, lc, lu, lk, lt, lz, lv⟩ : Lz), true) from by simp [takeF, actV, endV, freeV, bareL, h5, hz])
            clear h5 hz
            go_wp2_with (first | (go_at_call 14; with_reducible refine (past_any _ _ _ _).mono ?_; rintro e w5 ⟨rfl, rfl⟩) | (go_at_call 17; ((with_reducible refine (told_any _ _ _ _ _ _ _ _ _ _ _ _).mono ?_)); rintro e w6 ⟨rfl, hx⟩; have H5 := Lib.hid (H4.out.keep hx); clear hx; simp only [Lz.val] at *; obtain ⟨q0_0, q0_1, q0_2, q0_3, q0_4, q0_5, q0_6, q0_7⟩ := (H5.out).b0.cells8; have qf0 := (H5.out).b0.free; obtain ⟨q1_0, q1_1, q1_2, q1_3, q1_4, q1_5, q1_6, q1_7⟩ := (H5.out).tl.b0.cells8; have qf1 := (H5.out).tl.b0.free; obtain ⟨q2_0, q2_1, q2_2, q2_3, q2_4, q2_5, q2_6, q2_7, q2_8, q2_9, q2_10⟩ := (H5.out).tl.tl.b0.cells11; have qf2 := (H5.out).tl.tl.b0.free; obtain ⟨q3_0, q3_1, q3_2, q3_3, q3_4, q3_5, q3_6, q3_7⟩ := (H5.out).tl.tl.tl.b0.cells8; have qf3 := (H5.out).tl.tl.tl.b0.free))
            all_goals
              skip
              refine ret_by rfl ?_
              apply Exists.intro
              apply And.intro
              focus (simp [results, Try.results9, go_sem, p1_0, p1_1, p1_2, p1_3, p1_4, p1_5, p1_6, p1_7]; exact rfl)
              refine ⟨?_, ?_⟩
              · rw [HV.out]; try rw [HMA.out]
                first | rfl | exact ret_pair (by simp only [Lz.val]; congr <;> omega) rfl
              · repeat (with_reducible refine below_set ?_ (by omega) _)
                exact H4.out.2
          · obtain rfl : lost = false := by rw [← HLO.out]; exact beq_eq_false_iff_ne.2 h5
            by_cases hl : mp < lv
            · have kl : decide (mp < lv) = true := decide_eq_true hl
              have HV := Lib.hid (show takeF (⟨lb, lc, lu, lk, lt, lz, lv⟩ : Lz) 4 mc mp mt r o gd = ((⟨lb, lc, lu, lk, lt, lz, lv⟩ : Lz), false) from by simp [takeF, actV, endV, freeV, bareL, h5, hl, hz])
              clear h5 hl hz
              go_wp2_with (first | (go_at_call 14; with_reducible refine (past_any _ _ _ _).mono ?_; rintro e w5 ⟨rfl, rfl⟩) | (go_at_call 17; ((with_reducible refine (told_any _ _ _ _ _ _ _ _ _ _ _ _).mono ?_)); rintro e w6 ⟨rfl, hx⟩; have H5 := Lib.hid (H4.out.keep hx); clear hx; simp only [Lz.val] at *; obtain ⟨q0_0, q0_1, q0_2, q0_3, q0_4, q0_5, q0_6, q0_7⟩ := (H5.out).b0.cells8; have qf0 := (H5.out).b0.free; obtain ⟨q1_0, q1_1, q1_2, q1_3, q1_4, q1_5, q1_6, q1_7⟩ := (H5.out).tl.b0.cells8; have qf1 := (H5.out).tl.b0.free; obtain ⟨q2_0, q2_1, q2_2, q2_3, q2_4, q2_5, q2_6, q2_7, q2_8, q2_9, q2_10⟩ := (H5.out).tl.tl.b0.cells11; have qf2 := (H5.out).tl.tl.b0.free; obtain ⟨q3_0, q3_1, q3_2, q3_3, q3_4, q3_5, q3_6, q3_7⟩ := (H5.out).tl.tl.tl.b0.cells8; have qf3 := (H5.out).tl.tl.tl.b0.free))
              all_goals
                skip
                refine ret_by rfl ?_
                apply Exists.intro
                apply And.intro
                focus (simp [results, Try.results9, go_sem, p1_0, p1_1, p1_2, p1_3, p1_4, p1_5, p1_6, p1_7]; exact rfl)
                refine ⟨?_, ?_⟩
                · rw [HV.out]; try rw [HMA.out]
                  first | rfl | exact ret_pair (by simp only [Lz.val]; congr <;> omega) rfl
                · repeat (with_reducible refine below_set ?_ (by omega) _)
                  exact H4.out.2
            · have kl : decide (mp < lv) = false := decide_eq_false hl
              have hmx : max lv mp = mp := by omega
              rw [hmx] at *
              clear hmx
              by_cases h2 : lb = 2
              · obtain rfl : busy = true := by rw [← HBU.out]; exact beq_iff_eq.2 h2
                by_cases hc : lc = mc
                · have kc := str_eqb hc
                  obtain rfl : ours = true := by rw [← HOU.out, kc]; rfl
                  cases hp : clkPast mt lz gd
                  · skip
                    have HV := Lib.hid (show takeF (⟨lb, lc, lu, lk, lt, lz, lv⟩ : Lz) 4 mc mp mt r o gd = ((⟨lb, lc, lu, lk, lt, lz, lv⟩ : Lz), false) from by simp [takeF, actV, endV, freeV, bareL, h5, hl, h2, hc, hz, hp])
                    clear h5 hl h2 hc hz
                    go_wp2_with (first | (go_at_call 14; with_reducible refine (past_any _ _ _ _).mono ?_; rintro e w5 ⟨rfl, rfl⟩) | (go_at_call 17; ((with_reducible refine (told_any _ _ _ _ _ _ _ _ _ _ _ _).mono ?_)); rintro e w6 ⟨rfl, hx⟩; have H5 := Lib.hid (H4.out.keep hx); clear hx; simp only [Lz.val] at *; obtain ⟨q0_0, q0_1, q0_2, q0_3, q0_4, q0_5, q0_6, q0_7⟩ := (H5.out).b0.cells8; have qf0 := (H5.out).b0.free; obtain ⟨q1_0, q1_1, q1_2, q1_3, q1_4, q1_5, q1_6, q1_7⟩ := (H5.out).tl.b0.cells8; have qf1 := (H5.out).tl.b0.free; obtain ⟨q2_0, q2_1, q2_2, q2_3, q2_4, q2_5, q2_6, q2_7, q2_8, q2_9, q2_10⟩ := (H5.out).tl.tl.b0.cells11; have qf2 := (H5.out).tl.tl.b0.free; obtain ⟨q3_0, q3_1, q3_2, q3_3, q3_4, q3_5, q3_6, q3_7⟩ := (H5.out).tl.tl.tl.b0.cells8; have qf3 := (H5.out).tl.tl.tl.b0.free))
                    all_goals
                      skip
                      refine ret_by rfl ?_
                      apply Exists.intro
                      apply And.intro
                      focus (simp [results, Try.results9, go_sem, p1_0, p1_1, p1_2, p1_3, p1_4, p1_5, p1_6, p1_7]; exact rfl)
                      refine ⟨?_, ?_⟩
                      · rw [HV.out]; try rw [HMA.out]
                        first | rfl | exact ret_pair (by simp only [Lz.val]; congr <;> omega) rfl
                      · repeat (with_reducible refine below_set ?_ (by omega) _)
                        exact H4.out.2
                  · skip
                    have HV := Lib.hid (show takeF (⟨lb, lc, lu, lk, lt, lz, lv⟩ : Lz) 4 mc mp mt r o gd = (⟨4, lc, lu, lk, lt, lz, mp⟩, true) from by simp [takeF, actV, endV, freeV, bareL, h5, hl, h2, hc, hz, hp])
                    clear h5 hl h2 hc hz
                    go_wp2_with (first | (go_at_call 14; with_reducible refine (past_any _ _ _ _).mono ?_; rintro e w5 ⟨rfl, rfl⟩) | (go_at_call 17; ((with_reducible refine (told_any _ _ _ _ _ _ _ _ _ _ _ _).mono ?_)); rintro e w6 ⟨rfl, hx⟩; have H5 := Lib.hid (H4.out.keep hx); clear hx; simp only [Lz.val] at *; obtain ⟨q0_0, q0_1, q0_2, q0_3, q0_4, q0_5, q0_6, q0_7⟩ := (H5.out).b0.cells8; have qf0 := (H5.out).b0.free; obtain ⟨q1_0, q1_1, q1_2, q1_3, q1_4, q1_5, q1_6, q1_7⟩ := (H5.out).tl.b0.cells8; have qf1 := (H5.out).tl.b0.free; obtain ⟨q2_0, q2_1, q2_2, q2_3, q2_4, q2_5, q2_6, q2_7, q2_8, q2_9, q2_10⟩ := (H5.out).tl.tl.b0.cells11; have qf2 := (H5.out).tl.tl.b0.free; obtain ⟨q3_0, q3_1, q3_2, q3_3, q3_4, q3_5, q3_6, q3_7⟩ := (H5.out).tl.tl.tl.b0.cells8; have qf3 := (H5.out).tl.tl.tl.b0.free))
                    all_goals
                      skip
                      refine ret_by rfl ?_
                      apply Exists.intro
                      apply And.intro
                      focus (simp [results, Try.results9, go_sem, p1_0, p1_1, p1_2, p1_3, p1_4, p1_5, p1_6, p1_7]; exact rfl)
                      refine ⟨?_, ?_⟩
                      · rw [HV.out]; try rw [HMA.out]
                        first | rfl | exact ret_pair (by simp only [Lz.val]; congr <;> omega) rfl
                      · repeat (with_reducible refine below_set ?_ (by omega) _)
                        exact H4.out.2
                · have kc := str_ne hc
                  obtain rfl : ours = false := by rw [← HOU.out, kc]; rfl
                  have HV := Lib.hid (show takeF (⟨lb, lc, lu, lk, lt, lz, lv⟩ : Lz) 4 mc mp mt r o gd = ((⟨lb, lc, lu, lk, lt, lz, lv⟩ : Lz), false) from by simp [takeF, actV, endV, freeV, bareL, h5, hl, h2, hc])
                  clear h5 hl h2 hc hz
                  go_wp2_with (first | (go_at_call 14; with_reducible refine (past_any _ _ _ _).mono ?_; rintro e w5 ⟨rfl, rfl⟩) | (go_at_call 17; ((with_reducible refine (told_any _ _ _ _ _ _ _ _ _ _ _ _).mono ?_)); rintro e w6 ⟨rfl, hx⟩; have H5 := Lib.hid (H4.out.keep hx); clear hx; simp only [Lz.val] at *; obtain ⟨q0_0, q0_1, q0_2, q0_3, q0_4, q0_5, q0_6, q0_7⟩ := (H5.out).b0.cells8; have qf0 := (H5.out).b0.free; obtain ⟨q1_0, q1_1, q1_2, q1_3, q1_4, q1_5, q1_6, q1_7⟩ := (H5.out).tl.b0.cells8; have qf1 := (H5.out).tl.b0.free; obtain ⟨q2_0, q2_1, q2_2, q2_3, q2_4, q2_5, q2_6, q2_7, q2_8, q2_9, q2_10⟩ := (H5.out).tl.tl.b0.cells11; have qf2 := (H5.out).tl.tl.b0.free; obtain ⟨q3_0, q3_1, q3_2, q3_3, q3_4, q3_5, q3_6, q3_7⟩ := (H5.out).tl.tl.tl.b0.cells8; have qf3 := (H5.out).tl.tl.tl.b0.free))
                  all_goals
                    skip
                    refine ret_by rfl ?_
                    apply Exists.intro
                    apply And.intro
                    focus (simp [results, Try.results9, go_sem, p1_0, p1_1, p1_2, p1_3, p1_4, p1_5, p1_6, p1_7]; exact rfl)
                    refine ⟨?_, ?_⟩
                    · rw [HV.out]; try rw [HMA.out]
                      first | rfl | exact ret_pair (by simp only [Lz.val]; congr <;> omega) rfl
                    · repeat (with_reducible refine below_set ?_ (by omega) _)
                      exact H4.out.2
              · obtain rfl : busy = false := by rw [← HBU.out]; exact beq_eq_false_iff_ne.2 h2
                obtain rfl : ours = false := HOU.out.symm
                by_cases h3 : lb = 3
                · have k3 : (lb == 3) = true := beq_iff_eq.2 h3
                  by_cases hv : lv = mp
                  · have kv : (lv == mp) = true := beq_iff_eq.2 hv
                    have HV := Lib.hid (show takeF (⟨lb, lc, lu, lk, lt, lz, lv⟩ : Lz) 4 mc mp mt r o gd = ((⟨lb, lc, lu, lk, lt, lz, lv⟩ : Lz), true) from by simp [takeF, actV, endV, freeV, bareL, h5, hl, h2, h3, hv])
                    clear h5 hl h2 h3 hv hz
                    go_wp2_with (first | (go_at_call 14; with_reducible refine (past_any _ _ _ _).mono ?_; rintro e w5 ⟨rfl, rfl⟩) | (go_at_call 17; ((with_reducible refine (told_any _ _ _ _ _ _ _ _ _ _ _ _).mono ?_)); rintro e w6 ⟨rfl, hx⟩; have H5 := Lib.hid (H4.out.keep hx); clear hx; simp only [Lz.val] at *; obtain ⟨q0_0, q0_1, q0_2, q0_3, q0_4, q0_5, q0_6, q0_7⟩ := (H5.out).b0.cells8; have qf0 := (H5.out).b0.free; obtain ⟨q1_0, q1_1, q1_2, q1_3, q1_4, q1_5, q1_6, q1_7⟩ := (H5.out).tl.b0.cells8; have qf1 := (H5.out).tl.b0.free; obtain ⟨q2_0, q2_1, q2_2, q2_3, q2_4, q2_5, q2_6, q2_7, q2_8, q2_9, q2_10⟩ := (H5.out).tl.tl.b0.cells11; have qf2 := (H5.out).tl.tl.b0.free; obtain ⟨q3_0, q3_1, q3_2, q3_3, q3_4, q3_5, q3_6, q3_7⟩ := (H5.out).tl.tl.tl.b0.cells8; have qf3 := (H5.out).tl.tl.tl.b0.free))
                    all_goals
                      skip
                      refine ret_by rfl ?_
                      apply Exists.intro
                      apply And.intro
                      focus (simp [results, Try.results9, go_sem, p1_0, p1_1, p1_2, p1_3, p1_4, p1_5, p1_6, p1_7]; exact rfl)
                      refine ⟨?_, ?_⟩
                      · rw [HV.out]; try rw [HMA.out]
                        first | rfl | exact ret_pair (by simp only [Lz.val]; congr <;> omega) rfl
                      · repeat (with_reducible refine below_set ?_ (by omega) _)
                        exact H4.out.2
                  · have kv : (lv == mp) = false := beq_eq_false_iff_ne.2 hv
                    have HV := Lib.hid (show takeF (⟨lb, lc, lu, lk, lt, lz, lv⟩ : Lz) 4 mc mp mt r o gd = (⟨4, mc, 0, 0, 0, clkAdd mt 0, mp⟩, true) from by simp [takeF, actV, endV, freeV, bareL, h5, hl, h2, h3, hv])
                    clear h5 hl h2 h3 hv hz
                    go_wp2_with (first | (go_at_call 14; with_reducible refine (past_any _ _ _ _).mono ?_; rintro e w5 ⟨rfl, rfl⟩) | (go_at_call 17; ((with_reducible refine (told_any _ _ _ _ _ _ _ _ _ _ _ _).mono ?_)); rintro e w6 ⟨rfl, hx⟩; have H5 := Lib.hid (H4.out.keep hx); clear hx; simp only [Lz.val] at *; obtain ⟨q0_0, q0_1, q0_2, q0_3, q0_4, q0_5, q0_6, q0_7⟩ := (H5.out).b0.cells8; have qf0 := (H5.out).b0.free; obtain ⟨q1_0, q1_1, q1_2, q1_3, q1_4, q1_5, q1_6, q1_7⟩ := (H5.out).tl.b0.cells8; have qf1 := (H5.out).tl.b0.free; obtain ⟨q2_0, q2_1, q2_2, q2_3, q2_4, q2_5, q2_6, q2_7, q2_8, q2_9, q2_10⟩ := (H5.out).tl.tl.b0.cells11; have qf2 := (H5.out).tl.tl.b0.free; obtain ⟨q3_0, q3_1, q3_2, q3_3, q3_4, q3_5, q3_6, q3_7⟩ := (H5.out).tl.tl.tl.b0.cells8; have qf3 := (H5.out).tl.tl.tl.b0.free))
                    all_goals
                      skip
                      refine ret_by rfl ?_
                      apply Exists.intro
                      apply And.intro
                      focus (simp [results, Try.results9, go_sem, q1_0, q1_1, q1_2, q1_3, q1_4, q1_5, q1_6, q1_7]; exact rfl)
                      refine ⟨?_, ?_⟩
                      · rw [HV.out]; try rw [HMA.out]
                        first | rfl | exact ret_pair (by simp only [Lz.val]; congr <;> omega) rfl
                      · repeat (with_reducible refine below_set ?_ (by omega) _)
                        exact H5.out.2
                · have k3 : (lb == 3) = false := beq_eq_false_iff_ne.2 h3
                  by_cases h4 : lb = 4
                  · have k4 : (lb == 4) = true := beq_iff_eq.2 h4
                    by_cases hv : lv = mp
                    · have kv : (lv == mp) = true := beq_iff_eq.2 hv
                      have HV := Lib.hid (show takeF (⟨lb, lc, lu, lk, lt, lz, lv⟩ : Lz) 4 mc mp mt r o gd = ((⟨lb, lc, lu, lk, lt, lz, lv⟩ : Lz), true) from by simp [takeF, actV, endV, freeV, bareL, h5, hl, h2, h3, h4, hv])
                      clear h5 hl h2 h3 h4 hv hz
                      go_wp2_with (first | (go_at_call 14; with_reducible refine (past_any _ _ _ _).mono ?_; rintro e w5 ⟨rfl, rfl⟩) | (go_at_call 17; ((with_reducible refine (told_any _ _ _ _ _ _ _ _ _ _ _ _).mono ?_)); rintro e w6 ⟨rfl, hx⟩; have H5 := Lib.hid (H4.out.keep hx); clear hx; simp only [Lz.val] at *; obtain ⟨q0_0, q0_1, q0_2, q0_3, q0_4, q0_5, q0_6, q0_7⟩ := (H5.out).b0.cells8; have qf0 := (H5.out).b0.free; obtain ⟨q1_0, q1_1, q1_2, q1_3, q1_4, q1_5, q1_6, q1_7⟩ := (H5.out).tl.b0.cells8; have qf1 := (H5.out).tl.b0.free; obtain ⟨q2_0, q2_1, q2_2, q2_3, q2_4, q2_5, q2_6, q2_7, q2_8, q2_9, q2_10⟩ := (H5.out).tl.tl.b0.cells11; have qf2 := (H5.out).tl.tl.b0.free; obtain ⟨q3_0, q3_1, q3_2, q3_3, q3_4, q3_5, q3_6, q3_7⟩ := (H5.out).tl.tl.tl.b0.cells8; have qf3 := (H5.out).tl.tl.tl.b0.free))
                      all_goals
                        skip
                        refine ret_by rfl ?_
                        apply Exists.intro
                        apply And.intro
                        focus (simp [results, Try.results9, go_sem, p1_0, p1_1, p1_2, p1_3, p1_4, p1_5, p1_6, p1_7]; exact rfl)
                        refine ⟨?_, ?_⟩
                        · rw [HV.out]; try rw [HMA.out]
                          first | rfl | exact ret_pair (by simp only [Lz.val]; congr <;> omega) rfl
                        · repeat (with_reducible refine below_set ?_ (by omega) _)
                          exact H4.out.2
                    · have kv : (lv == mp) = false := beq_eq_false_iff_ne.2 hv
                      have HV := Lib.hid (show takeF (⟨lb, lc, lu, lk, lt, lz, lv⟩ : Lz) 4 mc mp mt r o gd = (⟨4, mc, 0, 0, 0, clkAdd mt 0, mp⟩, true) from by simp [takeF, actV, endV, freeV, bareL, h5, hl, h2, h3, h4, hv])
                      clear h5 hl h2 h3 h4 hv hz
                      go_wp2_with (first | (go_at_call 14; with_reducible refine (past_any _ _ _ _).mono ?_; rintro e w5 ⟨rfl, rfl⟩) | (go_at_call 17; ((with_reducible refine (told_any _ _ _ _ _ _ _ _ _ _ _ _).mono ?_)); rintro e w6 ⟨rfl, hx⟩; have H5 := Lib.hid (H4.out.keep hx); clear hx; simp only [Lz.val] at *; obtain ⟨q0_0, q0_1, q0_2, q0_3, q0_4, q0_5, q0_6, q0_7⟩ := (H5.out).b0.cells8; have qf0 := (H5.out).b0.free; obtain ⟨q1_0, q1_1, q1_2, q1_3, q1_4, q1_5, q1_6, q1_7⟩ := (H5.out).tl.b0.cells8; have qf1 := (H5.out).tl.b0.free; obtain ⟨q2_0, q2_1, q2_2, q2_3, q2_4, q2_5, q2_6, q2_7, q2_8, q2_9, q2_10⟩ := (H5.out).tl.tl.b0.cells11; have qf2 := (H5.out).tl.tl.b0.free; obtain ⟨q3_0, q3_1, q3_2, q3_3, q3_4, q3_5, q3_6, q3_7⟩ := (H5.out).tl.tl.tl.b0.cells8; have qf3 := (H5.out).tl.tl.tl.b0.free))
                      all_goals
                        skip
                        refine ret_by rfl ?_
                        apply Exists.intro
                        apply And.intro
                        focus (simp [results, Try.results9, go_sem, q1_0, q1_1, q1_2, q1_3, q1_4, q1_5, q1_6, q1_7]; exact rfl)
                        refine ⟨?_, ?_⟩
                        · rw [HV.out]; try rw [HMA.out]
                          first | rfl | exact ret_pair (by simp only [Lz.val]; congr <;> omega) rfl
                        · repeat (with_reducible refine below_set ?_ (by omega) _)
                          exact H5.out.2
                  · have k4 : (lb == 4) = false := beq_eq_false_iff_ne.2 h4
                    have HV := Lib.hid (show takeF (⟨lb, lc, lu, lk, lt, lz, lv⟩ : Lz) 4 mc mp mt r o gd = (⟨4, mc, 0, 0, 0, clkAdd mt 0, mp⟩, true) from by simp [takeF, actV, endV, freeV, bareL, h5, hl, h2, h3, h4])
                    clear h5 hl h2 h3 h4 hz
                    go_wp2_with (first | (go_at_call 14; with_reducible refine (past_any _ _ _ _).mono ?_; rintro e w5 ⟨rfl, rfl⟩) | (go_at_call 17; ((with_reducible refine (told_any _ _ _ _ _ _ _ _ _ _ _ _).mono ?_)); rintro e w6 ⟨rfl, hx⟩; have H5 := Lib.hid (H4.out.keep hx); clear hx; simp only [Lz.val] at *; obtain ⟨q0_0, q0_1, q0_2, q0_3, q0_4, q0_5, q0_6, q0_7⟩ := (H5.out).b0.cells8; have qf0 := (H5.out).b0.free; obtain ⟨q1_0, q1_1, q1_2, q1_3, q1_4, q1_5, q1_6, q1_7⟩ := (H5.out).tl.b0.cells8; have qf1 := (H5.out).tl.b0.free; obtain ⟨q2_0, q2_1, q2_2, q2_3, q2_4, q2_5, q2_6, q2_7, q2_8, q2_9, q2_10⟩ := (H5.out).tl.tl.b0.cells11; have qf2 := (H5.out).tl.tl.b0.free; obtain ⟨q3_0, q3_1, q3_2, q3_3, q3_4, q3_5, q3_6, q3_7⟩ := (H5.out).tl.tl.tl.b0.cells8; have qf3 := (H5.out).tl.tl.tl.b0.free))
                    all_goals
                      skip
                      refine ret_by rfl ?_
                      apply Exists.intro
                      apply And.intro
                      focus (simp [results, Try.results9, go_sem, q1_0, q1_1, q1_2, q1_3, q1_4, q1_5, q1_6, q1_7]; exact rfl)
                      refine ⟨?_, ?_⟩
                      · rw [HV.out]; try rw [HMA.out]
                        first | rfl | exact ret_pair (by simp only [Lz.val]; congr <;> omega) rfl
                      · repeat (with_reducible refine below_set ?_ (by omega) _)
                        exact H5.out.2

end Go.Proofs.Ytkpgchhbeebgkaa
