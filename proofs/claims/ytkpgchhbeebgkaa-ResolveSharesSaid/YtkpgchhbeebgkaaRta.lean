/- What is known of an address behind what is told of it, by the reference. -/
import Derived.Test.YtkpgchhbeebgkaaTkd
import Derived.Test.YtkpgchhbeebgkaaEnd
import Derived.Test.YtkpgchhbeebgkaaEne
namespace Go.Proofs.Ytkpgchhbeebgkaa
open Go.ChangeShapes Go.WideShapes Go.ChangeAt Go.RowKit
set_option linter.unusedVariables false
set_option linter.unusedSimpArgs false

set_option maxRecDepth 100000 in
set_option maxHeartbeats 4000000 in
theorem rtake_unfair (la lb : Int) (lc : ByteArray) (lu lk lt lz lv : Int) (m0 m1 m2 m3 m4 ma mb : Int) (mc : ByteArray) (mp mt : Int) (mo : Bool) (st now gd : Int) (w : World) (hf : ¬ FairP la lb lc lu lk lt lz lv m0 ma mb mc mp mt) : Calls Try.prog 10 #[.agg #[.int .u32 la, .int .i64 lb, .string lc, .int .i64 lu, .int .i64 lk, .int .i64 lt, .int .i64 lz, .int .i64 lv], .agg #[.int .i64 m0, .int .i64 m1, .int .i64 m2, .int .i64 m3, .int .i64 m4, .int .u32 ma, .int .i64 mb, .string mc, .int .i64 mp, .int .i64 mt, .bool mo], .int .i64 st, .int .i64 now, .int .i64 gd] w fun e w' => e = .returned (.tuple #[(takeV la ⟨lb, lc, lu, lk, lt, lz, lv⟩ m0 ma mb mc mp mt st now gd).1.val la, .bool (takeV la ⟨lb, lc, lu, lk, lt, lz, lv⟩ m0 ma mb mc mp mt st now gd).2]) ∧ Below w.heap.size w w' := by
  have HV := Lib.hid (show takeV la ⟨lb, lc, lu, lk, lt, lz, lv⟩ m0 ma mb mc mp mt st now gd = (⟨lb, lc, lu, lk, lt, lz, lv⟩, false) from if_neg hf)
  have HF := Lib.hid (show decide (FairP la lb lc lu lk lt lz lv m0 ma mb mc mp mt) = false from decide_eq_false hf)
  clear hf
  have H0 := Lib.hid ((((HeldB.nil (lowA (lowA (low0 w (.cells #[.int .u32 la, .int .i64 lb, .string lc, .int .i64 lu, .int .i64 lk, .int .i64 lt, .int .i64 lz, .int .i64 lv] 25)) (.cells #[.int .i64 m0, .int .i64 m1, .int .i64 m2, .int .i64 m3, .int .i64 m4, .int .u32 ma, .int .i64 mb, .string mc, .int .i64 mp, .int .i64 mt, .bool mo] 27)) (.cells #[.int .u32 0, .int .i64 0, .string { data := #[] }, .int .i64 0, .int .i64 0, .int .i64 0, .int .i64 0, .int .i64 0] 25))).cons ((Blk.new2' w #[.int .u32 la, .int .i64 lb, .string lc, .int .i64 lu, .int .i64 lk, .int .i64 lt, .int .i64 lz, .int .i64 lv] 25 (.cells #[.int .i64 m0, .int .i64 m1, .int .i64 m2, .int .i64 m3, .int .i64 m4, .int .u32 ma, .int .i64 mb, .string mc, .int .i64 mp, .int .i64 mt, .bool mo] 27)).alloc (.cells #[.int .u32 0, .int .i64 0, .string { data := #[] }, .int .i64 0, .int .i64 0, .int .i64 0, .int .i64 0, .int .i64 0] 25))).cons ((Blk.new2 w (.cells #[.int .u32 la, .int .i64 lb, .string lc, .int .i64 lu, .int .i64 lk, .int .i64 lt, .int .i64 lz, .int .i64 lv] 25) #[.int .i64 m0, .int .i64 m1, .int .i64 m2, .int .i64 m3, .int .i64 m4, .int .u32 ma, .int .i64 mb, .string mc, .int .i64 mp, .int .i64 mt, .bool mo] 27).alloc (.cells #[.int .u32 0, .int .i64 0, .string { data := #[] }, .int .i64 0, .int .i64 0, .int .i64 0, .int .i64 0, .int .i64 0] 25))).cons (Blk.new3 w (.cells #[.int .u32 la, .int .i64 lb, .string lc, .int .i64 lu, .int .i64 lk, .int .i64 lt, .int .i64 lz, .int .i64 lv] 25) (.cells #[.int .i64 m0, .int .i64 m1, .int .i64 m2, .int .i64 m3, .int .i64 m4, .int .u32 ma, .int .i64 mb, .string mc, .int .i64 mp, .int .i64 mt, .bool mo] 27) #[.int .u32 0, .int .i64 0, .string { data := #[] }, .int .i64 0, .int .i64 0, .int .i64 0, .int .i64 0, .int .i64 0] 25))
  go_enter Try.func10, Try.ntmps10
  go_wp2_with (go_at_call 19; ((with_reducible refine (rfair_any _ _ _ _ _ _ _ _ _ _ _ _ _ _ _ _ _ _ _ _).mono ?_)); rintro e w1 ⟨he, hx⟩; rw [HF.out] at he; subst he; have H1 := Lib.hid (H0.out.keep hx); clear hx; obtain ⟨p0_0, p0_1, p0_2, p0_3, p0_4, p0_5, p0_6, p0_7⟩ := (H1.out).b0.cells8; have pf0 := (H1.out).b0.free; obtain ⟨p1_0, p1_1, p1_2, p1_3, p1_4, p1_5, p1_6, p1_7, p1_8, p1_9, p1_10⟩ := (H1.out).tl.b0.cells11; have pf1 := (H1.out).tl.b0.free; obtain ⟨p2_0, p2_1, p2_2, p2_3, p2_4, p2_5, p2_6, p2_7⟩ := (H1.out).tl.tl.b0.cells8; have pf2 := (H1.out).tl.tl.b0.free)
  refine ret_by rfl ?_
  apply Exists.intro
  apply And.intro
  focus (simp [results, Try.results10, go_sem, p0_0, p0_1, p0_2, p0_3, p0_4, p0_5, p0_6, p0_7]; exact rfl)
  refine ⟨?_, ?_⟩
  · rw [HV.out]
    first | rfl | exact ret_pair (by simp only [Lz.val]; congr <;> omega) rfl
  · repeat (with_reducible refine below_set ?_ (by omega) _)
    exact H1.out.2

set_option maxRecDepth 100000 in
set_option maxHeartbeats 40000000 in
theorem rtake_fair2 (la lb : Int) (lc : ByteArray) (lu lk lt lz lv : Int) (m0 m1 m2 m3 m4 ma : Int) (mc : ByteArray) (mp mt : Int) (mo : Bool) (st now gd : Int) (w : World) (hf : FairP la lb lc lu lk lt lz lv m0 ma 2 mc mp mt) : Calls Try.prog 10 #[.agg #[.int .u32 la, .int .i64 lb, .string lc, .int .i64 lu, .int .i64 lk, .int .i64 lt, .int .i64 lz, .int .i64 lv], .agg #[.int .i64 m0, .int .i64 m1, .int .i64 m2, .int .i64 m3, .int .i64 m4, .int .u32 ma, .int .i64 2, .string mc, .int .i64 mp, .int .i64 mt, .bool mo], .int .i64 st, .int .i64 now, .int .i64 gd] w fun e w' => e = .returned (.tuple #[(takeV la ⟨lb, lc, lu, lk, lt, lz, lv⟩ m0 ma 2 mc mp mt st now gd).1.val la, .bool (takeV la ⟨lb, lc, lu, lk, lt, lz, lv⟩ m0 ma 2 mc mp mt st now gd).2]) ∧ Below w.heap.size w w' := by
  have H0 := Lib.hid ((((HeldB.nil (lowA (lowA (low0 w (.cells #[.int .u32 la, .int .i64 lb, .string lc, .int .i64 lu, .int .i64 lk, .int .i64 lt, .int .i64 lz, .int .i64 lv] 25)) (.cells #[.int .i64 m0, .int .i64 m1, .int .i64 m2, .int .i64 m3, .int .i64 m4, .int .u32 ma, .int .i64 2, .string mc, .int .i64 mp, .int .i64 mt, .bool mo] 27)) (.cells #[.int .u32 0, .int .i64 0, .string { data := #[] }, .int .i64 0, .int .i64 0, .int .i64 0, .int .i64 0, .int .i64 0] 25))).cons ((Blk.new2' w #[.int .u32 la, .int .i64 lb, .string lc, .int .i64 lu, .int .i64 lk, .int .i64 lt, .int .i64 lz, .int .i64 lv] 25 (.cells #[.int .i64 m0, .int .i64 m1, .int .i64 m2, .int .i64 m3, .int .i64 m4, .int .u32 ma, .int .i64 2, .string mc, .int .i64 mp, .int .i64 mt, .bool mo] 27)).alloc (.cells #[.int .u32 0, .int .i64 0, .string { data := #[] }, .int .i64 0, .int .i64 0, .int .i64 0, .int .i64 0, .int .i64 0] 25))).cons ((Blk.new2 w (.cells #[.int .u32 la, .int .i64 lb, .string lc, .int .i64 lu, .int .i64 lk, .int .i64 lt, .int .i64 lz, .int .i64 lv] 25) #[.int .i64 m0, .int .i64 m1, .int .i64 m2, .int .i64 m3, .int .i64 m4, .int .u32 ma, .int .i64 2, .string mc, .int .i64 mp, .int .i64 mt, .bool mo] 27).alloc (.cells #[.int .u32 0, .int .i64 0, .string { data := #[] }, .int .i64 0, .int .i64 0, .int .i64 0, .int .i64 0, .int .i64 0] 25))).cons (Blk.new3 w (.cells #[.int .u32 la, .int .i64 lb, .string lc, .int .i64 lu, .int .i64 lk, .int .i64 lt, .int .i64 lz, .int .i64 lv] 25) (.cells #[.int .i64 m0, .int .i64 m1, .int .i64 m2, .int .i64 m3, .int .i64 m4, .int .u32 ma, .int .i64 2, .string mc, .int .i64 mp, .int .i64 mt, .bool mo] 27) #[.int .u32 0, .int .i64 0, .string { data := #[] }, .int .i64 0, .int .i64 0, .int .i64 0, .int .i64 0, .int .i64 0] 25))
  have HF := Lib.hid (show decide (FairP la lb lc lu lk lt lz lv m0 ma 2 mc mp mt) = true from decide_eq_true hf)
  rw [show takeV la ⟨lb, lc, lu, lk, lt, lz, lv⟩ m0 ma 2 mc mp mt st now gd = takeF ⟨lb, lc, lu, lk, lt, lz, lv⟩ 2 mc mp mt (recV st) (clkPast now lu 0) gd from if_pos hf]
  clear hf
  generalize hrr : recV st = r
  generalize hoo : clkPast now lu 0 = o
  have HR := Lib.hid hrr
  have HO := Lib.hid hoo
  clear hrr hoo
  go_enter Try.func10, Try.ntmps10
  go_upto_region 5 with (first | (go_at_call 19; ((with_reducible refine (rfair_any _ _ _ _ _ _ _ _ _ _ _ _ _ _ _ _ _ _ _ _).mono ?_)); rintro e w1 ⟨he, hx⟩; rw [HF.out] at he; subst he; have H1 := Lib.hid (H0.out.keep hx); clear hx; obtain ⟨p0_0, p0_1, p0_2, p0_3, p0_4, p0_5, p0_6, p0_7⟩ := (H1.out).b0.cells8; have pf0 := (H1.out).b0.free; obtain ⟨p1_0, p1_1, p1_2, p1_3, p1_4, p1_5, p1_6, p1_7, p1_8, p1_9, p1_10⟩ := (H1.out).tl.b0.cells11; have pf1 := (H1.out).tl.b0.free; obtain ⟨p2_0, p2_1, p2_2, p2_3, p2_4, p2_5, p2_6, p2_7⟩ := (H1.out).tl.tl.b0.cells8; have pf2 := (H1.out).tl.tl.b0.free) | (go_at_call 11; (with_reducible refine (rpast_any _ _ _ _).mono ?_); rintro e w1 ⟨he, rfl⟩; rw [HO.out] at he; subst he))
  go_cut [2, 14] (fun y x wx => x = .bool r ∧ y = .int .i64 st ∧ wx = w1)
  case first =>
    go_wp2
    all_goals
      go_meet
      exact ⟨congrArg Value.bool (by rw [← HR.out]; first | exact recV_bool | exact recV_bool.symm | (unfold recV; simp_all; done) | (rename_i k1 k2; first | exact recV_8 k1 k2 | exact (recV_8 k1 k2).symm)), by simp_all, rfl⟩
  case rest =>
    obtain ⟨rfl, rfl, rfl⟩ := hcut
    have HV := Lib.hid (show takeF (⟨lb, lc, lu, lk, lt, lz, lv⟩ : Lz) 2 mc mp mt r o gd = actV (⟨lb, lc, lu, lk, lt, lz, lv⟩ : Lz) mc (clkAdd mp 0) mt r o from rfl)
    go_wp2_with (go_at_call 20; ((with_reducible refine (active_any _ _ _ _ _ _ _ _ _ _ _ _ _ _ _ _ _ _ _ _ _ _).mono ?_)); rintro e w6 ⟨rfl, hx⟩; have H5 := Lib.hid (H1.out.keep hx); clear hx; simp only [Lz.val] at *; obtain ⟨q0_0, q0_1, q0_2, q0_3, q0_4, q0_5, q0_6, q0_7⟩ := (H5.out).b0.cells8; have qf0 := (H5.out).b0.free; obtain ⟨q1_0, q1_1, q1_2, q1_3, q1_4, q1_5, q1_6, q1_7, q1_8, q1_9, q1_10⟩ := (H5.out).tl.b0.cells11; have qf1 := (H5.out).tl.b0.free; obtain ⟨q2_0, q2_1, q2_2, q2_3, q2_4, q2_5, q2_6, q2_7⟩ := (H5.out).tl.tl.b0.cells8; have qf2 := (H5.out).tl.tl.b0.free)
    all_goals
      refine ret_by rfl ?_
      apply Exists.intro
      apply And.intro
      focus (simp [results, Try.results10, go_sem, q0_0, q0_1, q0_2, q0_3, q0_4, q0_5, q0_6, q0_7]; exact rfl)
      refine ⟨?_, ?_⟩
      · rw [HV.out]
        first | rfl | exact ret_pair (by simp only [Lz.val]; congr <;> omega) rfl
      · repeat (with_reducible refine below_set ?_ (by omega) _)
        exact H5.out.2

set_option maxRecDepth 100000 in
set_option maxHeartbeats 40000000 in
theorem rtake_fair5 (la lb : Int) (lc : ByteArray) (lu lk lt lz lv : Int) (m0 m1 m2 m3 m4 ma : Int) (mc : ByteArray) (mp mt : Int) (mo : Bool) (st now gd : Int) (w : World) (hf : FairP la lb lc lu lk lt lz lv m0 ma 5 mc mp mt) : Calls Try.prog 10 #[.agg #[.int .u32 la, .int .i64 lb, .string lc, .int .i64 lu, .int .i64 lk, .int .i64 lt, .int .i64 lz, .int .i64 lv], .agg #[.int .i64 m0, .int .i64 m1, .int .i64 m2, .int .i64 m3, .int .i64 m4, .int .u32 ma, .int .i64 5, .string mc, .int .i64 mp, .int .i64 mt, .bool mo], .int .i64 st, .int .i64 now, .int .i64 gd] w fun e w' => e = .returned (.tuple #[(takeV la ⟨lb, lc, lu, lk, lt, lz, lv⟩ m0 ma 5 mc mp mt st now gd).1.val la, .bool (takeV la ⟨lb, lc, lu, lk, lt, lz, lv⟩ m0 ma 5 mc mp mt st now gd).2]) ∧ Below w.heap.size w w' := by
  have H0 := Lib.hid ((((HeldB.nil (lowA (lowA (low0 w (.cells #[.int .u32 la, .int .i64 lb, .string lc, .int .i64 lu, .int .i64 lk, .int .i64 lt, .int .i64 lz, .int .i64 lv] 25)) (.cells #[.int .i64 m0, .int .i64 m1, .int .i64 m2, .int .i64 m3, .int .i64 m4, .int .u32 ma, .int .i64 5, .string mc, .int .i64 mp, .int .i64 mt, .bool mo] 27)) (.cells #[.int .u32 0, .int .i64 0, .string { data := #[] }, .int .i64 0, .int .i64 0, .int .i64 0, .int .i64 0, .int .i64 0] 25))).cons ((Blk.new2' w #[.int .u32 la, .int .i64 lb, .string lc, .int .i64 lu, .int .i64 lk, .int .i64 lt, .int .i64 lz, .int .i64 lv] 25 (.cells #[.int .i64 m0, .int .i64 m1, .int .i64 m2, .int .i64 m3, .int .i64 m4, .int .u32 ma, .int .i64 5, .string mc, .int .i64 mp, .int .i64 mt, .bool mo] 27)).alloc (.cells #[.int .u32 0, .int .i64 0, .string { data := #[] }, .int .i64 0, .int .i64 0, .int .i64 0, .int .i64 0, .int .i64 0] 25))).cons ((Blk.new2 w (.cells #[.int .u32 la, .int .i64 lb, .string lc, .int .i64 lu, .int .i64 lk, .int .i64 lt, .int .i64 lz, .int .i64 lv] 25) #[.int .i64 m0, .int .i64 m1, .int .i64 m2, .int .i64 m3, .int .i64 m4, .int .u32 ma, .int .i64 5, .string mc, .int .i64 mp, .int .i64 mt, .bool mo] 27).alloc (.cells #[.int .u32 0, .int .i64 0, .string { data := #[] }, .int .i64 0, .int .i64 0, .int .i64 0, .int .i64 0, .int .i64 0] 25))).cons (Blk.new3 w (.cells #[.int .u32 la, .int .i64 lb, .string lc, .int .i64 lu, .int .i64 lk, .int .i64 lt, .int .i64 lz, .int .i64 lv] 25) (.cells #[.int .i64 m0, .int .i64 m1, .int .i64 m2, .int .i64 m3, .int .i64 m4, .int .u32 ma, .int .i64 5, .string mc, .int .i64 mp, .int .i64 mt, .bool mo] 27) #[.int .u32 0, .int .i64 0, .string { data := #[] }, .int .i64 0, .int .i64 0, .int .i64 0, .int .i64 0, .int .i64 0] 25))
  have HF := Lib.hid (show decide (FairP la lb lc lu lk lt lz lv m0 ma 5 mc mp mt) = true from decide_eq_true hf)
  rw [show takeV la ⟨lb, lc, lu, lk, lt, lz, lv⟩ m0 ma 5 mc mp mt st now gd = takeF ⟨lb, lc, lu, lk, lt, lz, lv⟩ 5 mc mp mt (recV st) (clkPast now lu 0) gd from if_pos hf]
  clear hf
  generalize hrr : recV st = r
  generalize hoo : clkPast now lu 0 = o
  have HR := Lib.hid hrr
  have HO := Lib.hid hoo
  clear hrr hoo
  go_enter Try.func10, Try.ntmps10
  go_upto_region 5 with (first | (go_at_call 19; ((with_reducible refine (rfair_any _ _ _ _ _ _ _ _ _ _ _ _ _ _ _ _ _ _ _ _).mono ?_)); rintro e w1 ⟨he, hx⟩; rw [HF.out] at he; subst he; have H1 := Lib.hid (H0.out.keep hx); clear hx; obtain ⟨p0_0, p0_1, p0_2, p0_3, p0_4, p0_5, p0_6, p0_7⟩ := (H1.out).b0.cells8; have pf0 := (H1.out).b0.free; obtain ⟨p1_0, p1_1, p1_2, p1_3, p1_4, p1_5, p1_6, p1_7, p1_8, p1_9, p1_10⟩ := (H1.out).tl.b0.cells11; have pf1 := (H1.out).tl.b0.free; obtain ⟨p2_0, p2_1, p2_2, p2_3, p2_4, p2_5, p2_6, p2_7⟩ := (H1.out).tl.tl.b0.cells8; have pf2 := (H1.out).tl.tl.b0.free) | (go_at_call 11; (with_reducible refine (rpast_any _ _ _ _).mono ?_); rintro e w1 ⟨he, rfl⟩; rw [HO.out] at he; subst he))
  go_cut [2, 14] (fun y x wx => x = .bool r ∧ y = .int .i64 st ∧ wx = w1)
  case first =>
    go_wp2
    all_goals
      go_meet
      exact ⟨congrArg Value.bool (by rw [← HR.out]; first | exact recV_bool | exact recV_bool.symm | (unfold recV; simp_all; done) | (rename_i k1 k2; first | exact recV_8 k1 k2 | exact (recV_8 k1 k2).symm)), by simp_all, rfl⟩
  case rest =>
    obtain ⟨rfl, rfl, rfl⟩ := hcut
    have HV := Lib.hid (show takeF (⟨lb, lc, lu, lk, lt, lz, lv⟩ : Lz) 5 mc mp mt r o gd = (bareL 5 lv, true) from by simp [takeF, actV, endV, freeV, bareL, ])
    go_wp2_with (go_at_call 22; ((with_reducible refine (rbare_any _ _ _ _).mono ?_)); rintro e w6 ⟨rfl, hx⟩; have H5 := Lib.hid (H1.out.keep hx); clear hx; obtain ⟨q0_0, q0_1, q0_2, q0_3, q0_4, q0_5, q0_6, q0_7⟩ := (H5.out).b0.cells8; have qf0 := (H5.out).b0.free; obtain ⟨q1_0, q1_1, q1_2, q1_3, q1_4, q1_5, q1_6, q1_7, q1_8, q1_9, q1_10⟩ := (H5.out).tl.b0.cells11; have qf1 := (H5.out).tl.b0.free; obtain ⟨q2_0, q2_1, q2_2, q2_3, q2_4, q2_5, q2_6, q2_7⟩ := (H5.out).tl.tl.b0.cells8; have qf2 := (H5.out).tl.tl.b0.free)
    all_goals
      refine ret_by rfl ?_
      apply Exists.intro
      apply And.intro
      focus (simp [results, Try.results10, go_sem, q0_0, q0_1, q0_2, q0_3, q0_4, q0_5, q0_6, q0_7]; exact rfl)
      refine ⟨?_, ?_⟩
      · rw [HV.out]
        first | rfl | exact ret_pair (by simp only [Lz.val]; congr <;> omega) rfl
      · repeat (with_reducible refine below_set ?_ (by omega) _)
        exact H5.out.2

end Go.Proofs.Ytkpgchhbeebgkaa
