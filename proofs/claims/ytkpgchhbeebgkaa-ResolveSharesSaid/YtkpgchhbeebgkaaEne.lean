/- What is known of an address behind what is told of it: that it was released. -/
import Derived.Test.YtkpgchhbeebgkaaTak
namespace Go.Proofs.Ytkpgchhbeebgkaa
open Go.ChangeShapes Go.WideShapes Go.ChangeAt Go.RowKit
set_option linter.unusedVariables false
set_option linter.unusedSimpArgs false

set_option maxRecDepth 100000 in
set_option maxHeartbeats 16000000 in
theorem ended4_any (la lb : Int) (lc : ByteArray) (lu lk lt lz lv : Int) (m0 m1 m2 m3 m4 ma : Int) (mc : ByteArray) (mp mt : Int) (mo : Bool) (y : Bool) (w : World) : Calls Try.prog 21 #[.agg #[.int .u32 la, .int .i64 lb, .string lc, .int .i64 lu, .int .i64 lk, .int .i64 lt, .int .i64 lz, .int .i64 lv], .agg #[.int .i64 m0, .int .i64 m1, .int .i64 m2, .int .i64 m3, .int .i64 m4, .int .u32 ma, .int .i64 4, .string mc, .int .i64 mp, .int .i64 mt, .bool mo], .bool y] w fun e w' => e = .returned (.tuple #[(endV ⟨lb, lc, lu, lk, lt, lz, lv⟩ 4 mc mt mp y).1.val la, .bool (endV ⟨lb, lc, lu, lk, lt, lz, lv⟩ 4 mc mt mp y).2]) ∧ Below w.heap.size w w' := by
  have H0 := Lib.hid ((((HeldB.nil (lowA (lowA (low0 w (.cells #[.int .u32 la, .int .i64 lb, .string lc, .int .i64 lu, .int .i64 lk, .int .i64 lt, .int .i64 lz, .int .i64 lv] 25)) (.cells #[.int .i64 m0, .int .i64 m1, .int .i64 m2, .int .i64 m3, .int .i64 m4, .int .u32 ma, .int .i64 4, .string mc, .int .i64 mp, .int .i64 mt, .bool mo] 27)) (.cells #[.int .u32 0, .int .i64 0, .string { data := #[] }, .int .i64 0, .int .i64 0, .int .i64 0, .int .i64 0, .int .i64 0] 25))).cons ((Blk.new2' w #[.int .u32 la, .int .i64 lb, .string lc, .int .i64 lu, .int .i64 lk, .int .i64 lt, .int .i64 lz, .int .i64 lv] 25 (.cells #[.int .i64 m0, .int .i64 m1, .int .i64 m2, .int .i64 m3, .int .i64 m4, .int .u32 ma, .int .i64 4, .string mc, .int .i64 mp, .int .i64 mt, .bool mo] 27)).alloc (.cells #[.int .u32 0, .int .i64 0, .string { data := #[] }, .int .i64 0, .int .i64 0, .int .i64 0, .int .i64 0, .int .i64 0] 25))).cons ((Blk.new2 w (.cells #[.int .u32 la, .int .i64 lb, .string lc, .int .i64 lu, .int .i64 lk, .int .i64 lt, .int .i64 lz, .int .i64 lv] 25) #[.int .i64 m0, .int .i64 m1, .int .i64 m2, .int .i64 m3, .int .i64 m4, .int .u32 ma, .int .i64 4, .string mc, .int .i64 mp, .int .i64 mt, .bool mo] 27).alloc (.cells #[.int .u32 0, .int .i64 0, .string { data := #[] }, .int .i64 0, .int .i64 0, .int .i64 0, .int .i64 0, .int .i64 0] 25))).cons (Blk.new3 w (.cells #[.int .u32 la, .int .i64 lb, .string lc, .int .i64 lu, .int .i64 lk, .int .i64 lt, .int .i64 lz, .int .i64 lv] 25) (.cells #[.int .i64 m0, .int .i64 m1, .int .i64 m2, .int .i64 m3, .int .i64 m4, .int .u32 ma, .int .i64 4, .string mc, .int .i64 mp, .int .i64 mt, .bool mo] 27) #[.int .u32 0, .int .i64 0, .string { data := #[] }, .int .i64 0, .int .i64 0, .int .i64 0, .int .i64 0, .int .i64 0] 25))
  have HVV := Lib.hid (show verV 4 mp mt = mp from rfl)
  by_cases h5 : lb = 5
  · have k5 : (lb == 5) = true := beq_iff_eq.2 h5
    have HV := Lib.hid (show endV ⟨lb, lc, lu, lk, lt, lz, lv⟩ 4 mc mt mp y = (⟨lb, lc, lu, lk, lt, lz, lv⟩, true) from by simp [endV, h5])
    clear h5
    go_enter Try.func21, Try.ntmps21
    go_wp2_with (first | (go_at_call 30; with_reducible refine (radd_any _ _ _).mono ?_; rintro e w1 ⟨rfl, rfl⟩) | (go_at_call 28; ((with_reducible refine (rver_any _ _ _ _ _ _ _ _ _ _ _ _).mono ?_)); rintro e w2 ⟨he, hx⟩; rw [HVV.out] at he; subst he; have H1 := Lib.hid (H0.out.keep hx); clear hx; obtain ⟨p0_0, p0_1, p0_2, p0_3, p0_4, p0_5, p0_6, p0_7⟩ := (H1.out).b0.cells8; have pf0 := (H1.out).b0.free; obtain ⟨p1_0, p1_1, p1_2, p1_3, p1_4, p1_5, p1_6, p1_7, p1_8, p1_9, p1_10⟩ := (H1.out).tl.b0.cells11; have pf1 := (H1.out).tl.b0.free; obtain ⟨p2_0, p2_1, p2_2, p2_3, p2_4, p2_5, p2_6, p2_7⟩ := (H1.out).tl.tl.b0.cells8; have pf2 := (H1.out).tl.tl.b0.free; have HB := Lib.hid H1.out.2))
    all_goals
      refine ret_by rfl ?_
      apply Exists.intro
      apply And.intro
      focus (simp [results, Try.results21, go_sem, p0_0, p0_1, p0_2, p0_3, p0_4, p0_5, p0_6, p0_7]; exact rfl)
      refine ⟨?_, ?_⟩
      · rw [HV.out]
        first | rfl | exact ret_pair (by simp only [Lz.val]; congr <;> omega) rfl
      · repeat (with_reducible refine below_set ?_ (by omega) _)
        exact HB.out
  · have k5 : (lb == 5) = false := beq_eq_false_iff_ne.2 h5
    by_cases hl : mp < lv
    · have kl : decide (mp < lv) = true := decide_eq_true hl
      have HV := Lib.hid (show endV ⟨lb, lc, lu, lk, lt, lz, lv⟩ 4 mc mt mp y = (⟨lb, lc, lu, lk, lt, lz, lv⟩, false) from by simp [endV, h5, hl])
      clear h5 hl
      go_enter Try.func21, Try.ntmps21
      go_wp2_with (first | (go_at_call 30; with_reducible refine (radd_any _ _ _).mono ?_; rintro e w1 ⟨rfl, rfl⟩) | (go_at_call 28; ((with_reducible refine (rver_any _ _ _ _ _ _ _ _ _ _ _ _).mono ?_)); rintro e w2 ⟨he, hx⟩; rw [HVV.out] at he; subst he; have H1 := Lib.hid (H0.out.keep hx); clear hx; obtain ⟨p0_0, p0_1, p0_2, p0_3, p0_4, p0_5, p0_6, p0_7⟩ := (H1.out).b0.cells8; have pf0 := (H1.out).b0.free; obtain ⟨p1_0, p1_1, p1_2, p1_3, p1_4, p1_5, p1_6, p1_7, p1_8, p1_9, p1_10⟩ := (H1.out).tl.b0.cells11; have pf1 := (H1.out).tl.b0.free; obtain ⟨p2_0, p2_1, p2_2, p2_3, p2_4, p2_5, p2_6, p2_7⟩ := (H1.out).tl.tl.b0.cells8; have pf2 := (H1.out).tl.tl.b0.free; have HB := Lib.hid H1.out.2))
      all_goals
        refine ret_by rfl ?_
        apply Exists.intro
        apply And.intro
        focus (simp [results, Try.results21, go_sem, p0_0, p0_1, p0_2, p0_3, p0_4, p0_5, p0_6, p0_7]; exact rfl)
        refine ⟨?_, ?_⟩
        · rw [HV.out]
          first | rfl | exact ret_pair (by simp only [Lz.val]; congr <;> omega) rfl
        · repeat (with_reducible refine below_set ?_ (by omega) _)
          exact HB.out
    · have kl : decide (mp < lv) = false := decide_eq_false hl
      by_cases h2 : lb = 2
      · have k2 : (lb == 2) = true := beq_iff_eq.2 h2
        by_cases hc : lc = mc
        · have kc := str_eqb' hc
          have kd := str_eqb hc
          cases y
          · skip
            have HV := Lib.hid (show endV ⟨lb, lc, lu, lk, lt, lz, lv⟩ 4 mc mt mp false = (⟨lb, lc, lu, lk, lt, lz, lv⟩, false) from by simp [endV, h5, hl, h2, hc])
            clear h5 hl h2 hc
            go_enter Try.func21, Try.ntmps21
            go_wp2_with (first | (go_at_call 30; with_reducible refine (radd_any _ _ _).mono ?_; rintro e w1 ⟨rfl, rfl⟩) | (go_at_call 28; ((with_reducible refine (rver_any _ _ _ _ _ _ _ _ _ _ _ _).mono ?_)); rintro e w2 ⟨he, hx⟩; rw [HVV.out] at he; subst he; have H1 := Lib.hid (H0.out.keep hx); clear hx; obtain ⟨p0_0, p0_1, p0_2, p0_3, p0_4, p0_5, p0_6, p0_7⟩ := (H1.out).b0.cells8; have pf0 := (H1.out).b0.free; obtain ⟨p1_0, p1_1, p1_2, p1_3, p1_4, p1_5, p1_6, p1_7, p1_8, p1_9, p1_10⟩ := (H1.out).tl.b0.cells11; have pf1 := (H1.out).tl.b0.free; obtain ⟨p2_0, p2_1, p2_2, p2_3, p2_4, p2_5, p2_6, p2_7⟩ := (H1.out).tl.tl.b0.cells8; have pf2 := (H1.out).tl.tl.b0.free; have HB := Lib.hid H1.out.2))
            all_goals
              refine ret_by rfl ?_
              apply Exists.intro
              apply And.intro
              focus (simp [results, Try.results21, go_sem, p0_0, p0_1, p0_2, p0_3, p0_4, p0_5, p0_6, p0_7]; exact rfl)
              refine ⟨?_, ?_⟩
              · rw [HV.out]
                first | rfl | exact ret_pair (by simp only [Lz.val]; congr <;> omega) rfl
              · repeat (with_reducible refine below_set ?_ (by omega) _)
                exact HB.out
          · skip
            have HV := Lib.hid (show endV ⟨lb, lc, lu, lk, lt, lz, lv⟩ 4 mc mt mp true = (⟨4, lc, lu, lk, lt, lz, mp⟩, true) from by simp [endV, h5, hl, h2, hc])
            clear h5 hl h2 hc
            go_enter Try.func21, Try.ntmps21
            go_wp2_with (first | (go_at_call 30; with_reducible refine (radd_any _ _ _).mono ?_; rintro e w1 ⟨rfl, rfl⟩) | (go_at_call 28; ((with_reducible refine (rver_any _ _ _ _ _ _ _ _ _ _ _ _).mono ?_)); rintro e w2 ⟨he, hx⟩; rw [HVV.out] at he; subst he; have H1 := Lib.hid (H0.out.keep hx); clear hx; obtain ⟨p0_0, p0_1, p0_2, p0_3, p0_4, p0_5, p0_6, p0_7⟩ := (H1.out).b0.cells8; have pf0 := (H1.out).b0.free; obtain ⟨p1_0, p1_1, p1_2, p1_3, p1_4, p1_5, p1_6, p1_7, p1_8, p1_9, p1_10⟩ := (H1.out).tl.b0.cells11; have pf1 := (H1.out).tl.b0.free; obtain ⟨p2_0, p2_1, p2_2, p2_3, p2_4, p2_5, p2_6, p2_7⟩ := (H1.out).tl.tl.b0.cells8; have pf2 := (H1.out).tl.tl.b0.free; have HB := Lib.hid H1.out.2))
            all_goals
              refine ret_by rfl ?_
              apply Exists.intro
              apply And.intro
              focus (simp [results, Try.results21, go_sem, p0_0, p0_1, p0_2, p0_3, p0_4, p0_5, p0_6, p0_7]; exact rfl)
              refine ⟨?_, ?_⟩
              · rw [HV.out]
                first | rfl | exact ret_pair (by simp only [Lz.val]; congr <;> omega) rfl
              · repeat (with_reducible refine below_set ?_ (by omega) _)
                exact HB.out
        · have kc := str_ne' hc
          have kd := str_ne hc
          have HV := Lib.hid (show endV ⟨lb, lc, lu, lk, lt, lz, lv⟩ 4 mc mt mp y = (⟨lb, lc, lu, lk, lt, lz, lv⟩, false) from by simp [endV, h5, hl, h2, hc])
          clear h5 hl h2 hc
          go_enter Try.func21, Try.ntmps21
          go_wp2_with (first | (go_at_call 30; with_reducible refine (radd_any _ _ _).mono ?_; rintro e w1 ⟨rfl, rfl⟩) | (go_at_call 28; ((with_reducible refine (rver_any _ _ _ _ _ _ _ _ _ _ _ _).mono ?_)); rintro e w2 ⟨he, hx⟩; rw [HVV.out] at he; subst he; have H1 := Lib.hid (H0.out.keep hx); clear hx; obtain ⟨p0_0, p0_1, p0_2, p0_3, p0_4, p0_5, p0_6, p0_7⟩ := (H1.out).b0.cells8; have pf0 := (H1.out).b0.free; obtain ⟨p1_0, p1_1, p1_2, p1_3, p1_4, p1_5, p1_6, p1_7, p1_8, p1_9, p1_10⟩ := (H1.out).tl.b0.cells11; have pf1 := (H1.out).tl.b0.free; obtain ⟨p2_0, p2_1, p2_2, p2_3, p2_4, p2_5, p2_6, p2_7⟩ := (H1.out).tl.tl.b0.cells8; have pf2 := (H1.out).tl.tl.b0.free; have HB := Lib.hid H1.out.2))
          all_goals
            refine ret_by rfl ?_
            apply Exists.intro
            apply And.intro
            focus (simp [results, Try.results21, go_sem, p0_0, p0_1, p0_2, p0_3, p0_4, p0_5, p0_6, p0_7]; exact rfl)
            refine ⟨?_, ?_⟩
            · rw [HV.out]
              first | rfl | exact ret_pair (by simp only [Lz.val]; congr <;> omega) rfl
            · repeat (with_reducible refine below_set ?_ (by omega) _)
              exact HB.out
      · have k2 : (lb == 2) = false := beq_eq_false_iff_ne.2 h2
        by_cases h3 : lb = 3
        · have k3 : (lb == 3) = true := beq_iff_eq.2 h3
          by_cases hv : lv = mp
          · have kv : (lv == mp) = true := beq_iff_eq.2 hv
            have HV := Lib.hid (show endV ⟨lb, lc, lu, lk, lt, lz, lv⟩ 4 mc mt mp y = (⟨lb, lc, lu, lk, lt, lz, lv⟩, true) from by simp [endV, h5, hl, h2, h3, hv])
            clear h5 hl h2 h3 hv
            go_enter Try.func21, Try.ntmps21
            go_wp2_with (first | (go_at_call 30; with_reducible refine (radd_any _ _ _).mono ?_; rintro e w1 ⟨rfl, rfl⟩) | (go_at_call 28; ((with_reducible refine (rver_any _ _ _ _ _ _ _ _ _ _ _ _).mono ?_)); rintro e w2 ⟨he, hx⟩; rw [HVV.out] at he; subst he; have H1 := Lib.hid (H0.out.keep hx); clear hx; obtain ⟨p0_0, p0_1, p0_2, p0_3, p0_4, p0_5, p0_6, p0_7⟩ := (H1.out).b0.cells8; have pf0 := (H1.out).b0.free; obtain ⟨p1_0, p1_1, p1_2, p1_3, p1_4, p1_5, p1_6, p1_7, p1_8, p1_9, p1_10⟩ := (H1.out).tl.b0.cells11; have pf1 := (H1.out).tl.b0.free; obtain ⟨p2_0, p2_1, p2_2, p2_3, p2_4, p2_5, p2_6, p2_7⟩ := (H1.out).tl.tl.b0.cells8; have pf2 := (H1.out).tl.tl.b0.free; have HB := Lib.hid H1.out.2))
            all_goals
              refine ret_by rfl ?_
              apply Exists.intro
              apply And.intro
              focus (simp [results, Try.results21, go_sem, p0_0, p0_1, p0_2, p0_3, p0_4, p0_5, p0_6, p0_7]; exact rfl)
              refine ⟨?_, ?_⟩
              · rw [HV.out]
                first | rfl | exact ret_pair (by simp only [Lz.val]; congr <;> omega) rfl
              · repeat (with_reducible refine below_set ?_ (by omega) _)
                exact HB.out
          · have kv : (lv == mp) = false := beq_eq_false_iff_ne.2 hv
            have HV := Lib.hid (show endV ⟨lb, lc, lu, lk, lt, lz, lv⟩ 4 mc mt mp y = (⟨4, mc, 0, 0, 0, clkAdd mt 0, mp⟩, true) from by simp [endV, h5, hl, h2, h3, hv])
            clear h5 hl h2 h3 hv
            go_enter Try.func21, Try.ntmps21
            go_upto_region 15 with (first | (go_at_call 30; with_reducible refine (radd_any _ _ _).mono ?_; rintro e w1 ⟨rfl, rfl⟩) | (go_at_call 28; ((with_reducible refine (rver_any _ _ _ _ _ _ _ _ _ _ _ _).mono ?_)); rintro e w2 ⟨he, hx⟩; rw [HVV.out] at he; subst he; have H1 := Lib.hid (H0.out.keep hx); clear hx; obtain ⟨p0_0, p0_1, p0_2, p0_3, p0_4, p0_5, p0_6, p0_7⟩ := (H1.out).b0.cells8; have pf0 := (H1.out).b0.free; obtain ⟨p1_0, p1_1, p1_2, p1_3, p1_4, p1_5, p1_6, p1_7, p1_8, p1_9, p1_10⟩ := (H1.out).tl.b0.cells11; have pf1 := (H1.out).tl.b0.free; obtain ⟨p2_0, p2_1, p2_2, p2_3, p2_4, p2_5, p2_6, p2_7⟩ := (H1.out).tl.tl.b0.cells8; have pf2 := (H1.out).tl.tl.b0.free; have HB := Lib.hid H1.out.2))
            clear p0_0 p0_1 p0_2 p0_3 p0_4 p0_5 p0_6 p0_7 p1_0 p1_1 p1_2 p1_3 p1_4 p1_5 p1_6 p1_7 p1_8 p1_9 p1_10 p2_0 p2_1 p2_2 p2_3 p2_4 p2_5 p2_6 p2_7 pf0 pf1 pf2
            have H2 := Lib.hid (H1.out.new #[.int .u32 la, .int .i64 4, .string mc, .int .i64 0, .int .i64 0, .int .i64 0, .int .i64 0, .int .i64 mp] 25)
            have hgo : w.heap.size + 1 + 1 < w2.heap.size := H1.out.b0.lt
            generalize w2.alloc (.cells #[.int .u32 la, .int .i64 4, .string mc, .int .i64 0, .int .i64 0, .int .i64 0, .int .i64 0, .int .i64 mp] 25) = w3 at *
            generalize w2.heap.size = g3 at *
            obtain ⟨q0_0, q0_1, q0_2, q0_3, q0_4, q0_5, q0_6, q0_7⟩ := (H2.out).b0.cells8; have qf0 := (H2.out).b0.free; obtain ⟨q1_0, q1_1, q1_2, q1_3, q1_4, q1_5, q1_6, q1_7⟩ := (H2.out).tl.b0.cells8; have qf1 := (H2.out).tl.b0.free; obtain ⟨q2_0, q2_1, q2_2, q2_3, q2_4, q2_5, q2_6, q2_7, q2_8, q2_9, q2_10⟩ := (H2.out).tl.tl.b0.cells11; have qf2 := (H2.out).tl.tl.b0.free; obtain ⟨q3_0, q3_1, q3_2, q3_3, q3_4, q3_5, q3_6, q3_7⟩ := (H2.out).tl.tl.tl.b0.cells8; have qf3 := (H2.out).tl.tl.tl.b0.free
            go_wp2_with ((go_at_call 30; with_reducible refine (radd_any _ _ _).mono ?_; rintro e w1 ⟨rfl, rfl⟩))
            all_goals
              refine ret_by rfl ?_
              apply Exists.intro
              apply And.intro
              focus (simp [results, Try.results21, go_sem, q1_0, q1_1, q1_2, q1_3, q1_4, q1_5, q1_6, q1_7]; exact rfl)
              refine ⟨?_, ?_⟩
              · rw [HV.out]
                first | rfl | exact ret_pair (by simp only [Lz.val]; congr <;> omega) rfl
              · repeat (with_reducible refine below_set ?_ (by omega) _)
                exact H2.out.2
        · have k3 : (lb == 3) = false := beq_eq_false_iff_ne.2 h3
          by_cases h4 : lb = 4
          · have k4 : (lb == 4) = true := beq_iff_eq.2 h4
            by_cases hv : lv = mp
            · have kv : (lv == mp) = true := beq_iff_eq.2 hv
              have HV := Lib.hid (show endV ⟨lb, lc, lu, lk, lt, lz, lv⟩ 4 mc mt mp y = (⟨lb, lc, lu, lk, lt, lz, lv⟩, true) from by simp [endV, h5, hl, h2, h3, h4, hv])
              clear h5 hl h2 h3 h4 hv
              go_enter Try.func21, Try.ntmps21
              go_wp2_with (first | (go_at_call 30; with_reducible refine (radd_any _ _ _).mono ?_; rintro e w1 ⟨rfl, rfl⟩) | (go_at_call 28; ((with_reducible refine (rver_any _ _ _ _ _ _ _ _ _ _ _ _).mono ?_)); rintro e w2 ⟨he, hx⟩; rw [HVV.out] at he; subst he; have H1 := Lib.hid (H0.out.keep hx); clear hx; obtain ⟨p0_0, p0_1, p0_2, p0_3, p0_4, p0_5, p0_6, p0_7⟩ := (H1.out).b0.cells8; have pf0 := (H1.out).b0.free; obtain ⟨p1_0, p1_1, p1_2, p1_3, p1_4, p1_5, p1_6, p1_7, p1_8, p1_9, p1_10⟩ := (H1.out).tl.b0.cells11; have pf1 := (H1.out).tl.b0.free; obtain ⟨p2_0, p2_1, p2_2, p2_3, p2_4, p2_5, p2_6, p2_7⟩ := (H1.out).tl.tl.b0.cells8; have pf2 := (H1.out).tl.tl.b0.free; have HB := Lib.hid H1.out.2))
              all_goals
                refine ret_by rfl ?_
                apply Exists.intro
                apply And.intro
                focus (simp [results, Try.results21, go_sem, p0_0, p0_1, p0_2, p0_3, p0_4, p0_5, p0_6, p0_7]; exact rfl)
                refine ⟨?_, ?_⟩
                · rw [HV.out]
                  first | rfl | exact ret_pair (by simp only [Lz.val]; congr <;> omega) rfl
                · repeat (with_reducible refine below_set ?_ (by omega) _)
                  exact HB.out
            · have kv : (lv == mp) = false := beq_eq_false_iff_ne.2 hv
              have HV := Lib.hid (show endV ⟨lb, lc, lu, lk, lt, lz, lv⟩ 4 mc mt mp y = (⟨4, mc, 0, 0, 0, clkAdd mt 0, mp⟩, true) from by simp [endV, h5, hl, h2, h3, h4, hv])
              clear h5 hl h2 h3 h4 hv
              go_enter Try.func21, Try.ntmps21
              go_upto_region 15 with (first | (go_at_call 30; with_reducible refine (radd_any _ _ _).mono ?_; rintro e w1 ⟨rfl, rfl⟩) | (go_at_call 28; ((with_reducible refine (rver_any _ _ _ _ _ _ _ _ _ _ _ _).mono ?_)); rintro e w2 ⟨he, hx⟩; rw [HVV.out] at he; subst he; have H1 := Lib.hid (H0.out.keep hx); clear hx; obtain ⟨p0_0, p0_1, p0_2, p0_3, p0_4, p0_5, p0_6, p0_7⟩ := (H1.out).b0.cells8; have pf0 := (H1.out).b0.free; obtain ⟨p1_0, p1_1, p1_2, p1_3, p1_4, p1_5, p1_6, p1_7, p1_8, p1_9, p1_10⟩ := (H1.out).tl.b0.cells11; have pf1 := (H1.out).tl.b0.free; obtain ⟨p2_0, p2_1, p2_2, p2_3, p2_4, p2_5, p2_6, p2_7⟩ := (H1.out).tl.tl.b0.cells8; have pf2 := (H1.out).tl.tl.b0.free; have HB := Lib.hid H1.out.2))
              clear p0_0 p0_1 p0_2 p0_3 p0_4 p0_5 p0_6 p0_7 p1_0 p1_1 p1_2 p1_3 p1_4 p1_5 p1_6 p1_7 p1_8 p1_9 p1_10 p2_0 p2_1 p2_2 p2_3 p2_4 p2_5 p2_6 p2_7 pf0 pf1 pf2
              have H2 := Lib.hid (H1.out.new #[.int .u32 la, .int .i64 4, .string mc, .int .i64 0, .int .i64 0, .int .i64 0, .int .i64 0, .int .i64 mp] 25)
              have hgo : w.heap.size + 1 + 1 < w2.heap.size := H1.out.b0.lt
              generalize w2.alloc (.cells #[.int .u32 la, .int .i64 4, .string mc, .int .i64 0, .int .i64 0, .int .i64 0, .int .i64 0, .int .i64 mp] 25) = w3 at *
              generalize w2.heap.size = g3 at *
              obtain ⟨q0_0, q0_1, q0_2, q0_3, q0_4, q0_5, q0_6, q0_7⟩ := (H2.out).b0.cells8; have qf0 := (H2.out).b0.free; obtain ⟨q1_0, q1_1, q1_2, q1_3, q1_4, q1_5, q1_6, q1_7⟩ := (H2.out).tl.b0.cells8; have qf1 := (H2.out).tl.b0.free; obtain ⟨q2_0, q2_1, q2_2, q2_3, q2_4, q2_5, q2_6, q2_7, q2_8, q2_9, q2_10⟩ := (H2.out).tl.tl.b0.cells11; have qf2 := (H2.out).tl.tl.b0.free; obtain ⟨q3_0, q3_1, q3_2, q3_3, q3_4, q3_5, q3_6, q3_7⟩ := (H2.out).tl.tl.tl.b0.cells8; have qf3 := (H2.out).tl.tl.tl.b0.free
              go_wp2_with ((go_at_call 30; with_reducible refine (radd_any _ _ _).mono ?_; rintro e w1 ⟨rfl, rfl⟩))
              all_goals
                refine ret_by rfl ?_
                apply Exists.intro
                apply And.intro
                focus (simp [results, Try.results21, go_sem, q1_0, q1_1, q1_2, q1_3, q1_4, q1_5, q1_6, q1_7]; exact rfl)
                refine ⟨?_, ?_⟩
                · rw [HV.out]
                  first | rfl | exact ret_pair (by simp only [Lz.val]; congr <;> omega) rfl
                · repeat (with_reducible refine below_set ?_ (by omega) _)
                  exact H2.out.2
          · have k4 : (lb == 4) = false := beq_eq_false_iff_ne.2 h4
            have HV := Lib.hid (show endV ⟨lb, lc, lu, lk, lt, lz, lv⟩ 4 mc mt mp y = (⟨4, mc, 0, 0, 0, clkAdd mt 0, mp⟩, true) from by simp [endV, h5, hl, h2, h3, h4])
            clear h5 hl h2 h3 h4
            go_enter Try.func21, Try.ntmps21
            go_upto_region 15 with (first | (go_at_call 30; with_reducible refine (radd_any _ _ _).mono ?_; rintro e w1 ⟨rfl, rfl⟩) | (go_at_call 28; ((with_reducible refine (rver_any _ _ _ _ _ _ _ _ _ _ _ _).mono ?_)); rintro e w2 ⟨he, hx⟩; rw [HVV.out] at he; subst he; have H1 := Lib.hid (H0.out.keep hx); clear hx; obtain ⟨p0_0, p0_1, p0_2, p0_3, p0_4, p0_5, p0_6, p0_7⟩ := (H1.out).b0.cells8; have pf0 := (H1.out).b0.free; obtain ⟨p1_0, p1_1, p1_2, p1_3, p1_4, p1_5, p1_6, p1_7, p1_8, p1_9, p1_10⟩ := (H1.out).tl.b0.cells11; have pf1 := (H1.out).tl.b0.free; obtain ⟨p2_0, p2_1, p2_2, p2_3, p2_4, p2_5, p2_6, p2_7⟩ := (H1.out).tl.tl.b0.cells8; have pf2 := (H1.out).tl.tl.b0.free; have HB := Lib.hid H1.out.2))
            clear p0_0 p0_1 p0_2 p0_3 p0_4 p0_5 p0_6 p0_7 p1_0 p1_1 p1_2 p1_3 p1_4 p1_5 p1_6 p1_7 p1_8 p1_9 p1_10 p2_0 p2_1 p2_2 p2_3 p2_4 p2_5 p2_6 p2_7 pf0 pf1 pf2
            have H2 := Lib.hid (H1.out.new #[.int .u32 la, .int .i64 4, .string mc, .int .i64 0, .int .i64 0, .int .i64 0, .int .i64 0, .int .i64 mp] 25)
            have hgo : w.heap.size + 1 + 1 < w2.heap.size := H1.out.b0.lt
            generalize w2.alloc (.cells #[.int .u32 la, .int .i64 4, .string mc, .int .i64 0, .int .i64 0, .int .i64 0, .int .i64 0, .int .i64 mp] 25) = w3 at *
            generalize w2.heap.size = g3 at *
            obtain ⟨q0_0, q0_1, q0_2, q0_3, q0_4, q0_5, q0_6, q0_7⟩ := (H2.out).b0.cells8; have qf0 := (H2.out).b0.free; obtain ⟨q1_0, q1_1, q1_2, q1_3, q1_4, q1_5, q1_6, q1_7⟩ := (H2.out).tl.b0.cells8; have qf1 := (H2.out).tl.b0.free; obtain ⟨q2_0, q2_1, q2_2, q2_3, q2_4, q2_5, q2_6, q2_7, q2_8, q2_9, q2_10⟩ := (H2.out).tl.tl.b0.cells11; have qf2 := (H2.out).tl.tl.b0.free; obtain ⟨q3_0, q3_1, q3_2, q3_3, q3_4, q3_5, q3_6, q3_7⟩ := (H2.out).tl.tl.tl.b0.cells8; have qf3 := (H2.out).tl.tl.tl.b0.free
            go_wp2_with ((go_at_call 30; with_reducible refine (radd_any _ _ _).mono ?_; rintro e w1 ⟨rfl, rfl⟩))
            all_goals
              refine ret_by rfl ?_
              apply Exists.intro
              apply And.intro
              focus (simp [results, Try.results21, go_sem, q1_0, q1_1, q1_2, q1_3, q1_4, q1_5, q1_6, q1_7]; exact rfl)
              refine ⟨?_, ?_⟩
              · rw [HV.out]
                first | rfl | exact ret_pair (by simp only [Lz.val]; congr <;> omega) rfl
              · repeat (with_reducible refine below_set ?_ (by omega) _)
                exact H2.out.2

end Go.Proofs.Ytkpgchhbeebgkaa
