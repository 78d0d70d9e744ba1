/- The law ResolveKeeps, walked. -/
import Derived.Test.YtkpgchhbeebgkaaTky
namespace Go.Proofs.Ytkpgchhbeebgkaa
open Go.ChangeShapes Go.WideShapes Go.ChangeAt Go.RowKit
set_option linter.unusedVariables false
set_option linter.unusedSimpArgs false

set_option maxRecDepth 100000 in
set_option maxHeartbeats 8000000 in
theorem walk_ResolveKeeps (a0_0 : Int) (a0_1 : Int) (a0_2 : ByteArray) (a0_3 : Int) (a0_4 : Int) (a0_5 : Int) (a0_6 : Int) (a0_7 : Int) (a1_0 : Int) (a1_1 : Int) (a1_2 : Int) (a1_3 : Int) (a1_4 : Int) (a1_5 : Int) (a1_6 : Int) (a1_7 : ByteArray) (a1_8 : Int) (a1_9 : Int) (a1_10 : Bool) (a2_0 : Int) (a2_1 : Int) (a2_2 : Int) (W : World) (w0_0 : (Lit.int .u32 a0_0).wf = true) (w0_1 : (Lit.int .i64 a0_1).wf = true) (w0_2 : a0_2.size ≤ maxLen) (w0_3 : (Lit.int .i64 a0_3).wf = true) (w0_4 : (Lit.int .i64 a0_4).wf = true) (w0_5 : (Lit.int .i64 a0_5).wf = true) (w0_6 : (Lit.int .i64 a0_6).wf = true) (w0_7 : (Lit.int .i64 a0_7).wf = true) (w1_0 : (Lit.int .i64 a1_0).wf = true) (w1_1 : (Lit.int .i64 a1_1).wf = true) (w1_2 : (Lit.int .i64 a1_2).wf = true) (w1_3 : (Lit.int .i64 a1_3).wf = true) (w1_4 : (Lit.int .i64 a1_4).wf = true) (w1_5 : (Lit.int .u32 a1_5).wf = true) (w1_6 : (Lit.int .i64 a1_6).wf = true) (w1_7 : a1_7.size ≤ maxLen) (w1_8 : (Lit.int .i64 a1_8).wf = true) (w1_9 : (Lit.int .i64 a1_9).wf = true) (w2_0 : (Lit.int .i64 a2_0).wf = true) (w2_1 : (Lit.int .i64 a2_1).wf = true) (w2_2 : (Lit.int .i64 a2_2).wf = true) :
    Calls Try.prog 4 #[.agg #[.int .u32 a0_0, .int .i64 a0_1, .string a0_2, .int .i64 a0_3, .int .i64 a0_4, .int .i64 a0_5, .int .i64 a0_6, .int .i64 a0_7], .agg #[.int .i64 a1_0, .int .i64 a1_1, .int .i64 a1_2, .int .i64 a1_3, .int .i64 a1_4, .int .u32 a1_5, .int .i64 a1_6, .string a1_7, .int .i64 a1_8, .int .i64 a1_9, .bool a1_10], .agg #[.int .i64 a2_0, .int .i64 a2_1, .int .i64 a2_2]] W fun e w' => e = .returned (.bool true) ∧ Below W.heap.size W w' := by
  have H0 := Lib.hid ((((HeldB.nil (lowA (lowA (low0 W (.cells #[.int .u32 a0_0, .int .i64 a0_1, .string a0_2, .int .i64 a0_3, .int .i64 a0_4, .int .i64 a0_5, .int .i64 a0_6, .int .i64 a0_7] 25)) (.cells #[.int .i64 a1_0, .int .i64 a1_1, .int .i64 a1_2, .int .i64 a1_3, .int .i64 a1_4, .int .u32 a1_5, .int .i64 a1_6, .string a1_7, .int .i64 a1_8, .int .i64 a1_9, .bool a1_10] 27)) (.cells #[.int .i64 a2_0, .int .i64 a2_1, .int .i64 a2_2] 29))).cons ((Blk.new2' W #[.int .u32 a0_0, .int .i64 a0_1, .string a0_2, .int .i64 a0_3, .int .i64 a0_4, .int .i64 a0_5, .int .i64 a0_6, .int .i64 a0_7] 25 (.cells #[.int .i64 a1_0, .int .i64 a1_1, .int .i64 a1_2, .int .i64 a1_3, .int .i64 a1_4, .int .u32 a1_5, .int .i64 a1_6, .string a1_7, .int .i64 a1_8, .int .i64 a1_9, .bool a1_10] 27)).alloc (.cells #[.int .i64 a2_0, .int .i64 a2_1, .int .i64 a2_2] 29))).cons ((Blk.new2 W (.cells #[.int .u32 a0_0, .int .i64 a0_1, .string a0_2, .int .i64 a0_3, .int .i64 a0_4, .int .i64 a0_5, .int .i64 a0_6, .int .i64 a0_7] 25) #[.int .i64 a1_0, .int .i64 a1_1, .int .i64 a1_2, .int .i64 a1_3, .int .i64 a1_4, .int .u32 a1_5, .int .i64 a1_6, .string a1_7, .int .i64 a1_8, .int .i64 a1_9, .bool a1_10] 27).alloc (.cells #[.int .i64 a2_0, .int .i64 a2_1, .int .i64 a2_2] 29))).cons (Blk.new3 W (.cells #[.int .u32 a0_0, .int .i64 a0_1, .string a0_2, .int .i64 a0_3, .int .i64 a0_4, .int .i64 a0_5, .int .i64 a0_6, .int .i64 a0_7] 25) (.cells #[.int .i64 a1_0, .int .i64 a1_1, .int .i64 a1_2, .int .i64 a1_3, .int .i64 a1_4, .int .u32 a1_5, .int .i64 a1_6, .string a1_7, .int .i64 a1_8, .int .i64 a1_9, .bool a1_10] 27) #[.int .i64 a2_0, .int .i64 a2_1, .int .i64 a2_2] 29))
  generalize htk : takeV a0_0 ⟨a0_1, a0_2, a0_3, a0_4, a0_5, a0_6, a0_7⟩ a1_0 a1_5 a1_6 a1_7 a1_8 a1_9 a2_0 a2_1 a2_2 = tk
  obtain ⟨⟨xb, xc, xu, xk, xt, xz, xv⟩, ok⟩ := tk
  have HT := Lib.hid htk
  clear htk
  generalize hoo : clkPast a2_1 a0_3 0 = o
  have HO := Lib.hid hoo
  cases ok
  · have hn := takeV_no (by rw [HT.out])
    rw [HT.out] at hn
    obtain ⟨rfl, rfl, rfl, rfl, rfl, rfl, rfl⟩ : xb = a0_1 ∧ xc = a0_2 ∧ xu = a0_3 ∧ xk = a0_4 ∧ xt = a0_5 ∧ xz = a0_6 ∧ xv = a0_7 := by simpa using hn
    clear hn hoo
    clear w0_0 w0_1 w0_2 w0_3 w0_4 w0_5 w0_6 w0_7 w1_0 w1_1 w1_2 w1_3 w1_4 w1_5 w1_6 w1_7 w1_8 w1_9 w2_0 w2_1 w2_2
    go_enter Try.func4, Try.ntmps4
    go_upto_region 2 with (go_at_call 8; (with_reducible refine (awake_any _).mono ?_); rintro e w1 ⟨rfl, hx⟩; have H1 := Lib.hid (H0.out.keep hx); clear hx; obtain ⟨p0_0, p0_1, p0_2⟩ := (H1.out).b0.cells3; obtain ⟨p1_0, p1_1, p1_2, p1_3, p1_4, p1_5, p1_6, p1_7, p1_8, p1_9, p1_10⟩ := (H1.out).tl.b0.cells11; obtain ⟨p2_0, p2_1, p2_2, p2_3, p2_4, p2_5, p2_6, p2_7⟩ := (H1.out).tl.tl.b0.cells8)
    go_upto_region 3 with (go_at_call 9; (with_reducible refine (take_any _ _ _ _ _ _ _ _ _ _ _ _ _ _ _ _ _ _ _ _ _ _ _).mono ?_); rintro e w2 ⟨he, hx⟩; rw [HT.out] at he; subst he; have H2 := Lib.hid (H1.out.keep hx); clear hx; simp only [Lz.val] at *)
    clear p0_0 p0_1 p0_2 p1_0 p1_1 p1_2 p1_3 p1_4 p1_5 p1_6 p1_7 p1_8 p1_9 p1_10 p2_0 p2_1 p2_2 p2_3 p2_4 p2_5 p2_6 p2_7
    have H3 := Lib.hid (H2.out.new #[.int .u32 a0_0, .int .i64 xb, .string xc, .int .i64 xu, .int .i64 xk, .int .i64 xt, .int .i64 xz, .int .i64 xv] 25)
    generalize w2.alloc (.cells #[.int .u32 a0_0, .int .i64 xb, .string xc, .int .i64 xu, .int .i64 xk, .int .i64 xt, .int .i64 xz, .int .i64 xv] 25) = w3 at *
    generalize w2.heap.size = g2 at *
    obtain ⟨p0_0, p0_1, p0_2, p0_3, p0_4, p0_5, p0_6, p0_7⟩ := (H3.out).b0.cells8; obtain ⟨p1_0, p1_1, p1_2⟩ := (H3.out).tl.b0.cells3; obtain ⟨p2_0, p2_1, p2_2, p2_3, p2_4, p2_5, p2_6, p2_7, p2_8, p2_9, p2_10⟩ := (H3.out).tl.tl.b0.cells11; obtain ⟨p3_0, p3_1, p3_2, p3_3, p3_4, p3_5, p3_6, p3_7⟩ := (H3.out).tl.tl.tl.b0.cells8
    go_wp2_with (go_at_call 11; (with_reducible refine (rpast_any _ _ _ _).mono ?_); rintro e w9 ⟨he, rfl⟩; rw [HO.out] at he; subst he)
    all_goals
      go_ret
      exact ⟨rfl, H3.out.2⟩
  · by_cases h2 : a0_1 = 2
    · have k2 : (a0_1 == 2) = true := beq_iff_eq.2 h2
      have k2' : (a0_1 != 2) = false := bne_eq_false_iff_eq.2 h2
      by_cases ho : o = true
      · subst ho
        clear hoo h2
        clear w0_0 w0_1 w0_2 w0_3 w0_4 w0_5 w0_6 w0_7 w1_0 w1_1 w1_2 w1_3 w1_4 w1_5 w1_6 w1_7 w1_8 w1_9 w2_0 w2_1 w2_2
        go_enter Try.func4, Try.ntmps4
        go_upto_region 2 with (go_at_call 8; (with_reducible refine (awake_any _).mono ?_); rintro e w1 ⟨rfl, hx⟩; have H1 := Lib.hid (H0.out.keep hx); clear hx; obtain ⟨p0_0, p0_1, p0_2⟩ := (H1.out).b0.cells3; obtain ⟨p1_0, p1_1, p1_2, p1_3, p1_4, p1_5, p1_6, p1_7, p1_8, p1_9, p1_10⟩ := (H1.out).tl.b0.cells11; obtain ⟨p2_0, p2_1, p2_2, p2_3, p2_4, p2_5, p2_6, p2_7⟩ := (H1.out).tl.tl.b0.cells8)
        go_upto_region 3 with (go_at_call 9; (with_reducible refine (take_any _ _ _ _ _ _ _ _ _ _ _ _ _ _ _ _ _ _ _ _ _ _ _).mono ?_); rintro e w2 ⟨he, hx⟩; rw [HT.out] at he; subst he; have H2 := Lib.hid (H1.out.keep hx); clear hx; simp only [Lz.val] at *)
        clear p0_0 p0_1 p0_2 p1_0 p1_1 p1_2 p1_3 p1_4 p1_5 p1_6 p1_7 p1_8 p1_9 p1_10 p2_0 p2_1 p2_2 p2_3 p2_4 p2_5 p2_6 p2_7
        have H3 := Lib.hid (H2.out.new #[.int .u32 a0_0, .int .i64 xb, .string xc, .int .i64 xu, .int .i64 xk, .int .i64 xt, .int .i64 xz, .int .i64 xv] 25)
        generalize w2.alloc (.cells #[.int .u32 a0_0, .int .i64 xb, .string xc, .int .i64 xu, .int .i64 xk, .int .i64 xt, .int .i64 xz, .int .i64 xv] 25) = w3 at *
        generalize w2.heap.size = g2 at *
        obtain ⟨p0_0, p0_1, p0_2, p0_3, p0_4, p0_5, p0_6, p0_7⟩ := (H3.out).b0.cells8; obtain ⟨p1_0, p1_1, p1_2⟩ := (H3.out).tl.b0.cells3; obtain ⟨p2_0, p2_1, p2_2, p2_3, p2_4, p2_5, p2_6, p2_7, p2_8, p2_9, p2_10⟩ := (H3.out).tl.tl.b0.cells11; obtain ⟨p3_0, p3_1, p3_2, p3_3, p3_4, p3_5, p3_6, p3_7⟩ := (H3.out).tl.tl.tl.b0.cells8
        go_wp2_with (go_at_call 11; (with_reducible refine (rpast_any _ _ _ _).mono ?_); rintro e w9 ⟨he, rfl⟩; rw [HO.out] at he; subst he)
        all_goals
          go_ret
          exact ⟨rfl, H3.out.2⟩
      · obtain rfl : o = false := by simpa using ho
        clear ho
        by_cases h4 : a1_6 = 4
        · have k4 : (a1_6 == 4) = true := beq_iff_eq.2 h4
          have k4' : (a1_6 != 4) = false := bne_eq_false_iff_eq.2 h4
          clear h2 h4 hoo
          clear w0_0 w0_1 w0_2 w0_3 w0_4 w0_5 w0_6 w0_7 w1_0 w1_1 w1_2 w1_3 w1_4 w1_5 w1_6 w1_7 w1_8 w1_9 w2_0 w2_1 w2_2
          go_enter Try.func4, Try.ntmps4
          go_upto_region 2 with (go_at_call 8; (with_reducible refine (awake_any _).mono ?_); rintro e w1 ⟨rfl, hx⟩; have H1 := Lib.hid (H0.out.keep hx); clear hx; obtain ⟨p0_0, p0_1, p0_2⟩ := (H1.out).b0.cells3; obtain ⟨p1_0, p1_1, p1_2, p1_3, p1_4, p1_5, p1_6, p1_7, p1_8, p1_9, p1_10⟩ := (H1.out).tl.b0.cells11; obtain ⟨p2_0, p2_1, p2_2, p2_3, p2_4, p2_5, p2_6, p2_7⟩ := (H1.out).tl.tl.b0.cells8)
          go_upto_region 3 with (go_at_call 9; (with_reducible refine (take_any _ _ _ _ _ _ _ _ _ _ _ _ _ _ _ _ _ _ _ _ _ _ _).mono ?_); rintro e w2 ⟨he, hx⟩; rw [HT.out] at he; subst he; have H2 := Lib.hid (H1.out.keep hx); clear hx; simp only [Lz.val] at *)
          clear p0_0 p0_1 p0_2 p1_0 p1_1 p1_2 p1_3 p1_4 p1_5 p1_6 p1_7 p1_8 p1_9 p1_10 p2_0 p2_1 p2_2 p2_3 p2_4 p2_5 p2_6 p2_7
          have H3 := Lib.hid (H2.out.new #[.int .u32 a0_0, .int .i64 xb, .string xc, .int .i64 xu, .int .i64 xk, .int .i64 xt, .int .i64 xz, .int .i64 xv] 25)
          generalize w2.alloc (.cells #[.int .u32 a0_0, .int .i64 xb, .string xc, .int .i64 xu, .int .i64 xk, .int .i64 xt, .int .i64 xz, .int .i64 xv] 25) = w3 at *
          generalize w2.heap.size = g2 at *
          obtain ⟨p0_0, p0_1, p0_2, p0_3, p0_4, p0_5, p0_6, p0_7⟩ := (H3.out).b0.cells8; obtain ⟨p1_0, p1_1, p1_2⟩ := (H3.out).tl.b0.cells3; obtain ⟨p2_0, p2_1, p2_2, p2_3, p2_4, p2_5, p2_6, p2_7, p2_8, p2_9, p2_10⟩ := (H3.out).tl.tl.b0.cells11; obtain ⟨p3_0, p3_1, p3_2, p3_3, p3_4, p3_5, p3_6, p3_7⟩ := (H3.out).tl.tl.tl.b0.cells8
          go_wp2_with (go_at_call 11; (with_reducible refine (rpast_any _ _ _ _).mono ?_); rintro e w9 ⟨he, rfl⟩; rw [HO.out] at he; subst he)
          all_goals
            go_ret
            exact ⟨rfl, H3.out.2⟩
        · have k4 : (a1_6 == 4) = false := beq_eq_false_iff_ne.2 h4
          have k4' : (a1_6 != 4) = true := bne_iff_ne.2 h4
          by_cases h5 : a1_6 = 5
          · have k5 : (a1_6 == 5) = true := beq_iff_eq.2 h5
            have k5' : (a1_6 != 5) = false := bne_eq_false_iff_eq.2 h5
            clear h2 h4 h5 hoo
            clear w0_0 w0_1 w0_2 w0_3 w0_4 w0_5 w0_6 w0_7 w1_0 w1_1 w1_2 w1_3 w1_4 w1_5 w1_6 w1_7 w1_8 w1_9 w2_0 w2_1 w2_2
            go_enter Try.func4, Try.ntmps4
            go_upto_region 2 with (go_at_call 8; (with_reducible refine (awake_any _).mono ?_); rintro e w1 ⟨rfl, hx⟩; have H1 := Lib.hid (H0.out.keep hx); clear hx; obtain ⟨p0_0, p0_1, p0_2⟩ := (H1.out).b0.cells3; obtain ⟨p1_0, p1_1, p1_2, p1_3, p1_4, p1_5, p1_6, p1_7, p1_8, p1_9, p1_10⟩ := (H1.out).tl.b0.cells11; obtain ⟨p2_0, p2_1, p2_2, p2_3, p2_4, p2_5, p2_6, p2_7⟩ := (H1.out).tl.tl.b0.cells8)
            go_upto_region 3 with (go_at_call 9; (with_reducible refine (take_any _ _ _ _ _ _ _ _ _ _ _ _ _ _ _ _ _ _ _ _ _ _ _).mono ?_); rintro e w2 ⟨he, hx⟩; rw [HT.out] at he; subst he; have H2 := Lib.hid (H1.out.keep hx); clear hx; simp only [Lz.val] at *)
            clear p0_0 p0_1 p0_2 p1_0 p1_1 p1_2 p1_3 p1_4 p1_5 p1_6 p1_7 p1_8 p1_9 p1_10 p2_0 p2_1 p2_2 p2_3 p2_4 p2_5 p2_6 p2_7
            have H3 := Lib.hid (H2.out.new #[.int .u32 a0_0, .int .i64 xb, .string xc, .int .i64 xu, .int .i64 xk, .int .i64 xt, .int .i64 xz, .int .i64 xv] 25)
            generalize w2.alloc (.cells #[.int .u32 a0_0, .int .i64 xb, .string xc, .int .i64 xu, .int .i64 xk, .int .i64 xt, .int .i64 xz, .int .i64 xv] 25) = w3 at *
            generalize w2.heap.size = g2 at *
            obtain ⟨p0_0, p0_1, p0_2, p0_3, p0_4, p0_5, p0_6, p0_7⟩ := (H3.out).b0.cells8; obtain ⟨p1_0, p1_1, p1_2⟩ := (H3.out).tl.b0.cells3; obtain ⟨p2_0, p2_1, p2_2, p2_3, p2_4, p2_5, p2_6, p2_7, p2_8, p2_9, p2_10⟩ := (H3.out).tl.tl.b0.cells11; obtain ⟨p3_0, p3_1, p3_2, p3_3, p3_4, p3_5, p3_6, p3_7⟩ := (H3.out).tl.tl.tl.b0.cells8
            go_wp2_with (go_at_call 11; (with_reducible refine (rpast_any _ _ _ _).mono ?_); rintro e w9 ⟨he, rfl⟩; rw [HO.out] at he; subst he)
            all_goals
              go_ret
              exact ⟨rfl, H3.out.2⟩
          · have k5 : (a1_6 == 5) = false := beq_eq_false_iff_ne.2 h5
            have k5' : (a1_6 != 5) = true := bne_iff_ne.2 h5
            have hk := takeV_keeps (show (takeV a0_0 ⟨a0_1, a0_2, a0_3, a0_4, a0_5, a0_6, a0_7⟩ a1_0 a1_5 a1_6 a1_7 a1_8 a1_9 a2_0 a2_1 a2_2).2 = true by rw [HT.out]) h2 hoo h4 h5
            rw [HT.out] at hk
            obtain ⟨hk1, hk2, hk3, hk4, hk5⟩ := hk
            simp only at hk1 hk2 hk3 hk4 hk5
            subst hk1 hk2 hk3 hk4
            have kl : decide (a0_5 ≤ xt) = true := decide_eq_true hk5
            clear h2 h4 h5 hoo hk5
            clear w0_0 w0_1 w0_2 w0_3 w0_4 w0_5 w0_6 w0_7 w1_0 w1_1 w1_2 w1_3 w1_4 w1_5 w1_6 w1_7 w1_8 w1_9 w2_0 w2_1 w2_2
            go_enter Try.func4, Try.ntmps4
            go_upto_region 2 with (go_at_call 8; (with_reducible refine (awake_any _).mono ?_); rintro e w1 ⟨rfl, hx⟩; have H1 := Lib.hid (H0.out.keep hx); clear hx; obtain ⟨p0_0, p0_1, p0_2⟩ := (H1.out).b0.cells3; obtain ⟨p1_0, p1_1, p1_2, p1_3, p1_4, p1_5, p1_6, p1_7, p1_8, p1_9, p1_10⟩ := (H1.out).tl.b0.cells11; obtain ⟨p2_0, p2_1, p2_2, p2_3, p2_4, p2_5, p2_6, p2_7⟩ := (H1.out).tl.tl.b0.cells8)
            go_upto_region 3 with (go_at_call 9; (with_reducible refine (take_any _ _ _ _ _ _ _ _ _ _ _ _ _ _ _ _ _ _ _ _ _ _ _).mono ?_); rintro e w2 ⟨he, hx⟩; rw [HT.out] at he; subst he; have H2 := Lib.hid (H1.out.keep hx); clear hx; simp only [Lz.val] at *)
            clear p0_0 p0_1 p0_2 p1_0 p1_1 p1_2 p1_3 p1_4 p1_5 p1_6 p1_7 p1_8 p1_9 p1_10 p2_0 p2_1 p2_2 p2_3 p2_4 p2_5 p2_6 p2_7
            have H3 := Lib.hid (H2.out.new #[.int .u32 a0_0, .int .i64 2, .string xc, .int .i64 xu, .int .i64 xk, .int .i64 xt, .int .i64 xz, .int .i64 xv] 25)
            generalize w2.alloc (.cells #[.int .u32 a0_0, .int .i64 2, .string xc, .int .i64 xu, .int .i64 xk, .int .i64 xt, .int .i64 xz, .int .i64 xv] 25) = w3 at *
            generalize w2.heap.size = g2 at *
            obtain ⟨p0_0, p0_1, p0_2, p0_3, p0_4, p0_5, p0_6, p0_7⟩ := (H3.out).b0.cells8; obtain ⟨p1_0, p1_1, p1_2⟩ := (H3.out).tl.b0.cells3; obtain ⟨p2_0, p2_1, p2_2, p2_3, p2_4, p2_5, p2_6, p2_7, p2_8, p2_9, p2_10⟩ := (H3.out).tl.tl.b0.cells11; obtain ⟨p3_0, p3_1, p3_2, p3_3, p3_4, p3_5, p3_6, p3_7⟩ := (H3.out).tl.tl.tl.b0.cells8
            go_wp2_with (go_at_call 11; (with_reducible refine (rpast_any _ _ _ _).mono ?_); rintro e w9 ⟨he, rfl⟩; rw [HO.out] at he; subst he)
            all_goals
              go_ret
              exact ⟨rfl, H3.out.2⟩
    · have k2 : (a0_1 == 2) = false := beq_eq_false_iff_ne.2 h2
      have k2' : (a0_1 != 2) = true := bne_iff_ne.2 h2
      clear hoo h2
      clear w0_0 w0_1 w0_2 w0_3 w0_4 w0_5 w0_6 w0_7 w1_0 w1_1 w1_2 w1_3 w1_4 w1_5 w1_6 w1_7 w1_8 w1_9 w2_0 w2_1 w2_2
      go_enter Try.func4, Try.ntmps4
      go_upto_region 2 with (go_at_call 8; (with_reducible refine (awake_any _).mono ?_); rintro e w1 ⟨rfl, hx⟩; have H1 := Lib.hid (H0.out.keep hx); clear hx; obtain ⟨p0_0, p0_1, p0_2⟩ := (H1.out).b0.cells3; obtain ⟨p1_0, p1_1, p1_2, p1_3, p1_4, p1_5, p1_6, p1_7, p1_8, p1_9, p1_10⟩ := (H1.out).tl.b0.cells11; obtain ⟨p2_0, p2_1, p2_2, p2_3, p2_4, p2_5, p2_6, p2_7⟩ := (H1.out).tl.tl.b0.cells8)
      go_upto_region 3 with (go_at_call 9; (with_reducible refine (take_any _ _ _ _ _ _ _ _ _ _ _ _ _ _ _ _ _ _ _ _ _ _ _).mono ?_); rintro e w2 ⟨he, hx⟩; rw [HT.out] at he; subst he; have H2 := Lib.hid (H1.out.keep hx); clear hx; simp only [Lz.val] at *)
      clear p0_0 p0_1 p0_2 p1_0 p1_1 p1_2 p1_3 p1_4 p1_5 p1_6 p1_7 p1_8 p1_9 p1_10 p2_0 p2_1 p2_2 p2_3 p2_4 p2_5 p2_6 p2_7
      have H3 := Lib.hid (H2.out.new #[.int .u32 a0_0, .int .i64 xb, .string xc, .int .i64 xu, .int .i64 xk, .int .i64 xt, .int .i64 xz, .int .i64 xv] 25)
      generalize w2.alloc (.cells #[.int .u32 a0_0, .int .i64 xb, .string xc, .int .i64 xu, .int .i64 xk, .int .i64 xt, .int .i64 xz, .int .i64 xv] 25) = w3 at *
      generalize w2.heap.size = g2 at *
      obtain ⟨p0_0, p0_1, p0_2, p0_3, p0_4, p0_5, p0_6, p0_7⟩ := (H3.out).b0.cells8; obtain ⟨p1_0, p1_1, p1_2⟩ := (H3.out).tl.b0.cells3; obtain ⟨p2_0, p2_1, p2_2, p2_3, p2_4, p2_5, p2_6, p2_7, p2_8, p2_9, p2_10⟩ := (H3.out).tl.tl.b0.cells11; obtain ⟨p3_0, p3_1, p3_2, p3_3, p3_4, p3_5, p3_6, p3_7⟩ := (H3.out).tl.tl.tl.b0.cells8
      go_wp2_with (go_at_call 11; (with_reducible refine (rpast_any _ _ _ _).mono ?_); rintro e w9 ⟨he, rfl⟩; rw [HO.out] at he; subst he)
      all_goals
        go_ret
        exact ⟨rfl, H3.out.2⟩

end Go.Proofs.Ytkpgchhbeebgkaa
