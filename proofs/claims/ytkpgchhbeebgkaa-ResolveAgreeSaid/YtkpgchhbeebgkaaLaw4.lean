/- The law ResolveAgree, walked. -/
import Derived.Test.YtkpgchhbeebgkaaTky
namespace Go.Proofs.Ytkpgchhbeebgkaa
open Go.ChangeShapes Go.WideShapes Go.ChangeAt Go.RowKit
set_option linter.unusedVariables false
set_option linter.unusedSimpArgs false

set_option maxRecDepth 100000 in
set_option maxHeartbeats 8000000 in
theorem walk_ResolveAgree (a0_0 : Int) (a0_1 : Int) (a0_2 : ByteArray) (a0_3 : Int) (a0_4 : Int) (a0_5 : Int) (a0_6 : Int) (a0_7 : Int) (a1_0 : Int) (a1_1 : Int) (a1_2 : ByteArray) (a1_3 : Int) (a1_4 : Int) (a1_5 : Int) (a1_6 : Int) (a1_7 : Int) (a2_0 : Int) (a2_1 : Int) (a2_2 : Int) (W : World) (w0_0 : (Lit.int .u32 a0_0).wf = true) (w0_1 : (Lit.int .i64 a0_1).wf = true) (w0_2 : a0_2.size ≤ maxLen) (w0_3 : (Lit.int .i64 a0_3).wf = true) (w0_4 : (Lit.int .i64 a0_4).wf = true) (w0_5 : (Lit.int .i64 a0_5).wf = true) (w0_6 : (Lit.int .i64 a0_6).wf = true) (w0_7 : (Lit.int .i64 a0_7).wf = true) (w1_0 : (Lit.int .u32 a1_0).wf = true) (w1_1 : (Lit.int .i64 a1_1).wf = true) (w1_2 : a1_2.size ≤ maxLen) (w1_3 : (Lit.int .i64 a1_3).wf = true) (w1_4 : (Lit.int .i64 a1_4).wf = true) (w1_5 : (Lit.int .i64 a1_5).wf = true) (w1_6 : (Lit.int .i64 a1_6).wf = true) (w1_7 : (Lit.int .i64 a1_7).wf = true) (w2_0 : (Lit.int .i64 a2_0).wf = true) (w2_1 : (Lit.int .i64 a2_1).wf = true) (w2_2 : (Lit.int .i64 a2_2).wf = true) :
    Calls Try.prog 6 #[.agg #[.int .u32 a0_0, .int .i64 a0_1, .string a0_2, .int .i64 a0_3, .int .i64 a0_4, .int .i64 a0_5, .int .i64 a0_6, .int .i64 a0_7], .agg #[.int .u32 a1_0, .int .i64 a1_1, .string a1_2, .int .i64 a1_3, .int .i64 a1_4, .int .i64 a1_5, .int .i64 a1_6, .int .i64 a1_7], .agg #[.int .i64 a2_0, .int .i64 a2_1, .int .i64 a2_2]] W fun e w' => e = .returned (.bool true) ∧ Below W.heap.size W w' := by
  have H0 := Lib.hid ((((HeldB.nil (lowA (lowA (low0 W (.cells #[.int .u32 a0_0, .int .i64 a0_1, .string a0_2, .int .i64 a0_3, .int .i64 a0_4, .int .i64 a0_5, .int .i64 a0_6, .int .i64 a0_7] 25)) (.cells #[.int .u32 a1_0, .int .i64 a1_1, .string a1_2, .int .i64 a1_3, .int .i64 a1_4, .int .i64 a1_5, .int .i64 a1_6, .int .i64 a1_7] 25)) (.cells #[.int .i64 a2_0, .int .i64 a2_1, .int .i64 a2_2] 29))).cons ((Blk.new2' W #[.int .u32 a0_0, .int .i64 a0_1, .string a0_2, .int .i64 a0_3, .int .i64 a0_4, .int .i64 a0_5, .int .i64 a0_6, .int .i64 a0_7] 25 (.cells #[.int .u32 a1_0, .int .i64 a1_1, .string a1_2, .int .i64 a1_3, .int .i64 a1_4, .int .i64 a1_5, .int .i64 a1_6, .int .i64 a1_7] 25)).alloc (.cells #[.int .i64 a2_0, .int .i64 a2_1, .int .i64 a2_2] 29))).cons ((Blk.new2 W (.cells #[.int .u32 a0_0, .int .i64 a0_1, .string a0_2, .int .i64 a0_3, .int .i64 a0_4, .int .i64 a0_5, .int .i64 a0_6, .int .i64 a0_7] 25) #[.int .u32 a1_0, .int .i64 a1_1, .string a1_2, .int .i64 a1_3, .int .i64 a1_4, .int .i64 a1_5, .int .i64 a1_6, .int .i64 a1_7] 25).alloc (.cells #[.int .i64 a2_0, .int .i64 a2_1, .int .i64 a2_2] 29))).cons (Blk.new3 W (.cells #[.int .u32 a0_0, .int .i64 a0_1, .string a0_2, .int .i64 a0_3, .int .i64 a0_4, .int .i64 a0_5, .int .i64 a0_6, .int .i64 a0_7] 25) (.cells #[.int .u32 a1_0, .int .i64 a1_1, .string a1_2, .int .i64 a1_3, .int .i64 a1_4, .int .i64 a1_5, .int .i64 a1_6, .int .i64 a1_7] 25) #[.int .i64 a2_0, .int .i64 a2_1, .int .i64 a2_2] 29))
  by_cases hr : RightP a1_1 a1_2 a1_3 a1_4 a1_5 a1_6 a1_7
  · have HRT := Lib.hid (show decide (RightP a1_1 a1_2 a1_3 a1_4 a1_5 a1_6 a1_7) = true from decide_eq_true hr)
    by_cases h3 : a1_1 = 3
    · have k3 : (a1_1 == 3) = true := beq_iff_eq.2 h3
      have k3' : (a1_1 != 3) = false := bne_eq_false_iff_eq.2 h3
      clear h3 hr
      clear w0_0 w0_1 w0_2 w0_3 w0_4 w0_5 w0_6 w0_7 w1_0 w1_1 w1_2 w1_3 w1_4 w1_5 w1_6 w1_7 w2_0 w2_1 w2_2
      go_enter Try.func6, Try.ntmps6
      go_upto_region 2 with (go_at_call 8; (with_reducible refine (awake_any _).mono ?_); rintro e w1 ⟨rfl, hx⟩; have H1 := Lib.hid (H0.out.keep hx); clear hx; obtain ⟨p0_0, p0_1, p0_2⟩ := (H1.out).b0.cells3; obtain ⟨p1_0, p1_1, p1_2, p1_3, p1_4, p1_5, p1_6, p1_7⟩ := (H1.out).tl.b0.cells8; obtain ⟨p2_0, p2_1, p2_2, p2_3, p2_4, p2_5, p2_6, p2_7⟩ := (H1.out).tl.tl.b0.cells8)
      go_upto_region 3 with (go_at_call 12; (with_reducible refine (rright_any _ _ _ _ _ _ _ _ _).mono ?_); rintro e w9 ⟨he, hx⟩; rw [HRT.out] at he; subst he; have H9 := Lib.hid (H1.out.keep hx); clear hx; obtain ⟨q0_0, q0_1, q0_2⟩ := (H9.out).b0.cells3; obtain ⟨q1_0, q1_1, q1_2, q1_3, q1_4, q1_5, q1_6, q1_7⟩ := (H9.out).tl.b0.cells8; obtain ⟨q2_0, q2_1, q2_2, q2_3, q2_4, q2_5, q2_6, q2_7⟩ := (H9.out).tl.tl.b0.cells8)
      go_wp2
      all_goals
        go_ret
        exact ⟨rfl, H9.out.2⟩
    · have k3 : (a1_1 == 3) = false := beq_eq_false_iff_ne.2 h3
      have k3' : (a1_1 != 3) = true := bne_iff_ne.2 h3
      by_cases h4 : a1_1 = 4
      · have k4 : (a1_1 == 4) = true := beq_iff_eq.2 h4
        have k4' : (a1_1 != 4) = false := bne_eq_false_iff_eq.2 h4
        clear h3 h4 hr
        clear w0_0 w0_1 w0_2 w0_3 w0_4 w0_5 w0_6 w0_7 w1_0 w1_1 w1_2 w1_3 w1_4 w1_5 w1_6 w1_7 w2_0 w2_1 w2_2
        go_enter Try.func6, Try.ntmps6
        go_upto_region 2 with (go_at_call 8; (with_reducible refine (awake_any _).mono ?_); rintro e w1 ⟨rfl, hx⟩; have H1 := Lib.hid (H0.out.keep hx); clear hx; obtain ⟨p0_0, p0_1, p0_2⟩ := (H1.out).b0.cells3; obtain ⟨p1_0, p1_1, p1_2, p1_3, p1_4, p1_5, p1_6, p1_7⟩ := (H1.out).tl.b0.cells8; obtain ⟨p2_0, p2_1, p2_2, p2_3, p2_4, p2_5, p2_6, p2_7⟩ := (H1.out).tl.tl.b0.cells8)
        go_upto_region 3 with (go_at_call 12; (with_reducible refine (rright_any _ _ _ _ _ _ _ _ _).mono ?_); rintro e w9 ⟨he, hx⟩; rw [HRT.out] at he; subst he; have H9 := Lib.hid (H1.out.keep hx); clear hx; obtain ⟨q0_0, q0_1, q0_2⟩ := (H9.out).b0.cells3; obtain ⟨q1_0, q1_1, q1_2, q1_3, q1_4, q1_5, q1_6, q1_7⟩ := (H9.out).tl.b0.cells8; obtain ⟨q2_0, q2_1, q2_2, q2_3, q2_4, q2_5, q2_6, q2_7⟩ := (H9.out).tl.tl.b0.cells8)
        go_wp2
        all_goals
          go_ret
          exact ⟨rfl, H9.out.2⟩
      · have k4 : (a1_1 == 4) = false := beq_eq_false_iff_ne.2 h4
        have k4' : (a1_1 != 4) = true := bne_iff_ne.2 h4
        by_cases hm : a1_3 < a1_5
        · have hmx : max a1_3 a1_5 = a1_5 := by omega
          rcases (show a1_1 = 0 ∨ a1_1 = 1 ∨ a1_1 = 2 ∨ a1_1 = 5 by have := hr.2; omega) with h01 | h01 | h01 | h01
          · generalize htk : takeV a0_0 ⟨a0_1, a0_2, a0_3, a0_4, a0_5, a0_6, a0_7⟩ 2 a1_0 a1_1 a1_2 a1_5 a1_7 a2_0 a2_1 a2_2 = tk
            obtain ⟨⟨xb, xc, xu, xk, xt, xz, xv⟩, ok⟩ := tk
            have HT := Lib.hid htk
            clear htk
            cases ok
            · have hn := takeV_no (show (takeV a0_0 ⟨a0_1, a0_2, a0_3, a0_4, a0_5, a0_6, a0_7⟩ 2 a1_0 a1_1 a1_2 a1_5 a1_7 a2_0 a2_1 a2_2).2 = false by rw [HT.out])
              rw [HT.out] at hn
              obtain ⟨rfl, rfl, rfl, rfl, rfl, rfl, rfl⟩ : xb = a0_1 ∧ xc = a0_2 ∧ xu = a0_3 ∧ xk = a0_4 ∧ xt = a0_5 ∧ xz = a0_6 ∧ xv = a0_7 := by simpa using hn
              subst h01
              clear hn h3 h4 hr hmx
              clear w0_0 w0_1 w0_2 w0_3 w0_4 w0_5 w0_6 w0_7 w1_0 w1_1 w1_2 w1_3 w1_4 w1_5 w1_6 w1_7 w2_0 w2_1 w2_2
              go_enter Try.func6, Try.ntmps6
              go_upto_region 2 with (go_at_call 8; (with_reducible refine (awake_any _).mono ?_); rintro e w1 ⟨rfl, hx⟩; have H1 := Lib.hid (H0.out.keep hx); clear hx; obtain ⟨p0_0, p0_1, p0_2⟩ := (H1.out).b0.cells3; obtain ⟨p1_0, p1_1, p1_2, p1_3, p1_4, p1_5, p1_6, p1_7⟩ := (H1.out).tl.b0.cells8; obtain ⟨p2_0, p2_1, p2_2, p2_3, p2_4, p2_5, p2_6, p2_7⟩ := (H1.out).tl.tl.b0.cells8)
              go_upto_region 3 with (go_at_call 12; (with_reducible refine (rright_any _ _ _ _ _ _ _ _ _).mono ?_); rintro e w9 ⟨he, hx⟩; rw [HRT.out] at he; subst he; have H9 := Lib.hid (H1.out.keep hx); clear hx; obtain ⟨q0_0, q0_1, q0_2⟩ := (H9.out).b0.cells3; obtain ⟨q1_0, q1_1, q1_2, q1_3, q1_4, q1_5, q1_6, q1_7⟩ := (H9.out).tl.b0.cells8; obtain ⟨q2_0, q2_1, q2_2, q2_3, q2_4, q2_5, q2_6, q2_7⟩ := (H9.out).tl.tl.b0.cells8)
              go_upto_region 5 with (fail)
              go_upto_region 6 with (fail)
              try simp only [if_pos hm]
              clear p0_0 p0_1 p0_2 p1_0 p1_1 p1_2 p1_3 p1_4 p1_5 p1_6 p1_7 p2_0 p2_1 p2_2 p2_3 p2_4 p2_5 p2_6 p2_7
              clear q0_0 q0_1 q0_2 q1_0 q1_1 q1_2 q1_3 q1_4 q1_5 q1_6 q1_7 q2_0 q2_1 q2_2 q2_3 q2_4 q2_5 q2_6 q2_7
              have HM := Lib.hid (H9.out.new #[.int .i64 2, .int .i64 0, .int .i64 0, .int .i64 0, .int .i64 0, .int .u32 a1_0, .int .i64 0, .string a1_2, .int .i64 a1_5, .int .i64 a1_7, .bool false] 27)
              generalize w9.alloc (.cells #[.int .i64 2, .int .i64 0, .int .i64 0, .int .i64 0, .int .i64 0, .int .u32 a1_0, .int .i64 0, .string a1_2, .int .i64 a1_5, .int .i64 a1_7, .bool false] 27) = wm at *
              generalize w9.heap.size = gm at *
              obtain ⟨p0_0, p0_1, p0_2, p0_3, p0_4, p0_5, p0_6, p0_7, p0_8, p0_9, p0_10⟩ := (HM.out).b0.cells11; obtain ⟨p1_0, p1_1, p1_2⟩ := (HM.out).tl.b0.cells3; obtain ⟨p2_0, p2_1, p2_2, p2_3, p2_4, p2_5, p2_6, p2_7⟩ := (HM.out).tl.tl.b0.cells8; obtain ⟨p3_0, p3_1, p3_2, p3_3, p3_4, p3_5, p3_6, p3_7⟩ := (HM.out).tl.tl.tl.b0.cells8
              go_upto_region 8 with (go_at_call 9; (with_reducible refine (take_any _ _ _ _ _ _ _ _ _ _ _ _ _ _ _ _ _ _ _ _ _ _ _).mono ?_); rintro e w2 ⟨he, hx⟩; rw [HT.out] at he; subst he; have H2 := Lib.hid (HM.out.keep hx); clear hx; simp only [Lz.val] at *)
              clear p0_0 p0_1 p0_2 p0_3 p0_4 p0_5 p0_6 p0_7 p0_8 p0_9 p0_10 p1_0 p1_1 p1_2 p2_0 p2_1 p2_2 p2_3 p2_4 p2_5 p2_6 p2_7 p3_0 p3_1 p3_2 p3_3 p3_4 p3_5 p3_6 p3_7
              have H3 := Lib.hid (H2.out.new #[.int .u32 a0_0, .int .i64 xb, .string xc, .int .i64 xu, .int .i64 xk, .int .i64 xt, .int .i64 xz, .int .i64 xv] 25)
              generalize w2.alloc (.cells #[.int .u32 a0_0, .int .i64 xb, .string xc, .int .i64 xu, .int .i64 xk, .int .i64 xt, .int .i64 xz, .int .i64 xv] 25) = w3 at *
              generalize w2.heap.size = g2 at *
              obtain ⟨p0_0, p0_1, p0_2, p0_3, p0_4, p0_5, p0_6, p0_7⟩ := (H3.out).b0.cells8; obtain ⟨p1_0, p1_1, p1_2, p1_3, p1_4, p1_5, p1_6, p1_7, p1_8, p1_9, p1_10⟩ := (H3.out).tl.b0.cells11; obtain ⟨p2_0, p2_1, p2_2⟩ := (H3.out).tl.tl.b0.cells3; obtain ⟨p3_0, p3_1, p3_2, p3_3, p3_4, p3_5, p3_6, p3_7⟩ := (H3.out).tl.tl.tl.b0.cells8; obtain ⟨p4_0, p4_1, p4_2, p4_3, p4_4, p4_5, p4_6, p4_7⟩ := (H3.out).tl.tl.tl.tl.b0.cells8
              go_wp2
              all_goals
                go_ret
                exact ⟨rfl, H3.out.2⟩
            · have hk := takeV_agree (la := a0_0) (oa := a1_0) (l := ⟨a0_1, a0_2, a0_3, a0_4, a0_5, a0_6, a0_7⟩) (st := a2_0) (now := a2_1) (gd := a2_2) hr h3 h4 (by rw [hmx, HT.out])
              rw [hmx, HT.out] at hk
              simp only at hk
              rcases hk with ⟨hk1, hk2, hk3⟩ | ⟨hk0, hk1, hk2, hk3, hk4⟩
              · obtain ⟨rfl, rfl, rfl, rfl, rfl, rfl, rfl⟩ : xb = a0_1 ∧ xc = a0_2 ∧ xu = a0_3 ∧ xk = a0_4 ∧ xt = a0_5 ∧ xz = a0_6 ∧ xv = a0_7 := by simpa using hk3
                have kl : decide (a1_7 ≤ xv) = true := decide_eq_true hk2
                subst h01
                clear hk1 hk2 hk3 h3 h4 hr hmx
                clear w0_0 w0_1 w0_2 w0_3 w0_4 w0_5 w0_6 w0_7 w1_0 w1_1 w1_2 w1_3 w1_4 w1_5 w1_6 w1_7 w2_0 w2_1 w2_2
                go_enter Try.func6, Try.ntmps6
                go_upto_region 2 with (go_at_call 8; (with_reducible refine (awake_any _).mono ?_); rintro e w1 ⟨rfl, hx⟩; have H1 := Lib.hid (H0.out.keep hx); clear hx; obtain ⟨p0_0, p0_1, p0_2⟩ := (H1.out).b0.cells3; obtain ⟨p1_0, p1_1, p1_2, p1_3, p1_4, p1_5, p1_6, p1_7⟩ := (H1.out).tl.b0.cells8; obtain ⟨p2_0, p2_1, p2_2, p2_3, p2_4, p2_5, p2_6, p2_7⟩ := (H1.out).tl.tl.b0.cells8)
                go_upto_region 3 with (go_at_call 12; (with_reducible refine (rright_any _ _ _ _ _ _ _ _ _).mono ?_); rintro e w9 ⟨he, hx⟩; rw [HRT.out] at he; subst he; have H9 := Lib.hid (H1.out.keep hx); clear hx; obtain ⟨q0_0, q0_1, q0_2⟩ := (H9.out).b0.cells3; obtain ⟨q1_0, q1_1, q1_2, q1_3, q1_4, q1_5, q1_6, q1_7⟩ := (H9.out).tl.b0.cells8; obtain ⟨q2_0, q2_1, q2_2, q2_3, q2_4, q2_5, q2_6, q2_7⟩ := (H9.out).tl.tl.b0.cells8)
                go_upto_region 5 with (fail)
                go_upto_region 6 with (fail)
                try simp only [if_pos hm]
                clear p0_0 p0_1 p0_2 p1_0 p1_1 p1_2 p1_3 p1_4 p1_5 p1_6 p1_7 p2_0 p2_1 p2_2 p2_3 p2_4 p2_5 p2_6 p2_7
                clear q0_0 q0_1 q0_2 q1_0 q1_1 q1_2 q1_3 q1_4 q1_5 q1_6 q1_7 q2_0 q2_1 q2_2 q2_3 q2_4 q2_5 q2_6 q2_7
                have HM := Lib.hid (H9.out.new #[.int .i64 2, .int .i64 0, .int .i64 0, .int .i64 0, .int .i64 0, .int .u32 a1_0, .int .i64 0, .string a1_2, .int .i64 a1_5, .int .i64 a1_7, .bool false] 27)
                generalize w9.alloc (.cells #[.int .i64 2, .int .i64 0, .int .i64 0, .int .i64 0, .int .i64 0, .int .u32 a1_0, .int .i64 0, .string a1_2, .int .i64 a1_5, .int .i64 a1_7, .bool false] 27) = wm at *
                generalize w9.heap.size = gm at *
                obtain ⟨p0_0, p0_1, p0_2, p0_3, p0_4, p0_5, p0_6, p0_7, p0_8, p0_9, p0_10⟩ := (HM.out).b0.cells11; obtain ⟨p1_0, p1_1, p1_2⟩ := (HM.out).tl.b0.cells3; obtain ⟨p2_0, p2_1, p2_2, p2_3, p2_4, p2_5, p2_6, p2_7⟩ := (HM.out).tl.tl.b0.cells8; obtain ⟨p3_0, p3_1, p3_2, p3_3, p3_4, p3_5, p3_6, p3_7⟩ := (HM.out).tl.tl.tl.b0.cells8
                go_upto_region 8 with (go_at_call 9; (with_reducible refine (take_any _ _ _ _ _ _ _ _ _ _ _ _ _ _ _ _ _ _ _ _ _ _ _).mono ?_); rintro e w2 ⟨he, hx⟩; rw [HT.out] at he; subst he; have H2 := Lib.hid (HM.out.keep hx); clear hx; simp only [Lz.val] at *)
                clear p0_0 p0_1 p0_2 p0_3 p0_4 p0_5 p0_6 p0_7 p0_8 p0_9 p0_10 p1_0 p1_1 p1_2 p2_0 p2_1 p2_2 p2_3 p2_4 p2_5 p2_6 p2_7 p3_0 p3_1 p3_2 p3_3 p3_4 p3_5 p3_6 p3_7
                have H3 := Lib.hid (H2.out.new #[.int .u32 a0_0, .int .i64 xb, .string xc, .int .i64 xu, .int .i64 xk, .int .i64 xt, .int .i64 xz, .int .i64 xv] 25)
                generalize w2.alloc (.cells #[.int .u32 a0_0, .int .i64 xb, .string xc, .int .i64 xu, .int .i64 xk, .int .i64 xt, .int .i64 xz, .int .i64 xv] 25) = w3 at *
                generalize w2.heap.size = g2 at *
                obtain ⟨p0_0, p0_1, p0_2, p0_3, p0_4, p0_5, p0_6, p0_7⟩ := (H3.out).b0.cells8; obtain ⟨p1_0, p1_1, p1_2, p1_3, p1_4, p1_5, p1_6, p1_7, p1_8, p1_9, p1_10⟩ := (H3.out).tl.b0.cells11; obtain ⟨p2_0, p2_1, p2_2⟩ := (H3.out).tl.tl.b0.cells3; obtain ⟨p3_0, p3_1, p3_2, p3_3, p3_4, p3_5, p3_6, p3_7⟩ := (H3.out).tl.tl.tl.b0.cells8; obtain ⟨p4_0, p4_1, p4_2, p4_3, p4_4, p4_5, p4_6, p4_7⟩ := (H3.out).tl.tl.tl.tl.b0.cells8
                go_wp2
                all_goals
                  go_ret
                  exact ⟨rfl, H3.out.2⟩
              · obtain rfl : a1_2 = xc := hk2.symm
                obtain rfl : a1_7 = xv := (hk4 (by omega)).symm
                have kl : decide (a1_7 ≤ a0_7) = false := decide_eq_false (fun h => hk0 ⟨by omega, h⟩)
                subst h01
                obtain rfl : xb = 0 := hk1
                clear hk0 hk3 hk4 h3 h4 hr hmx
                clear w0_0 w0_1 w0_2 w0_3 w0_4 w0_5 w0_6 w0_7 w1_0 w1_1 w1_2 w1_3 w1_4 w1_5 w1_6 w1_7 w2_0 w2_1 w2_2
                go_enter Try.func6, Try.ntmps6
                go_upto_region 2 with (go_at_call 8; (with_reducible refine (awake_any _).mono ?_); rintro e w1 ⟨rfl, hx⟩; have H1 := Lib.hid (H0.out.keep hx); clear hx; obtain ⟨p0_0, p0_1, p0_2⟩ := (H1.out).b0.cells3; obtain ⟨p1_0, p1_1, p1_2, p1_3, p1_4, p1_5, p1_6, p1_7⟩ := (H1.out).tl.b0.cells8; obtain ⟨p2_0, p2_1, p2_2, p2_3, p2_4, p2_5, p2_6, p2_7⟩ := (H1.out).tl.tl.b0.cells8)
                go_upto_region 3 with (go_at_call 12; (with_reducible refine (rright_any _ _ _ _ _ _ _ _ _).mono ?_); rintro e w9 ⟨he, hx⟩; rw [HRT.out] at he; subst he; have H9 := Lib.hid (H1.out.keep hx); clear hx; obtain ⟨q0_0, q0_1, q0_2⟩ := (H9.out).b0.cells3; obtain ⟨q1_0, q1_1, q1_2, q1_3, q1_4, q1_5, q1_6, q1_7⟩ := (H9.out).tl.b0.cells8; obtain ⟨q2_0, q2_1, q2_2, q2_3, q2_4, q2_5, q2_6, q2_7⟩ := (H9.out).tl.tl.b0.cells8)
                go_upto_region 5 with (fail)
                go_upto_region 6 with (fail)
                try simp only [if_pos hm]
                clear p0_0 p0_1 p0_2 p1_0 p1_1 p1_2 p1_3 p1_4 p1_5 p1_6 p1_7 p2_0 p2_1 p2_2 p2_3 p2_4 p2_5 p2_6 p2_7
                clear q0_0 q0_1 q0_2 q1_0 q1_1 q1_2 q1_3 q1_4 q1_5 q1_6 q1_7 q2_0 q2_1 q2_2 q2_3 q2_4 q2_5 q2_6 q2_7
                have HM := Lib.hid (H9.out.new #[.int .i64 2, .int .i64 0, .int .i64 0, .int .i64 0, .int .i64 0, .int .u32 a1_0, .int .i64 0, .string a1_2, .int .i64 a1_5, .int .i64 a1_7, .bool false] 27)
                generalize w9.alloc (.cells #[.int .i64 2, .int .i64 0, .int .i64 0, .int .i64 0, .int .i64 0, .int .u32 a1_0, .int .i64 0, .string a1_2, .int .i64 a1_5, .int .i64 a1_7, .bool false] 27) = wm at *
                generalize w9.heap.size = gm at *
                obtain ⟨p0_0, p0_1, p0_2, p0_3, p0_4, p0_5, p0_6, p0_7, p0_8, p0_9, p0_10⟩ := (HM.out).b0.cells11; obtain ⟨p1_0, p1_1, p1_2⟩ := (HM.out).tl.b0.cells3; obtain ⟨p2_0, p2_1, p2_2, p2_3, p2_4, p2_5, p2_6, p2_7⟩ := (HM.out).tl.tl.b0.cells8; obtain ⟨p3_0, p3_1, p3_2, p3_3, p3_4, p3_5, p3_6, p3_7⟩ := (HM.out).tl.tl.tl.b0.cells8
                go_upto_region 8 with (go_at_call 9; (with_reducible refine (take_any _ _ _ _ _ _ _ _ _ _ _ _ _ _ _ _ _ _ _ _ _ _ _).mono ?_); rintro e w2 ⟨he, hx⟩; rw [HT.out] at he; subst he; have H2 := Lib.hid (HM.out.keep hx); clear hx; simp only [Lz.val] at *)
                clear p0_0 p0_1 p0_2 p0_3 p0_4 p0_5 p0_6 p0_7 p0_8 p0_9 p0_10 p1_0 p1_1 p1_2 p2_0 p2_1 p2_2 p2_3 p2_4 p2_5 p2_6 p2_7 p3_0 p3_1 p3_2 p3_3 p3_4 p3_5 p3_6 p3_7
                have H3 := Lib.hid (H2.out.new #[.int .u32 a0_0, .int .i64 0, .string a1_2, .int .i64 xu, .int .i64 xk, .int .i64 xt, .int .i64 xz, .int .i64 a1_7] 25)
                generalize w2.alloc (.cells #[.int .u32 a0_0, .int .i64 0, .string a1_2, .int .i64 xu, .int .i64 xk, .int .i64 xt, .int .i64 xz, .int .i64 a1_7] 25) = w3 at *
                generalize w2.heap.size = g2 at *
                obtain ⟨p0_0, p0_1, p0_2, p0_3, p0_4, p0_5, p0_6, p0_7⟩ := (H3.out).b0.cells8; obtain ⟨p1_0, p1_1, p1_2, p1_3, p1_4, p1_5, p1_6, p1_7, p1_8, p1_9, p1_10⟩ := (H3.out).tl.b0.cells11; obtain ⟨p2_0, p2_1, p2_2⟩ := (H3.out).tl.tl.b0.cells3; obtain ⟨p3_0, p3_1, p3_2, p3_3, p3_4, p3_5, p3_6, p3_7⟩ := (H3.out).tl.tl.tl.b0.cells8; obtain ⟨p4_0, p4_1, p4_2, p4_3, p4_4, p4_5, p4_6, p4_7⟩ := (H3.out).tl.tl.tl.tl.b0.cells8
                go_wp2
                all_goals
                  go_ret
                  exact ⟨rfl, H3.out.2⟩
          · generalize htk : takeV a0_0 ⟨a0_1, a0_2, a0_3, a0_4, a0_5, a0_6, a0_7⟩ 2 a1_0 a1_1 a1_2 a1_5 a1_7 a2_0 a2_1 a2_2 = tk
            obtain ⟨⟨xb, xc, xu, xk, xt, xz, xv⟩, ok⟩ := tk
            have HT := Lib.hid htk
            clear htk
            cases ok
            · have hn := takeV_no (show (takeV a0_0 ⟨a0_1, a0_2, a0_3, a0_4, a0_5, a0_6, a0_7⟩ 2 a1_0 a1_1 a1_2 a1_5 a1_7 a2_0 a2_1 a2_2).2 = false by rw [HT.out])
              rw [HT.out] at hn
              obtain ⟨rfl, rfl, rfl, rfl, rfl, rfl, rfl⟩ : xb = a0_1 ∧ xc = a0_2 ∧ xu = a0_3 ∧ xk = a0_4 ∧ xt = a0_5 ∧ xz = a0_6 ∧ xv = a0_7 := by simpa using hn
              subst h01
              clear hn h3 h4 hr hmx
              clear w0_0 w0_1 w0_2 w0_3 w0_4 w0_5 w0_6 w0_7 w1_0 w1_1 w1_2 w1_3 w1_4 w1_5 w1_6 w1_7 w2_0 w2_1 w2_2
              go_enter Try.func6, Try.ntmps6
              go_upto_region 2 with (go_at_call 8; (with_reducible refine (awake_any _).mono ?_); rintro e w1 ⟨rfl, hx⟩; have H1 := Lib.hid (H0.out.keep hx); clear hx; obtain ⟨p0_0, p0_1, p0_2⟩ := (H1.out).b0.cells3; obtain ⟨p1_0, p1_1, p1_2, p1_3, p1_4, p1_5, p1_6, p1_7⟩ := (H1.out).tl.b0.cells8; obtain ⟨p2_0, p2_1, p2_2, p2_3, p2_4, p2_5, p2_6, p2_7⟩ := (H1.out).tl.tl.b0.cells8)
              go_upto_region 3 with (go_at_call 12; (with_reducible refine (rright_any _ _ _ _ _ _ _ _ _).mono ?_); rintro e w9 ⟨he, hx⟩; rw [HRT.out] at he; subst he; have H9 := Lib.hid (H1.out.keep hx); clear hx; obtain ⟨q0_0, q0_1, q0_2⟩ := (H9.out).b0.cells3; obtain ⟨q1_0, q1_1, q1_2, q1_3, q1_4, q1_5, q1_6, q1_7⟩ := (H9.out).tl.b0.cells8; obtain ⟨q2_0, q2_1, q2_2, q2_3, q2_4, q2_5, q2_6, q2_7⟩ := (H9.out).tl.tl.b0.cells8)
              go_upto_region 5 with (fail)
              go_upto_region 6 with (fail)
              try simp only [if_pos hm]
              clear p0_0 p0_1 p0_2 p1_0 p1_1 p1_2 p1_3 p1_4 p1_5 p1_6 p1_7 p2_0 p2_1 p2_2 p2_3 p2_4 p2_5 p2_6 p2_7
              clear q0_0 q0_1 q0_2 q1_0 q1_1 q1_2 q1_3 q1_4 q1_5 q1_6 q1_7 q2_0 q2_1 q2_2 q2_3 q2_4 q2_5 q2_6 q2_7
              have HM := Lib.hid (H9.out.new #[.int .i64 2, .int .i64 0, .int .i64 0, .int .i64 0, .int .i64 0, .int .u32 a1_0, .int .i64 1, .string a1_2, .int .i64 a1_5, .int .i64 a1_7, .bool false] 27)
              generalize w9.alloc (.cells #[.int .i64 2, .int .i64 0, .int .i64 0, .int .i64 0, .int .i64 0, .int .u32 a1_0, .int .i64 1, .string a1_2, .int .i64 a1_5, .int .i64 a1_7, .bool false] 27) = wm at *
              generalize w9.heap.size = gm at *
              obtain ⟨p0_0, p0_1, p0_2, p0_3, p0_4, p0_5, p0_6, p0_7, p0_8, p0_9, p0_10⟩ := (HM.out).b0.cells11; obtain ⟨p1_0, p1_1, p1_2⟩ := (HM.out).tl.b0.cells3; obtain ⟨p2_0, p2_1, p2_2, p2_3, p2_4, p2_5, p2_6, p2_7⟩ := (HM.out).tl.tl.b0.cells8; obtain ⟨p3_0, p3_1, p3_2, p3_3, p3_4, p3_5, p3_6, p3_7⟩ := (HM.out).tl.tl.tl.b0.cells8
              go_upto_region 8 with (go_at_call 9; (with_reducible refine (take_any _ _ _ _ _ _ _ _ _ _ _ _ _ _ _ _ _ _ _ _ _ _ _).mono ?_); rintro e w2 ⟨he, hx⟩; rw [HT.out] at he; subst he; have H2 := Lib.hid (HM.out.keep hx); clear hx; simp only [Lz.val] at *)
              clear p0_0 p0_1 p0_2 p0_3 p0_4 p0_5 p0_6 p0_7 p0_8 p0_9 p0_10 p1_0 p1_1 p1_2 p2_0 p2_1 p2_2 p2_3 p2_4 p2_5 p2_6 p2_7 p3_0 p3_1 p3_2 p3_3 p3_4 p3_5 p3_6 p3_7
              have H3 := Lib.hid (H2.out.new #[.int .u32 a0_0, .int .i64 xb, .string xc, .int .i64 xu, .int .i64 xk, .int .i64 xt, .int .i64 xz, .int .i64 xv] 25)
              generalize w2.alloc (.cells #[.int .u32 a0_0, .int .i64 xb, .string xc, .int .i64 xu, .int .i64 xk, .int .i64 xt, .int .i64 xz, .int .i64 xv] 25) = w3 at *
              generalize w2.heap.size = g2 at *
              obtain ⟨p0_0, p0_1, p0_2, p0_3, p0_4, p0_5, p0_6, p0_7⟩ := (H3.out).b0.cells8; obtain ⟨p1_0, p1_1, p1_2, p1_3, p1_4, p1_5, p1_6, p1_7, p1_8, p1_9, p1_10⟩ := (H3.out).tl.b0.cells11; obtain ⟨p2_0, p2_1, p2_2⟩ := (H3.out).tl.tl.b0.cells3; obtain ⟨p3_0, p3_1, p3_2, p3_3, p3_4, p3_5, p3_6, p3_7⟩ := (H3.out).tl.tl.tl.b0.cells8; obtain ⟨p4_0, p4_1, p4_2, p4_3, p4_4, p4_5, p4_6, p4_7⟩ := (H3.out).tl.tl.tl.tl.b0.cells8
              go_wp2
              all_goals
                go_ret
                exact ⟨rfl, H3.out.2⟩
            · have hk := takeV_agree (la := a0_0) (oa := a1_0) (l := ⟨a0_1, a0_2, a0_3, a0_4, a0_5, a0_6, a0_7⟩) (st := a2_0) (now := a2_1) (gd := a2_2) hr h3 h4 (by rw [hmx, HT.out])
              rw [hmx, HT.out] at hk
              simp only at hk
              rcases hk with ⟨hk1, hk2, hk3⟩ | ⟨hk0, hk1, hk2, hk3, hk4⟩
              · obtain ⟨rfl, rfl, rfl, rfl, rfl, rfl, rfl⟩ : xb = a0_1 ∧ xc = a0_2 ∧ xu = a0_3 ∧ xk = a0_4 ∧ xt = a0_5 ∧ xz = a0_6 ∧ xv = a0_7 := by simpa using hk3
                have kl : decide (a1_7 ≤ xv) = true := decide_eq_true hk2
                subst h01
                clear hk1 hk2 hk3 h3 h4 hr hmx
                clear w0_0 w0_1 w0_2 w0_3 w0_4 w0_5 w0_6 w0_7 w1_0 w1_1 w1_2 w1_3 w1_4 w1_5 w1_6 w1_7 w2_0 w2_1 w2_2
                go_enter Try.func6, Try.ntmps6
                go_upto_region 2 with (go_at_call 8; (with_reducible refine (awake_any _).mono ?_); rintro e w1 ⟨rfl, hx⟩; have H1 := Lib.hid (H0.out.keep hx); clear hx; obtain ⟨p0_0, p0_1, p0_2⟩ := (H1.out).b0.cells3; obtain ⟨p1_0, p1_1, p1_2, p1_3, p1_4, p1_5, p1_6, p1_7⟩ := (H1.out).tl.b0.cells8; obtain ⟨p2_0, p2_1, p2_2, p2_3, p2_4, p2_5, p2_6, p2_7⟩ := (H1.out).tl.tl.b0.cells8)
                go_upto_region 3 with (go_at_call 12; (with_reducible refine (rright_any _ _ _ _ _ _ _ _ _).mono ?_); rintro e w9 ⟨he, hx⟩; rw [HRT.out] at he; subst he; have H9 := Lib.hid (H1.out.keep hx); clear hx; obtain ⟨q0_0, q0_1, q0_2⟩ := (H9.out).b0.cells3; obtain ⟨q1_0, q1_1, q1_2, q1_3, q1_4, q1_5, q1_6, q1_7⟩ := (H9.out).tl.b0.cells8; obtain ⟨q2_0, q2_1, q2_2, q2_3, q2_4, q2_5, q2_6, q2_7⟩ := (H9.out).tl.tl.b0.cells8)
                go_upto_region 5 with (fail)
                go_upto_region 6 with (fail)
                try simp only [if_pos hm]
                clear p0_0 p0_1 p0_2 p1_0 p1_1 p1_2 p1_3 p1_4 p1_5 p1_6 p1_7 p2_0 p2_1 p2_2 p2_3 p2_4 p2_5 p2_6 p2_7
                clear q0_0 q0_1 q0_2 q1_0 q1_1 q1_2 q1_3 q1_4 q1_5 q1_6 q1_7 q2_0 q2_1 q2_2 q2_3 q2_4 q2_5 q2_6 q2_7
                have HM := Lib.hid (H9.out.new #[.int .i64 2, .int .i64 0, .int .i64 0, .int .i64 0, .int .i64 0, .int .u32 a1_0, .int .i64 1, .string a1_2, .int .i64 a1_5, .int .i64 a1_7, .bool false] 27)
                generalize w9.alloc (.cells #[.int .i64 2, .int .i64 0, .int .i64 0, .int .i64 0, .int .i64 0, .int .u32 a1_0, .int .i64 1, .string a1_2, .int .i64 a1_5, .int .i64 a1_7, .bool false] 27) = wm at *
                generalize w9.heap.size = gm at *
                obtain ⟨p0_0, p0_1, p0_2, p0_3, p0_4, p0_5, p0_6, p0_7, p0_8, p0_9, p0_10⟩ := (HM.out).b0.cells11; obtain ⟨p1_0, p1_1, p1_2⟩ := (HM.out).tl.b0.cells3; obtain ⟨p2_0, p2_1, p2_2, p2_3, p2_4, p2_5, p2_6, p2_7⟩ := (HM.out).tl.tl.b0.cells8; obtain ⟨p3_0, p3_1, p3_2, p3_3, p3_4, p3_5, p3_6, p3_7⟩ := (HM.out).tl.tl.tl.b0.cells8
                go_upto_region 8 with (go_at_call 9; (with_reducible refine (take_any _ _ _ _ _ _ _ _ _ _ _ _ _ _ _ _ _ _ _ _ _ _ _).mono ?_); rintro e w2 ⟨he, hx⟩; rw [HT.out] at he; subst he; have H2 := Lib.hid (HM.out.keep hx); clear hx; simp only [Lz.val] at *)
                clear p0_0 p0_1 p0_2 p0_3 p0_4 p0_5 p0_6 p0_7 p0_8 p0_9 p0_10 p1_0 p1_1 p1_2 p2_0 p2_1 p2_2 p2_3 p2_4 p2_5 p2_6 p2_7 p3_0 p3_1 p3_2 p3_3 p3_4 p3_5 p3_6 p3_7
                have H3 := Lib.hid (H2.out.new #[.int .u32 a0_0, .int .i64 xb, .string xc, .int .i64 xu, .int .i64 xk, .int .i64 xt, .int .i64 xz, .int .i64 xv] 25)
                generalize w2.alloc (.cells #[.int .u32 a0_0, .int .i64 xb, .string xc, .int .i64 xu, .int .i64 xk, .int .i64 xt, .int .i64 xz, .int .i64 xv] 25) = w3 at *
                generalize w2.heap.size = g2 at *
                obtain ⟨p0_0, p0_1, p0_2, p0_3, p0_4, p0_5, p0_6, p0_7⟩ := (H3.out).b0.cells8; obtain ⟨p1_0, p1_1, p1_2, p1_3, p1_4, p1_5, p1_6, p1_7, p1_8, p1_9, p1_10⟩ := (H3.out).tl.b0.cells11; obtain ⟨p2_0, p2_1, p2_2⟩ := (H3.out).tl.tl.b0.cells3; obtain ⟨p3_0, p3_1, p3_2, p3_3, p3_4, p3_5, p3_6, p3_7⟩ := (H3.out).tl.tl.tl.b0.cells8; obtain ⟨p4_0, p4_1, p4_2, p4_3, p4_4, p4_5, p4_6, p4_7⟩ := (H3.out).tl.tl.tl.tl.b0.cells8
                go_wp2
                all_goals
                  go_ret
                  exact ⟨rfl, H3.out.2⟩
              · obtain rfl : a1_2 = xc := hk2.symm
                obtain rfl : a1_7 = xv := (hk4 (by omega)).symm
                have kl : decide (a1_7 ≤ a0_7) = false := decide_eq_false (fun h => hk0 ⟨by omega, h⟩)
                subst h01
                obtain rfl : xb = 1 := hk1
                clear hk0 hk3 hk4 h3 h4 hr hmx
                clear w0_0 w0_1 w0_2 w0_3 w0_4 w0_5 w0_6 w0_7 w1_0 w1_1 w1_2 w1_3 w1_4 w1_5 w1_6 w1_7 w2_0 w2_1 w2_2
                go_enter Try.func6, Try.ntmps6
                go_upto_region 2 with (go_at_call 8; (with_reducible refine (awake_any _).mono ?_); rintro e w1 ⟨rfl, hx⟩; have H1 := Lib.hid (H0.out.keep hx); clear hx; obtain ⟨p0_0, p0_1, p0_2⟩ := (H1.out).b0.cells3; obtain ⟨p1_0, p1_1, p1_2, p1_3, p1_4, p1_5, p1_6, p1_7⟩ := (H1.out).tl.b0.cells8; obtain ⟨p2_0, p2_1, p2_2, p2_3, p2_4, p2_5, p2_6, p2_7⟩ := (H1.out).tl.tl.b0.cells8)
                go_upto_region 3 with (go_at_call 12; (with_reducible refine (rright_any _ _ _ _ _ _ _ _ _).mono ?_); rintro e w9 ⟨he, hx⟩; rw [HRT.out] at he; subst he; have H9 := Lib.hid (H1.out.keep hx); clear hx; obtain ⟨q0_0, q0_1, q0_2⟩ := (H9.out).b0.cells3; obtain ⟨q1_0, q1_1, q1_2, q1_3, q1_4, q1_5, q1_6, q1_7⟩ := (H9.out).tl.b0.cells8; obtain ⟨q2_0, q2_1, q2_2, q2_3, q2_4, q2_5, q2_6, q2_7⟩ := (H9.out).tl.tl.b0.cells8)
                go_upto_region 5 with (fail)
                go_upto_region 6 with (fail)
                try simp only [if_pos hm]
                clear p0_0 p0_1 p0_2 p1_0 p1_1 p1_2 p1_3 p1_4 p1_5 p1_6 p1_7 p2_0 p2_1 p2_2 p2_3 p2_4 p2_5 p2_6 p2_7
                clear q0_0 q0_1 q0_2 q1_0 q1_1 q1_2 q1_3 q1_4 q1_5 q1_6 q1_7 q2_0 q2_1 q2_2 q2_3 q2_4 q2_5 q2_6 q2_7
                have HM := Lib.hid (H9.out.new #[.int .i64 2, .int .i64 0, .int .i64 0, .int .i64 0, .int .i64 0, .int .u32 a1_0, .int .i64 1, .string a1_2, .int .i64 a1_5, .int .i64 a1_7, .bool false] 27)
                generalize w9.alloc (.cells #[.int .i64 2, .int .i64 0, .int .i64 0, .int .i64 0, .int .i64 0, .int .u32 a1_0, .int .i64 1, .string a1_2, .int .i64 a1_5, .int .i64 a1_7, .bool false] 27) = wm at *
                generalize w9.heap.size = gm at *
                obtain ⟨p0_0, p0_1, p0_2, p0_3, p0_4, p0_5, p0_6, p0_7, p0_8, p0_9, p0_10⟩ := (HM.out).b0.cells11; obtain ⟨p1_0, p1_1, p1_2⟩ := (HM.out).tl.b0.cells3; obtain ⟨p2_0, p2_1, p2_2, p2_3, p2_4, p2_5, p2_6, p2_7⟩ := (HM.out).tl.tl.b0.cells8; obtain ⟨p3_0, p3_1, p3_2, p3_3, p3_4, p3_5, p3_6, p3_7⟩ := (HM.out).tl.tl.tl.b0.cells8
                go_upto_region 8 with (go_at_call 9; (with_reducible refine (take_any _ _ _ _ _ _ _ _ _ _ _ _ _ _ _ _ _ _ _ _ _ _ _).mono ?_); rintro e w2 ⟨he, hx⟩; rw [HT.out] at he; subst he; have H2 := Lib.hid (HM.out.keep hx); clear hx; simp only [Lz.val] at *)
                clear p0_0 p0_1 p0_2 p0_3 p0_4 p0_5 p0_6 p0_7 p0_8 p0_9 p0_10 p1_0 p1_1 p1_2 p2_0 p2_1 p2_2 p2_3 p2_4 p2_5 p2_6 p2_7 p3_0 p3_1 p3_2 p3_3 p3_4 p3_5 p3_6 p3_7
                have H3 := Lib.hid (H2.out.new #[.int .u32 a0_0, .int .i64 1, .string a1_2, .int .i64 xu, .int .i64 xk, .int .i64 xt, .int .i64 xz, .int .i64 a1_7] 25)
                generalize w2.alloc (.cells #[.int .u32 a0_0, .int .i64 1, .string a1_2, .int .i64 xu, .int .i64 xk, .int .i64 xt, .int .i64 xz, .int .i64 a1_7] 25) = w3 at *
                generalize w2.heap.size = g2 at *
                obtain ⟨p0_0, p0_1, p0_2, p0_3, p0_4, p0_5, p0_6, p0_7⟩ := (H3.out).b0.cells8; obtain ⟨p1_0, p1_1, p1_2, p1_3, p1_4, p1_5, p1_6, p1_7, p1_8, p1_9, p1_10⟩ := (H3.out).tl.b0.cells11; obtain ⟨p2_0, p2_1, p2_2⟩ := (H3.out).tl.tl.b0.cells3; obtain ⟨p3_0, p3_1, p3_2, p3_3, p3_4, p3_5, p3_6, p3_7⟩ := (H3.out).tl.tl.tl.b0.cells8; obtain ⟨p4_0, p4_1, p4_2, p4_3, p4_4, p4_5, p4_6, p4_7⟩ := (H3.out).tl.tl.tl.tl.b0.cells8
                go_wp2
                all_goals
                  go_ret
                  exact ⟨rfl, H3.out.2⟩
          · generalize htk : takeV a0_0 ⟨a0_1, a0_2, a0_3, a0_4, a0_5, a0_6, a0_7⟩ 2 a1_0 a1_1 a1_2 a1_5 a1_7 a2_0 a2_1 a2_2 = tk
            obtain ⟨⟨xb, xc, xu, xk, xt, xz, xv⟩, ok⟩ := tk
            have HT := Lib.hid htk
            clear htk
            cases ok
            · have hn := takeV_no (show (takeV a0_0 ⟨a0_1, a0_2, a0_3, a0_4, a0_5, a0_6, a0_7⟩ 2 a1_0 a1_1 a1_2 a1_5 a1_7 a2_0 a2_1 a2_2).2 = false by rw [HT.out])
              rw [HT.out] at hn
              obtain ⟨rfl, rfl, rfl, rfl, rfl, rfl, rfl⟩ : xb = a0_1 ∧ xc = a0_2 ∧ xu = a0_3 ∧ xk = a0_4 ∧ xt = a0_5 ∧ xz = a0_6 ∧ xv = a0_7 := by simpa using hn
              subst h01
              clear hn h3 h4 hr hmx
              clear w0_0 w0_1 w0_2 w0_3 w0_4 w0_5 w0_6 w0_7 w1_0 w1_1 w1_2 w1_3 w1_4 w1_5 w1_6 w1_7 w2_0 w2_1 w2_2
              go_enter Try.func6, Try.ntmps6
              go_upto_region 2 with (go_at_call 8; (with_reducible refine (awake_any _).mono ?_); rintro e w1 ⟨rfl, hx⟩; have H1 := Lib.hid (H0.out.keep hx); clear hx; obtain ⟨p0_0, p0_1, p0_2⟩ := (H1.out).b0.cells3; obtain ⟨p1_0, p1_1, p1_2, p1_3, p1_4, p1_5, p1_6, p1_7⟩ := (H1.out).tl.b0.cells8; obtain ⟨p2_0, p2_1, p2_2, p2_3, p2_4, p2_5, p2_6, p2_7⟩ := (H1.out).tl.tl.b0.cells8)
              go_upto_region 3 with (go_at_call 12; (with_reducible refine (rright_any _ _ _ _ _ _ _ _ _).mono ?_); rintro e w9 ⟨he, hx⟩; rw [HRT.out] at he; subst he; have H9 := Lib.hid (H1.out.keep hx); clear hx; obtain ⟨q0_0, q0_1, q0_2⟩ := (H9.out).b0.cells3; obtain ⟨q1_0, q1_1, q1_2, q1_3, q1_4, q1_5, q1_6, q1_7⟩ := (H9.out).tl.b0.cells8; obtain ⟨q2_0, q2_1, q2_2, q2_3, q2_4, q2_5, q2_6, q2_7⟩ := (H9.out).tl.tl.b0.cells8)
              go_upto_region 5 with (fail)
              go_upto_region 6 with (fail)
              try simp only [if_pos hm]
              clear p0_0 p0_1 p0_2 p1_0 p1_1 p1_2 p1_3 p1_4 p1_5 p1_6 p1_7 p2_0 p2_1 p2_2 p2_3 p2_4 p2_5 p2_6 p2_7
              clear q0_0 q0_1 q0_2 q1_0 q1_1 q1_2 q1_3 q1_4 q1_5 q1_6 q1_7 q2_0 q2_1 q2_2 q2_3 q2_4 q2_5 q2_6 q2_7
              have HM := Lib.hid (H9.out.new #[.int .i64 2, .int .i64 0, .int .i64 0, .int .i64 0, .int .i64 0, .int .u32 a1_0, .int .i64 2, .string a1_2, .int .i64 a1_5, .int .i64 a1_7, .bool false] 27)
              generalize w9.alloc (.cells #[.int .i64 2, .int .i64 0, .int .i64 0, .int .i64 0, .int .i64 0, .int .u32 a1_0, .int .i64 2, .string a1_2, .int .i64 a1_5, .int .i64 a1_7, .bool false] 27) = wm at *
              generalize w9.heap.size = gm at *
              obtain ⟨p0_0, p0_1, p0_2, p0_3, p0_4, p0_5, p0_6, p0_7, p0_8, p0_9, p0_10⟩ := (HM.out).b0.cells11; obtain ⟨p1_0, p1_1, p1_2⟩ := (HM.out).tl.b0.cells3; obtain ⟨p2_0, p2_1, p2_2, p2_3, p2_4, p2_5, p2_6, p2_7⟩ := (HM.out).tl.tl.b0.cells8; obtain ⟨p3_0, p3_1, p3_2, p3_3, p3_4, p3_5, p3_6, p3_7⟩ := (HM.out).tl.tl.tl.b0.cells8
              go_upto_region 8 with (go_at_call 9; (with_reducible refine (take_any _ _ _ _ _ _ _ _ _ _ _ _ _ _ _ _ _ _ _ _ _ _ _).mono ?_); rintro e w2 ⟨he, hx⟩; rw [HT.out] at he; subst he; have H2 := Lib.hid (HM.out.keep hx); clear hx; simp only [Lz.val] at *)
              clear p0_0 p0_1 p0_2 p0_3 p0_4 p0_5 p0_6 p0_7 p0_8 p0_9 p0_10 p1_0 p1_1 p1_2 p2_0 p2_1 p2_2 p2_3 p2_4 p2_5 p2_6 p2_7 p3_0 p3_1 p3_2 p3_3 p3_4 p3_5 p3_6 p3_7
              have H3 := Lib.hid (H2.out.new #[.int .u32 a0_0, .int .i64 xb, .string xc, .int .i64 xu, .int .i64 xk, .int .i64 xt, .int .i64 xz, .int .i64 xv] 25)
              generalize w2.alloc (.cells #[.int .u32 a0_0, .int .i64 xb, .string xc, .int .i64 xu, .int .i64 xk, .int .i64 xt, .int .i64 xz, .int .i64 xv] 25) = w3 at *
              generalize w2.heap.size = g2 at *
              obtain ⟨p0_0, p0_1, p0_2, p0_3, p0_4, p0_5, p0_6, p0_7⟩ := (H3.out).b0.cells8; obtain ⟨p1_0, p1_1, p1_2, p1_3, p1_4, p1_5, p1_6, p1_7, p1_8, p1_9, p1_10⟩ := (H3.out).tl.b0.cells11; obtain ⟨p2_0, p2_1, p2_2⟩ := (H3.out).tl.tl.b0.cells3; obtain ⟨p3_0, p3_1, p3_2, p3_3, p3_4, p3_5, p3_6, p3_7⟩ := (H3.out).tl.tl.tl.b0.cells8; obtain ⟨p4_0, p4_1, p4_2, p4_3, p4_4, p4_5, p4_6, p4_7⟩ := (H3.out).tl.tl.tl.tl.b0.cells8
              go_wp2
              all_goals
                go_ret
                exact ⟨rfl, H3.out.2⟩
            · have hk := takeV_agree (la := a0_0) (oa := a1_0) (l := ⟨a0_1, a0_2, a0_3, a0_4, a0_5, a0_6, a0_7⟩) (st := a2_0) (now := a2_1) (gd := a2_2) hr h3 h4 (by rw [hmx, HT.out])
              rw [hmx, HT.out] at hk
              simp only at hk
              rcases hk with ⟨hk1, hk2, hk3⟩ | ⟨hk0, hk1, hk2, hk3, hk4⟩
              · omega
              · obtain rfl : a1_2 = xc := hk2.symm
                have kl : decide (a1_3 ≤ xt) = true := decide_eq_true (hk3 h01)
                subst h01
                obtain rfl : xb = 2 := hk1
                clear hk0 hk3 hk4 h3 h4 hr hmx
                clear w0_0 w0_1 w0_2 w0_3 w0_4 w0_5 w0_6 w0_7 w1_0 w1_1 w1_2 w1_3 w1_4 w1_5 w1_6 w1_7 w2_0 w2_1 w2_2
                go_enter Try.func6, Try.ntmps6
                go_upto_region 2 with (go_at_call 8; (with_reducible refine (awake_any _).mono ?_); rintro e w1 ⟨rfl, hx⟩; have H1 := Lib.hid (H0.out.keep hx); clear hx; obtain ⟨p0_0, p0_1, p0_2⟩ := (H1.out).b0.cells3; obtain ⟨p1_0, p1_1, p1_2, p1_3, p1_4, p1_5, p1_6, p1_7⟩ := (H1.out).tl.b0.cells8; obtain ⟨p2_0, p2_1, p2_2, p2_3, p2_4, p2_5, p2_6, p2_7⟩ := (H1.out).tl.tl.b0.cells8)
                go_upto_region 3 with (go_at_call 12; (with_reducible refine (rright_any _ _ _ _ _ _ _ _ _).mono ?_); rintro e w9 ⟨he, hx⟩; rw [HRT.out] at he; subst he; have H9 := Lib.hid (H1.out.keep hx); clear hx; obtain ⟨q0_0, q0_1, q0_2⟩ := (H9.out).b0.cells3; obtain ⟨q1_0, q1_1, q1_2, q1_3, q1_4, q1_5, q1_6, q1_7⟩ := (H9.out).tl.b0.cells8; obtain ⟨q2_0, q2_1, q2_2, q2_3, q2_4, q2_5, q2_6, q2_7⟩ := (H9.out).tl.tl.b0.cells8)
                go_upto_region 5 with (fail)
                go_upto_region 6 with (fail)
                try simp only [if_pos hm]
                clear p0_0 p0_1 p0_2 p1_0 p1_1 p1_2 p1_3 p1_4 p1_5 p1_6 p1_7 p2_0 p2_1 p2_2 p2_3 p2_4 p2_5 p2_6 p2_7
                clear q0_0 q0_1 q0_2 q1_0 q1_1 q1_2 q1_3 q1_4 q1_5 q1_6 q1_7 q2_0 q2_1 q2_2 q2_3 q2_4 q2_5 q2_6 q2_7
                have HM := Lib.hid (H9.out.new #[.int .i64 2, .int .i64 0, .int .i64 0, .int .i64 0, .int .i64 0, .int .u32 a1_0, .int .i64 2, .string a1_2, .int .i64 a1_5, .int .i64 a1_7, .bool false] 27)
                generalize w9.alloc (.cells #[.int .i64 2, .int .i64 0, .int .i64 0, .int .i64 0, .int .i64 0, .int .u32 a1_0, .int .i64 2, .string a1_2, .int .i64 a1_5, .int .i64 a1_7, .bool false] 27) = wm at *
                generalize w9.heap.size = gm at *
                obtain ⟨p0_0, p0_1, p0_2, p0_3, p0_4, p0_5, p0_6, p0_7, p0_8, p0_9, p0_10⟩ := (HM.out).b0.cells11; obtain ⟨p1_0, p1_1, p1_2⟩ := (HM.out).tl.b0.cells3; obtain ⟨p2_0, p2_1, p2_2, p2_3, p2_4, p2_5, p2_6, p2_7⟩ := (HM.out).tl.tl.b0.cells8; obtain ⟨p3_0, p3_1, p3_2, p3_3, p3_4, p3_5, p3_6, p3_7⟩ := (HM.out).tl.tl.tl.b0.cells8
                go_upto_region 8 with (go_at_call 9; (with_reducible refine (take_any _ _ _ _ _ _ _ _ _ _ _ _ _ _ _ _ _ _ _ _ _ _ _).mono ?_); rintro e w2 ⟨he, hx⟩; rw [HT.out] at he; subst he; have H2 := Lib.hid (HM.out.keep hx); clear hx; simp only [Lz.val] at *)
                clear p0_0 p0_1 p0_2 p0_3 p0_4 p0_5 p0_6 p0_7 p0_8 p0_9 p0_10 p1_0 p1_1 p1_2 p2_0 p2_1 p2_2 p2_3 p2_4 p2_5 p2_6 p2_7 p3_0 p3_1 p3_2 p3_3 p3_4 p3_5 p3_6 p3_7
                have H3 := Lib.hid (H2.out.new #[.int .u32 a0_0, .int .i64 2, .string a1_2, .int .i64 xu, .int .i64 xk, .int .i64 xt, .int .i64 xz, .int .i64 xv] 25)
                generalize w2.alloc (.cells #[.int .u32 a0_0, .int .i64 2, .string a1_2, .int .i64 xu, .int .i64 xk, .int .i64 xt, .int .i64 xz, .int .i64 xv] 25) = w3 at *
                generalize w2.heap.size = g2 at *
                obtain ⟨p0_0, p0_1, p0_2, p0_3, p0_4, p0_5, p0_6, p0_7⟩ := (H3.out).b0.cells8; obtain ⟨p1_0, p1_1, p1_2, p1_3, p1_4, p1_5, p1_6, p1_7, p1_8, p1_9, p1_10⟩ := (H3.out).tl.b0.cells11; obtain ⟨p2_0, p2_1, p2_2⟩ := (H3.out).tl.tl.b0.cells3; obtain ⟨p3_0, p3_1, p3_2, p3_3, p3_4, p3_5, p3_6, p3_7⟩ := (H3.out).tl.tl.tl.b0.cells8; obtain ⟨p4_0, p4_1, p4_2, p4_3, p4_4, p4_5, p4_6, p4_7⟩ := (H3.out).tl.tl.tl.tl.b0.cells8
                go_wp2
                all_goals
                  go_ret
                  exact ⟨rfl, H3.out.2⟩
          · generalize htk : takeV a0_0 ⟨a0_1, a0_2, a0_3, a0_4, a0_5, a0_6, a0_7⟩ 2 a1_0 a1_1 a1_2 a1_5 a1_7 a2_0 a2_1 a2_2 = tk
            obtain ⟨⟨xb, xc, xu, xk, xt, xz, xv⟩, ok⟩ := tk
            have HT := Lib.hid htk
            clear htk
            cases ok
            · have hn := takeV_no (show (takeV a0_0 ⟨a0_1, a0_2, a0_3, a0_4, a0_5, a0_6, a0_7⟩ 2 a1_0 a1_1 a1_2 a1_5 a1_7 a2_0 a2_1 a2_2).2 = false by rw [HT.out])
              rw [HT.out] at hn
              obtain ⟨rfl, rfl, rfl, rfl, rfl, rfl, rfl⟩ : xb = a0_1 ∧ xc = a0_2 ∧ xu = a0_3 ∧ xk = a0_4 ∧ xt = a0_5 ∧ xz = a0_6 ∧ xv = a0_7 := by simpa using hn
              subst h01
              clear hn h3 h4 hr hmx
              clear w0_0 w0_1 w0_2 w0_3 w0_4 w0_5 w0_6 w0_7 w1_0 w1_1 w1_2 w1_3 w1_4 w1_5 w1_6 w1_7 w2_0 w2_1 w2_2
              go_enter Try.func6, Try.ntmps6
              go_upto_region 2 with (go_at_call 8; (with_reducible refine (awake_any _).mono ?_); rintro e w1 ⟨rfl, hx⟩; have H1 := Lib.hid (H0.out.keep hx); clear hx; obtain ⟨p0_0, p0_1, p0_2⟩ := (H1.out).b0.cells3; obtain ⟨p1_0, p1_1, p1_2, p1_3, p1_4, p1_5, p1_6, p1_7⟩ := (H1.out).tl.b0.cells8; obtain ⟨p2_0, p2_1, p2_2, p2_3, p2_4, p2_5, p2_6, p2_7⟩ := (H1.out).tl.tl.b0.cells8)
              go_upto_region 3 with (go_at_call 12; (with_reducible refine (rright_any _ _ _ _ _ _ _ _ _).mono ?_); rintro e w9 ⟨he, hx⟩; rw [HRT.out] at he; subst he; have H9 := Lib.hid (H1.out.keep hx); clear hx; obtain ⟨q0_0, q0_1, q0_2⟩ := (H9.out).b0.cells3; obtain ⟨q1_0, q1_1, q1_2, q1_3, q1_4, q1_5, q1_6, q1_7⟩ := (H9.out).tl.b0.cells8; obtain ⟨q2_0, q2_1, q2_2, q2_3, q2_4, q2_5, q2_6, q2_7⟩ := (H9.out).tl.tl.b0.cells8)
              go_upto_region 5 with (fail)
              go_upto_region 6 with (fail)
              try simp only [if_pos hm]
              clear p0_0 p0_1 p0_2 p1_0 p1_1 p1_2 p1_3 p1_4 p1_5 p1_6 p1_7 p2_0 p2_1 p2_2 p2_3 p2_4 p2_5 p2_6 p2_7
              clear q0_0 q0_1 q0_2 q1_0 q1_1 q1_2 q1_3 q1_4 q1_5 q1_6 q1_7 q2_0 q2_1 q2_2 q2_3 q2_4 q2_5 q2_6 q2_7
              have HM := Lib.hid (H9.out.new #[.int .i64 2, .int .i64 0, .int .i64 0, .int .i64 0, .int .i64 0, .int .u32 a1_0, .int .i64 5, .string a1_2, .int .i64 a1_5, .int .i64 a1_7, .bool false] 27)
              generalize w9.alloc (.cells #[.int .i64 2, .int .i64 0, .int .i64 0, .int .i64 0, .int .i64 0, .int .u32 a1_0, .int .i64 5, .string a1_2, .int .i64 a1_5, .int .i64 a1_7, .bool false] 27) = wm at *
              generalize w9.heap.size = gm at *
              obtain ⟨p0_0, p0_1, p0_2, p0_3, p0_4, p0_5, p0_6, p0_7, p0_8, p0_9, p0_10⟩ := (HM.out).b0.cells11; obtain ⟨p1_0, p1_1, p1_2⟩ := (HM.out).tl.b0.cells3; obtain ⟨p2_0, p2_1, p2_2, p2_3, p2_4, p2_5, p2_6, p2_7⟩ := (HM.out).tl.tl.b0.cells8; obtain ⟨p3_0, p3_1, p3_2, p3_3, p3_4, p3_5, p3_6, p3_7⟩ := (HM.out).tl.tl.tl.b0.cells8
              go_upto_region 8 with (go_at_call 9; (with_reducible refine (take_any _ _ _ _ _ _ _ _ _ _ _ _ _ _ _ _ _ _ _ _ _ _ _).mono ?_); rintro e w2 ⟨he, hx⟩; rw [HT.out] at he; subst he; have H2 := Lib.hid (HM.out.keep hx); clear hx; simp only [Lz.val] at *)
              clear p0_0 p0_1 p0_2 p0_3 p0_4 p0_5 p0_6 p0_7 p0_8 p0_9 p0_10 p1_0 p1_1 p1_2 p2_0 p2_1 p2_2 p2_3 p2_4 p2_5 p2_6 p2_7 p3_0 p3_1 p3_2 p3_3 p3_4 p3_5 p3_6 p3_7
              have H3 := Lib.hid (H2.out.new #[.int .u32 a0_0, .int .i64 xb, .string xc, .int .i64 xu, .int .i64 xk, .int .i64 xt, .int .i64 xz, .int .i64 xv] 25)
              generalize w2.alloc (.cells #[.int .u32 a0_0, .int .i64 xb, .string xc, .int .i64 xu, .int .i64 xk, .int .i64 xt, .int .i64 xz, .int .i64 xv] 25) = w3 at *
              generalize w2.heap.size = g2 at *
              obtain ⟨p0_0, p0_1, p0_2, p0_3, p0_4, p0_5, p0_6, p0_7⟩ := (H3.out).b0.cells8; obtain ⟨p1_0, p1_1, p1_2, p1_3, p1_4, p1_5, p1_6, p1_7, p1_8, p1_9, p1_10⟩ := (H3.out).tl.b0.cells11; obtain ⟨p2_0, p2_1, p2_2⟩ := (H3.out).tl.tl.b0.cells3; obtain ⟨p3_0, p3_1, p3_2, p3_3, p3_4, p3_5, p3_6, p3_7⟩ := (H3.out).tl.tl.tl.b0.cells8; obtain ⟨p4_0, p4_1, p4_2, p4_3, p4_4, p4_5, p4_6, p4_7⟩ := (H3.out).tl.tl.tl.tl.b0.cells8
              go_wp2
              all_goals
                go_ret
                exact ⟨rfl, H3.out.2⟩
            · have hk := takeV_agree (la := a0_0) (oa := a1_0) (l := ⟨a0_1, a0_2, a0_3, a0_4, a0_5, a0_6, a0_7⟩) (st := a2_0) (now := a2_1) (gd := a2_2) hr h3 h4 (by rw [hmx, HT.out])
              rw [hmx, HT.out] at hk
              simp only at hk
              rcases hk with ⟨hk1, hk2, hk3⟩ | ⟨hk0, hk1, hk2, hk3, hk4⟩
              · omega
              · obtain rfl : a1_2 = xc := hk2.symm
                subst h01
                obtain rfl : xb = 5 := hk1
                clear hk0 hk3 hk4 h3 h4 hr hmx
                clear w0_0 w0_1 w0_2 w0_3 w0_4 w0_5 w0_6 w0_7 w1_0 w1_1 w1_2 w1_3 w1_4 w1_5 w1_6 w1_7 w2_0 w2_1 w2_2
                go_enter Try.func6, Try.ntmps6
                go_upto_region 2 with (go_at_call 8; (with_reducible refine (awake_any _).mono ?_); rintro e w1 ⟨rfl, hx⟩; have H1 := Lib.hid (H0.out.keep hx); clear hx; obtain ⟨p0_0, p0_1, p0_2⟩ := (H1.out).b0.cells3; obtain ⟨p1_0, p1_1, p1_2, p1_3, p1_4, p1_5, p1_6, p1_7⟩ := (H1.out).tl.b0.cells8; obtain ⟨p2_0, p2_1, p2_2, p2_3, p2_4, p2_5, p2_6, p2_7⟩ := (H1.out).tl.tl.b0.cells8)
                go_upto_region 3 with (go_at_call 12; (with_reducible refine (rright_any _ _ _ _ _ _ _ _ _).mono ?_); rintro e w9 ⟨he, hx⟩; rw [HRT.out] at he; subst he; have H9 := Lib.hid (H1.out.keep hx); clear hx; obtain ⟨q0_0, q0_1, q0_2⟩ := (H9.out).b0.cells3; obtain ⟨q1_0, q1_1, q1_2, q1_3, q1_4, q1_5, q1_6, q1_7⟩ := (H9.out).tl.b0.cells8; obtain ⟨q2_0, q2_1, q2_2, q2_3, q2_4, q2_5, q2_6, q2_7⟩ := (H9.out).tl.tl.b0.cells8)
                go_upto_region 5 with (fail)
                go_upto_region 6 with (fail)
                try simp only [if_pos hm]
                clear p0_0 p0_1 p0_2 p1_0 p1_1 p1_2 p1_3 p1_4 p1_5 p1_6 p1_7 p2_0 p2_1 p2_2 p2_3 p2_4 p2_5 p2_6 p2_7
                clear q0_0 q0_1 q0_2 q1_0 q1_1 q1_2 q1_3 q1_4 q1_5 q1_6 q1_7 q2_0 q2_1 q2_2 q2_3 q2_4 q2_5 q2_6 q2_7
                have HM := Lib.hid (H9.out.new #[.int .i64 2, .int .i64 0, .int .i64 0, .int .i64 0, .int .i64 0, .int .u32 a1_0, .int .i64 5, .string a1_2, .int .i64 a1_5, .int .i64 a1_7, .bool false] 27)
                generalize w9.alloc (.cells #[.int .i64 2, .int .i64 0, .int .i64 0, .int .i64 0, .int .i64 0, .int .u32 a1_0, .int .i64 5, .string a1_2, .int .i64 a1_5, .int .i64 a1_7, .bool false] 27) = wm at *
                generalize w9.heap.size = gm at *
                obtain ⟨p0_0, p0_1, p0_2, p0_3, p0_4, p0_5, p0_6, p0_7, p0_8, p0_9, p0_10⟩ := (HM.out).b0.cells11; obtain ⟨p1_0, p1_1, p1_2⟩ := (HM.out).tl.b0.cells3; obtain ⟨p2_0, p2_1, p2_2, p2_3, p2_4, p2_5, p2_6, p2_7⟩ := (HM.out).tl.tl.b0.cells8; obtain ⟨p3_0, p3_1, p3_2, p3_3, p3_4, p3_5, p3_6, p3_7⟩ := (HM.out).tl.tl.tl.b0.cells8
                go_upto_region 8 with (go_at_call 9; (with_reducible refine (take_any _ _ _ _ _ _ _ _ _ _ _ _ _ _ _ _ _ _ _ _ _ _ _).mono ?_); rintro e w2 ⟨he, hx⟩; rw [HT.out] at he; subst he; have H2 := Lib.hid (HM.out.keep hx); clear hx; simp only [Lz.val] at *)
                clear p0_0 p0_1 p0_2 p0_3 p0_4 p0_5 p0_6 p0_7 p0_8 p0_9 p0_10 p1_0 p1_1 p1_2 p2_0 p2_1 p2_2 p2_3 p2_4 p2_5 p2_6 p2_7 p3_0 p3_1 p3_2 p3_3 p3_4 p3_5 p3_6 p3_7
                have H3 := Lib.hid (H2.out.new #[.int .u32 a0_0, .int .i64 5, .string a1_2, .int .i64 xu, .int .i64 xk, .int .i64 xt, .int .i64 xz, .int .i64 xv] 25)
                generalize w2.alloc (.cells #[.int .u32 a0_0, .int .i64 5, .string a1_2, .int .i64 xu, .int .i64 xk, .int .i64 xt, .int .i64 xz, .int .i64 xv] 25) = w3 at *
                generalize w2.heap.size = g2 at *
                obtain ⟨p0_0, p0_1, p0_2, p0_3, p0_4, p0_5, p0_6, p0_7⟩ := (H3.out).b0.cells8; obtain ⟨p1_0, p1_1, p1_2, p1_3, p1_4, p1_5, p1_6, p1_7, p1_8, p1_9, p1_10⟩ := (H3.out).tl.b0.cells11; obtain ⟨p2_0, p2_1, p2_2⟩ := (H3.out).tl.tl.b0.cells3; obtain ⟨p3_0, p3_1, p3_2, p3_3, p3_4, p3_5, p3_6, p3_7⟩ := (H3.out).tl.tl.tl.b0.cells8; obtain ⟨p4_0, p4_1, p4_2, p4_3, p4_4, p4_5, p4_6, p4_7⟩ := (H3.out).tl.tl.tl.tl.b0.cells8
                go_wp2
                all_goals
                  go_ret
                  exact ⟨rfl, H3.out.2⟩
        · have hmx : max a1_3 a1_5 = a1_3 := by omega
          rcases (show a1_1 = 0 ∨ a1_1 = 1 ∨ a1_1 = 2 ∨ a1_1 = 5 by have := hr.2; omega) with h01 | h01 | h01 | h01
          · generalize htk : takeV a0_0 ⟨a0_1, a0_2, a0_3, a0_4, a0_5, a0_6, a0_7⟩ 2 a1_0 a1_1 a1_2 a1_3 a1_7 a2_0 a2_1 a2_2 = tk
            obtain ⟨⟨xb, xc, xu, xk, xt, xz, xv⟩, ok⟩ := tk
            have HT := Lib.hid htk
            clear htk
            cases ok
            · have hn := takeV_no (show (takeV a0_0 ⟨a0_1, a0_2, a0_3, a0_4, a0_5, a0_6, a0_7⟩ 2 a1_0 a1_1 a1_2 a1_3 a1_7 a2_0 a2_1 a2_2).2 = false by rw [HT.out])
              rw [HT.out] at hn
              obtain ⟨rfl, rfl, rfl, rfl, rfl, rfl, rfl⟩ : xb = a0_1 ∧ xc = a0_2 ∧ xu = a0_3 ∧ xk = a0_4 ∧ xt = a0_5 ∧ xz = a0_6 ∧ xv = a0_7 := by simpa using hn
              subst h01
              clear hn h3 h4 hr hmx
              clear w0_0 w0_1 w0_2 w0_3 w0_4 w0_5 w0_6 w0_7 w1_0 w1_1 w1_2 w1_3 w1_4 w1_5 w1_6 w1_7 w2_0 w2_1 w2_2
              go_enter Try.func6, Try.ntmps6
              go_upto_region 2 with (go_at_call 8; (with_reducible refine (awake_any _).mono ?_); rintro e w1 ⟨rfl, hx⟩; have H1 := Lib.hid (H0.out.keep hx); clear hx; obtain ⟨p0_0, p0_1, p0_2⟩ := (H1.out).b0.cells3; obtain ⟨p1_0, p1_1, p1_2, p1_3, p1_4, p1_5, p1_6, p1_7⟩ := (H1.out).tl.b0.cells8; obtain ⟨p2_0, p2_1, p2_2, p2_3, p2_4, p2_5, p2_6, p2_7⟩ := (H1.out).tl.tl.b0.cells8)
              go_upto_region 3 with (go_at_call 12; (with_reducible refine (rright_any _ _ _ _ _ _ _ _ _).mono ?_); rintro e w9 ⟨he, hx⟩; rw [HRT.out] at he; subst he; have H9 := Lib.hid (H1.out.keep hx); clear hx; obtain ⟨q0_0, q0_1, q0_2⟩ := (H9.out).b0.cells3; obtain ⟨q1_0, q1_1, q1_2, q1_3, q1_4, q1_5, q1_6, q1_7⟩ := (H9.out).tl.b0.cells8; obtain ⟨q2_0, q2_1, q2_2, q2_3, q2_4, q2_5, q2_6, q2_7⟩ := (H9.out).tl.tl.b0.cells8)
              go_upto_region 5 with (fail)
              go_upto_region 6 with (fail)
              try simp only [if_neg hm]
              clear p0_0 p0_1 p0_2 p1_0 p1_1 p1_2 p1_3 p1_4 p1_5 p1_6 p1_7 p2_0 p2_1 p2_2 p2_3 p2_4 p2_5 p2_6 p2_7
              clear q0_0 q0_1 q0_2 q1_0 q1_1 q1_2 q1_3 q1_4 q1_5 q1_6 q1_7 q2_0 q2_1 q2_2 q2_3 q2_4 q2_5 q2_6 q2_7
              have HM := Lib.hid (H9.out.new #[.int .i64 2, .int .i64 0, .int .i64 0, .int .i64 0, .int .i64 0, .int .u32 a1_0, .int .i64 0, .string a1_2, .int .i64 a1_3, .int .i64 a1_7, .bool false] 27)
              generalize w9.alloc (.cells #[.int .i64 2, .int .i64 0, .int .i64 0, .int .i64 0, .int .i64 0, .int .u32 a1_0, .int .i64 0, .string a1_2, .int .i64 a1_3, .int .i64 a1_7, .bool false] 27) = wm at *
              generalize w9.heap.size = gm at *
              obtain ⟨p0_0, p0_1, p0_2, p0_3, p0_4, p0_5, p0_6, p0_7, p0_8, p0_9, p0_10⟩ := (HM.out).b0.cells11; obtain ⟨p1_0, p1_1, p1_2⟩ := (HM.out).tl.b0.cells3; obtain ⟨p2_0, p2_1, p2_2, p2_3, p2_4, p2_5, p2_6, p2_7⟩ := (HM.out).tl.tl.b0.cells8; obtain ⟨p3_0, p3_1, p3_2, p3_3, p3_4, p3_5, p3_6, p3_7⟩ := (HM.out).tl.tl.tl.b0.cells8
              go_upto_region 8 with (go_at_call 9; (with_reducible refine (take_any _ _ _ _ _ _ _ _ _ _ _ _ _ _ _ _ _ _ _ _ _ _ _).mono ?_); rintro e w2 ⟨he, hx⟩; rw [HT.out] at he; subst he; have H2 := Lib.hid (HM.out.keep hx); clear hx; simp only [Lz.val] at *)
              clear p0_0 p0_1 p0_2 p0_3 p0_4 p0_5 p0_6 p0_7 p0_8 p0_9 p0_10 p1_0 p1_1 p1_2 p2_0 p2_1 p2_2 p2_3 p2_4 p2_5 p2_6 p2_7 p3_0 p3_1 p3_2 p3_3 p3_4 p3_5 p3_6 p3_7
              have H3 := Lib.hid (H2.out.new #[.int .u32 a0_0, .int .i64 xb, .string xc, .int .i64 xu, .int .i64 xk, .int .i64 xt, .int .i64 xz, .int .i64 xv] 25)
              generalize w2.alloc (.cells #[.int .u32 a0_0, .int .i64 xb, .string xc, .int .i64 xu, .int .i64 xk, .int .i64 xt, .int .i64 xz, .int .i64 xv] 25) = w3 at *
              generalize w2.heap.size = g2 at *
              obtain ⟨p0_0, p0_1, p0_2, p0_3, p0_4, p0_5, p0_6, p0_7⟩ := (H3.out).b0.cells8; obtain ⟨p1_0, p1_1, p1_2, p1_3, p1_4, p1_5, p1_6, p1_7, p1_8, p1_9, p1_10⟩ := (H3.out).tl.b0.cells11; obtain ⟨p2_0, p2_1, p2_2⟩ := (H3.out).tl.tl.b0.cells3; obtain ⟨p3_0, p3_1, p3_2, p3_3, p3_4, p3_5, p3_6, p3_7⟩ := (H3.out).tl.tl.tl.b0.cells8; obtain ⟨p4_0, p4_1, p4_2, p4_3, p4_4, p4_5, p4_6, p4_7⟩ := (H3.out).tl.tl.tl.tl.b0.cells8
              go_wp2
              all_goals
                go_ret
                exact ⟨rfl, H3.out.2⟩
            · have hk := takeV_agree (la := a0_0) (oa := a1_0) (l := ⟨a0_1, a0_2, a0_3, a0_4, a0_5, a0_6, a0_7⟩) (st := a2_0) (now := a2_1) (gd := a2_2) hr h3 h4 (by rw [hmx, HT.out])
              rw [hmx, HT.out] at hk
              simp only at hk
              rcases hk with ⟨hk1, hk2, hk3⟩ | ⟨hk0, hk1, hk2, hk3, hk4⟩
              · obtain ⟨rfl, rfl, rfl, rfl, rfl, rfl, rfl⟩ : xb = a0_1 ∧ xc = a0_2 ∧ xu = a0_3 ∧ xk = a0_4 ∧ xt = a0_5 ∧ xz = a0_6 ∧ xv = a0_7 := by simpa using hk3
                have kl : decide (a1_7 ≤ xv) = true := decide_eq_true hk2
                subst h01
                clear hk1 hk2 hk3 h3 h4 hr hmx
                clear w0_0 w0_1 w0_2 w0_3 w0_4 w0_5 w0_6 w0_7 w1_0 w1_1 w1_2 w1_3 w1_4 w1_5 w1_6 w1_7 w2_0 w2_1 w2_2
                go_enter Try.func6, Try.ntmps6
                go_upto_region 2 with (go_at_call 8; (with_reducible refine (awake_any _).mono ?_); rintro e w1 ⟨rfl, hx⟩; have H1 := Lib.hid (H0.out.keep hx); clear hx; obtain ⟨p0_0, p0_1, p0_2⟩ := (H1.out).b0.cells3; obtain ⟨p1_0, p1_1, p1_2, p1_3, p1_4, p1_5, p1_6, p1_7⟩ := (H1.out).tl.b0.cells8; obtain ⟨p2_0, p2_1, p2_2, p2_3, p2_4, p2_5, p2_6, p2_7⟩ := (H1.out).tl.tl.b0.cells8)
                go_upto_region 3 with (go_at_call 12; (with_reducible refine (rright_any _ _ _ _ _ _ _ _ _).mono ?_); rintro e w9 ⟨he, hx⟩; rw [HRT.out] at he; subst he; have H9 := Lib.hid (H1.out.keep hx); clear hx; obtain ⟨q0_0, q0_1, q0_2⟩ := (H9.out).b0.cells3; obtain ⟨q1_0, q1_1, q1_2, q1_3, q1_4, q1_5, q1_6, q1_7⟩ := (H9.out).tl.b0.cells8; obtain ⟨q2_0, q2_1, q2_2, q2_3, q2_4, q2_5, q2_6, q2_7⟩ := (H9.out).tl.tl.b0.cells8)
                go_upto_region 5 with (fail)
                go_upto_region 6 with (fail)
                try simp only [if_neg hm]
                clear p0_0 p0_1 p0_2 p1_0 p1_1 p1_2 p1_3 p1_4 p1_5 p1_6 p1_7 p2_0 p2_1 p2_2 p2_3 p2_4 p2_5 p2_6 p2_7
                clear q0_0 q0_1 q0_2 q1_0 q1_1 q1_2 q1_3 q1_4 q1_5 q1_6 q1_7 q2_0 q2_1 q2_2 q2_3 q2_4 q2_5 q2_6 q2_7
                have HM := Lib.hid (H9.out.new #[.int .i64 2, .int .i64 0, .int .i64 0, .int .i64 0, .int .i64 0, .int .u32 a1_0, .int .i64 0, .string a1_2, .int .i64 a1_3, .int .i64 a1_7, .bool false] 27)
                generalize w9.alloc (.cells #[.int .i64 2, .int .i64 0, .int .i64 0, .int .i64 0, .int .i64 0, .int .u32 a1_0, .int .i64 0, .string a1_2, .int .i64 a1_3, .int .i64 a1_7, .bool false] 27) = wm at *
                generalize w9.heap.size = gm at *
                obtain ⟨p0_0, p0_1, p0_2, p0_3, p0_4, p0_5, p0_6, p0_7, p0_8, p0_9, p0_10⟩ := (HM.out).b0.cells11; obtain ⟨p1_0, p1_1, p1_2⟩ := (HM.out).tl.b0.cells3; obtain ⟨p2_0, p2_1, p2_2, p2_3, p2_4, p2_5, p2_6, p2_7⟩ := (HM.out).tl.tl.b0.cells8; obtain ⟨p3_0, p3_1, p3_2, p3_3, p3_4, p3_5, p3_6, p3_7⟩ := (HM.out).tl.tl.tl.b0.cells8
                go_upto_region 8 with (go_at_call 9; (with_reducible refine (take_any _ _ _ _ _ _ _ _ _ _ _ _ _ _ _ _ _ _ _ _ _ _ _).mono ?_); rintro e w2 ⟨he, hx⟩; rw [HT.out] at he; subst he; have H2 := Lib.hid (HM.out.keep hx); clear hx; simp only [Lz.val] at *)
                clear p0_0 p0_1 p0_2 p0_3 p0_4 p0_5 p0_6 p0_7 p0_8 p0_9 p0_10 p1_0 p1_1 p1_2 p2_0 p2_1 p2_2 p2_3 p2_4 p2_5 p2_6 p2_7 p3_0 p3_1 p3_2 p3_3 p3_4 p3_5 p3_6 p3_7
                have H3 := Lib.hid (H2.out.new #[.int .u32 a0_0, .int .i64 xb, .string xc, .int .i64 xu, .int .i64 xk, .int .i64 xt, .int .i64 xz, .int .i64 xv] 25)
                generalize w2.alloc (.cells #[.int .u32 a0_0, .int .i64 xb, .string xc, .int .i64 xu, .int .i64 xk, .int .i64 xt, .int .i64 xz, .int .i64 xv] 25) = w3 at *
                generalize w2.heap.size = g2 at *
                obtain ⟨p0_0, p0_1, p0_2, p0_3, p0_4, p0_5, p0_6, p0_7⟩ := (H3.out).b0.cells8; obtain ⟨p1_0, p1_1, p1_2, p1_3, p1_4, p1_5, p1_6, p1_7, p1_8, p1_9, p1_10⟩ := (H3.out).tl.b0.cells11; obtain ⟨p2_0, p2_1, p2_2⟩ := (H3.out).tl.tl.b0.cells3; obtain ⟨p3_0, p3_1, p3_2, p3_3, p3_4, p3_5, p3_6, p3_7⟩ := (H3.out).tl.tl.tl.b0.cells8; obtain ⟨p4_0, p4_1, p4_2, p4_3, p4_4, p4_5, p4_6, p4_7⟩ := (H3.out).tl.tl.tl.tl.b0.cells8
                go_wp2
                all_goals
                  go_ret
                  exact ⟨rfl, H3.out.2⟩
              · obtain rfl : a1_2 = xc := hk2.symm
                obtain rfl : a1_7 = xv := (hk4 (by omega)).symm
                have kl : decide (a1_7 ≤ a0_7) = false := decide_eq_false (fun h => hk0 ⟨by omega, h⟩)
                subst h01
                obtain rfl : xb = 0 := hk1
                clear hk0 hk3 hk4 h3 h4 hr hmx
                clear w0_0 w0_1 w0_2 w0_3 w0_4 w0_5 w0_6 w0_7 w1_0 w1_1 w1_2 w1_3 w1_4 w1_5 w1_6 w1_7 w2_0 w2_1 w2_2
                go_enter Try.func6, Try.ntmps6
                go_upto_region 2 with (go_at_call 8; (with_reducible refine (awake_any _).mono ?_); rintro e w1 ⟨rfl, hx⟩; have H1 := Lib.hid (H0.out.keep hx); clear hx; obtain ⟨p0_0, p0_1, p0_2⟩ := (H1.out).b0.cells3; obtain ⟨p1_0, p1_1, p1_2, p1_3, p1_4, p1_5, p1_6, p1_7⟩ := (H1.out).tl.b0.cells8; obtain ⟨p2_0, p2_1, p2_2, p2_3, p2_4, p2_5, p2_6, p2_7⟩ := (H1.out).tl.tl.b0.cells8)
                go_upto_region 3 with (go_at_call 12; (with_reducible refine (rright_any _ _ _ _ _ _ _ _ _).mono ?_); rintro e w9 ⟨he, hx⟩; rw [HRT.out] at he; subst he; have H9 := Lib.hid (H1.out.keep hx); clear hx; obtain ⟨q0_0, q0_1, q0_2⟩ := (H9.out).b0.cells3; obtain ⟨q1_0, q1_1, q1_2, q1_3, q1_4, q1_5, q1_6, q1_7⟩ := (H9.out).tl.b0.cells8; obtain ⟨q2_0, q2_1, q2_2, q2_3, q2_4, q2_5, q2_6, q2_7⟩ := (H9.out).tl.tl.b0.cells8)
                go_upto_region 5 with (fail)
                go_upto_region 6 with (fail)
                try simp only [if_neg hm]
                clear p0_0 p0_1 p0_2 p1_0 p1_1 p1_2 p1_3 p1_4 p1_5 p1_6 p1_7 p2_0 p2_1 p2_2 p2_3 p2_4 p2_5 p2_6 p2_7
                clear q0_0 q0_1 q0_2 q1_0 q1_1 q1_2 q1_3 q1_4 q1_5 q1_6 q1_7 q2_0 q2_1 q2_2 q2_3 q2_4 q2_5 q2_6 q2_7
                have HM := Lib.hid (H9.out.new #[.int .i64 2, .int .i64 0, .int .i64 0, .int .i64 0, .int .i64 0, .int .u32 a1_0, .int .i64 0, .string a1_2, .int .i64 a1_3, .int .i64 a1_7, .bool false] 27)
                generalize w9.alloc (.cells #[.int .i64 2, .int .i64 0, .int .i64 0, .int .i64 0, .int .i64 0, .int .u32 a1_0, .int .i64 0, .string a1_2, .int .i64 a1_3, .int .i64 a1_7, .bool false] 27) = wm at *
                generalize w9.heap.size = gm at *
                obtain ⟨p0_0, p0_1, p0_2, p0_3, p0_4, p0_5, p0_6, p0_7, p0_8, p0_9, p0_10⟩ := (HM.out).b0.cells11; obtain ⟨p1_0, p1_1, p1_2⟩ := (HM.out).tl.b0.cells3; obtain ⟨p2_0, p2_1, p2_2, p2_3, p2_4, p2_5, p2_6, p2_7⟩ := (HM.out).tl.tl.b0.cells8; obtain ⟨p3_0, p3_1, p3_2, p3_3, p3_4, p3_5, p3_6, p3_7⟩ := (HM.out).tl.tl.tl.b0.cells8
                go_upto_region 8 with (go_at_call 9; (with_reducible refine (take_any _ _ _ _ _ _ _ _ _ _ _ _ _ _ _ _ _ _ _ _ _ _ _).mono ?_); rintro e w2 ⟨he, hx⟩; rw [HT.out] at he; subst he; have H2 := Lib.hid (HM.out.keep hx); clear hx; simp only [Lz.val] at *)
                clear p0_0 p0_1 p0_2 p0_3 p0_4 p0_5 p0_6 p0_7 p0_8 p0_9 p0_10 p1_0 p1_1 p1_2 p2_0 p2_1 p2_2 p2_3 p2_4 p2_5 p2_6 p2_7 p3_0 p3_1 p3_2 p3_3 p3_4 p3_5 p3_6 p3_7
                have H3 := Lib.hid (H2.out.new #[.int .u32 a0_0, .int .i64 0, .string a1_2, .int .i64 xu, .int .i64 xk, .int .i64 xt, .int .i64 xz, .int .i64 a1_7] 25)
                generalize w2.alloc (.cells #[.int .u32 a0_0, .int .i64 0, .string a1_2, .int .i64 xu, .int .i64 xk, .int .i64 xt, .int .i64 xz, .int .i64 a1_7] 25) = w3 at *
                generalize w2.heap.size = g2 at *
                obtain ⟨p0_0, p0_1, p0_2, p0_3, p0_4, p0_5, p0_6, p0_7⟩ := (H3.out).b0.cells8; obtain ⟨p1_0, p1_1, p1_2, p1_3, p1_4, p1_5, p1_6, p1_7, p1_8, p1_9, p1_10⟩ := (H3.out).tl.b0.cells11; obtain ⟨p2_0, p2_1, p2_2⟩ := (H3.out).tl.tl.b0.cells3; obtain ⟨p3_0, p3_1, p3_2, p3_3, p3_4, p3_5, p3_6, p3_7⟩ := (H3.out).tl.tl.tl.b0.cells8; obtain ⟨p4_0, p4_1, p4_2, p4_3, p4_4, p4_5, p4_6, p4_7⟩ := (H3.out).tl.tl.tl.tl.b0.cells8
                go_wp2
                all_goals
                  go_ret
                  exact ⟨rfl, H3.out.2⟩
          · generalize htk : takeV a0_0 ⟨a0_1, a0_2, a0_3, a0_4, a0_5, a0_6, a0_7⟩ 2 a1_0 a1_1 a1_2 a1_3 a1_7 a2_0 a2_1 a2_2 = tk
            obtain ⟨⟨xb, xc, xu, xk, xt, xz, xv⟩, ok⟩ := tk
            have HT := Lib.hid htk
            clear htk
            cases ok
            · have hn := takeV_no (show (takeV a0_0 ⟨a0_1, a0_2, a0_3, a0_4, a0_5, a0_6, a0_7⟩ 2 a1_0 a1_1 a1_2 a1_3 a1_7 a2_0 a2_1 a2_2).2 = false by rw [HT.out])
              rw [HT.out] at hn
              obtain ⟨rfl, rfl, rfl, rfl, rfl, rfl, rfl⟩ : xb = a0_1 ∧ xc = a0_2 ∧ xu = a0_3 ∧ xk = a0_4 ∧ xt = a0_5 ∧ xz = a0_6 ∧ xv = a0_7 := by simpa using hn
              subst h01
              clear hn h3 h4 hr hmx
              clear w0_0 w0_1 w0_2 w0_3 w0_4 w0_5 w0_6 w0_7 w1_0 w1_1 w1_2 w1_3 w1_4 w1_5 w1_6 w1_7 w2_0 w2_1 w2_2
              go_enter Try.func6, Try.ntmps6
              go_upto_region 2 with (go_at_call 8; (with_reducible refine (awake_any _).mono ?_); rintro e w1 ⟨rfl, hx⟩; have H1 := Lib.hid (H0.out.keep hx); clear hx; obtain ⟨p0_0, p0_1, p0_2⟩ := (H1.out).b0.cells3; obtain ⟨p1_0, p1_1, p1_2, p1_3, p1_4, p1_5, p1_6, p1_7⟩ := (H1.out).tl.b0.cells8; obtain ⟨p2_0, p2_1, p2_2, p2_3, p2_4, p2_5, p2_6, p2_7⟩ := (H1.out).tl.tl.b0.cells8)
              go_upto_region 3 with (go_at_call 12; (with_reducible refine (rright_any _ _ _ _ _ _ _ _ _).mono ?_); rintro e w9 ⟨he, hx⟩; rw [HRT.out] at he; subst he; have H9 := Lib.hid (H1.out.keep hx); clear hx; obtain ⟨q0_0, q0_1, q0_2⟩ := (H9.out).b0.cells3; obtain ⟨q1_0, q1_1, q1_2, q1_3, q1_4, q1_5, q1_6, q1_7⟩ := (H9.out).tl.b0.cells8; obtain ⟨q2_0, q2_1, q2_2, q2_3, q2_4, q2_5, q2_6, q2_7⟩ := (H9.out).tl.tl.b0.cells8)
              go_upto_region 5 with (fail)
              go_upto_region 6 with (fail)
              try simp only [if_neg hm]
              clear p0_0 p0_1 p0_2 p1_0 p1_1 p1_2 p1_3 p1_4 p1_5 p1_6 p1_7 p2_0 p2_1 p2_2 p2_3 p2_4 p2_5 p2_6 p2_7
              clear q0_0 q0_1 q0_2 q1_0 q1_1 q1_2 q1_3 q1_4 q1_5 q1_6 q1_7 q2_0 q2_1 q2_2 q2_3 q2_4 q2_5 q2_6 q2_7
              have HM := Lib.hid (H9.out.new #[.int .i64 2, .int .i64 0, .int .i64 0, .int .i64 0, .int .i64 0, .int .u32 a1_0, .int .i64 1, .string a1_2, .int .i64 a1_3, .int .i64 a1_7, .bool false] 27)
              generalize w9.alloc (.cells #[.int .i64 2, .int .i64 0, .int .i64 0, .int .i64 0, .int .i64 0, .int .u32 a1_0, .int .i64 1, .string a1_2, .int .i64 a1_3, .int .i64 a1_7, .bool false] 27) = wm at *
              generalize w9.heap.size = gm at *
              obtain ⟨p0_0, p0_1, p0_2, p0_3, p0_4, p0_5, p0_6, p0_7, p0_8, p0_9, p0_10⟩ := (HM.out).b0.cells11; obtain ⟨p1_0, p1_1, p1_2⟩ := (HM.out).tl.b0.cells3; obtain ⟨p2_0, p2_1, p2_2, p2_3, p2_4, p2_5, p2_6, p2_7⟩ := (HM.out).tl.tl.b0.cells8; obtain ⟨p3_0, p3_1, p3_2, p3_3, p3_4, p3_5, p3_6, p3_7⟩ := (HM.out).tl.tl.tl.b0.cells8
              go_upto_region 8 with (go_at_call 9; (with_reducible refine (take_any _ _ _ _ _ _ _ _ _ _ _ _ _ _ _ _ _ _ _ _ _ _ _).mono ?_); rintro e w2 ⟨he, hx⟩; rw [HT.out] at he; subst he; have H2 := Lib.hid (HM.out.keep hx); clear hx; simp only [Lz.val] at *)
              clear p0_0 p0_1 p0_2 p0_3 p0_4 p0_5 p0_6 p0_7 p0_8 p0_9 p0_10 p1_0 p1_1 p1_2 p2_0 p2_1 p2_2 p2_3 p2_4 p2_5 p2_6 p2_7 p3_0 p3_1 p3_2 p3_3 p3_4 p3_5 p3_6 p3_7
              have H3 := Lib.hid (H2.out.new #[.int .u32 a0_0, .int .i64 xb, .string xc, .int .i64 xu, .int .i64 xk, .int .i64 xt, .int .i64 xz, .int .i64 xv] 25)
              generalize w2.alloc (.cells #[.int .u32 a0_0, .int .i64 xb, .string xc, .int .i64 xu, .int .i64 xk, .int .i64 xt, .int .i64 xz, .int .i64 xv] 25) = w3 at *
              generalize w2.heap.size = g2 at *
              obtain ⟨p0_0, p0_1, p0_2, p0_3, p0_4, p0_5, p0_6, p0_7⟩ := (H3.out).b0.cells8; obtain ⟨p1_0, p1_1, p1_2, p1_3, p1_4, p1_5, p1_6, p1_7, p1_8, p1_9, p1_10⟩ := (H3.out).tl.b0.cells11; obtain ⟨p2_0, p2_1, p2_2⟩ := (H3.out).tl.tl.b0.cells3; obtain ⟨p3_0, p3_1, p3_2, p3_3, p3_4, p3_5, p3_6, p3_7⟩ := (H3.out).tl.tl.tl.b0.cells8; obtain ⟨p4_0, p4_1, p4_2, p4_3, p4_4, p4_5, p4_6, p4_7⟩ := (H3.out).tl.tl.tl.tl.b0.cells8
              go_wp2
              all_goals
                go_ret
                exact ⟨rfl, H3.out.2⟩
            · have hk := takeV_agree (la := a0_0) (oa := a1_0) (l := ⟨a0_1, a0_2, a0_3, a0_4, a0_5, a0_6, a0_7⟩) (st := a2_0) (now := a2_1) (gd := a2_2) hr h3 h4 (by rw [hmx, HT.out])
              rw [hmx, HT.out] at hk
              simp only at hk
              rcases hk with ⟨hk1, hk2, hk3⟩ | ⟨hk0, hk1, hk2, hk3, hk4⟩
              · obtain ⟨rfl, rfl, rfl, rfl, rfl, rfl, rfl⟩ : xb = a0_1 ∧ xc = a0_2 ∧ xu = a0_3 ∧ xk = a0_4 ∧ xt = a0_5 ∧ xz = a0_6 ∧ xv = a0_7 := by simpa using hk3
                have kl : decide (a1_7 ≤ xv) = true := decide_eq_true hk2
                subst h01
                clear hk1 hk2 hk3 h3 h4 hr hmx
                clear w0_0 w0_1 w0_2 w0_3 w0_4 w0_5 w0_6 w0_7 w1_0 w1_1 w1_2 w1_3 w1_4 w1_5 w1_6 w1_7 w2_0 w2_1 w2_2
                go_enter Try.func6, Try.ntmps6
                go_upto_region 2 with (go_at_call 8; (with_reducible refine (awake_any _).mono ?_); rintro e w1 ⟨rfl, hx⟩; have H1 := Lib.hid (H0.out.keep hx); clear hx; obtain ⟨p0_0, p0_1, p0_2⟩ := (H1.out).b0.cells3; obtain ⟨p1_0, p1_1, p1_2, p1_3, p1_4, p1_5, p1_6, p1_7⟩ := (H1.out).tl.b0.cells8; obtain ⟨p2_0, p2_1, p2_2, p2_3, p2_4, p2_5, p2_6, p2_7⟩ := (H1.out).tl.tl.b0.cells8)
                go_upto_region 3 with (go_at_call 12; (with_reducible refine (rright_any _ _ _ _ _ _ _ _ _).mono ?_); rintro e w9 ⟨he, hx⟩; rw [HRT.out] at he; subst he; have H9 := Lib.hid (H1.out.keep hx); clear hx; obtain ⟨q0_0, q0_1, q0_2⟩ := (H9.out).b0.cells3; obtain ⟨q1_0, q1_1, q1_2, q1_3, q1_4, q1_5, q1_6, q1_7⟩ := (H9.out).tl.b0.cells8; obtain ⟨q2_0, q2_1, q2_2, q2_3, q2_4, q2_5, q2_6, q2_7⟩ := (H9.out).tl.tl.b0.cells8)
                go_upto_region 5 with (fail)
                go_upto_region 6 with (fail)
                try simp only [if_neg hm]
                clear p0_0 p0_1 p0_2 p1_0 p1_1 p1_2 p1_3 p1_4 p1_5 p1_6 p1_7 p2_0 p2_1 p2_2 p2_3 p2_4 p2_5 p2_6 p2_7
                clear q0_0 q0_1 q0_2 q1_0 q1_1 q1_2 q1_3 q1_4 q1_5 q1_6 q1_7 q2_0 q2_1 q2_2 q2_3 q2_4 q2_5 q2_6 q2_7
                have HM := Lib.hid (H9.out.new #[.int .i64 2, .int .i64 0, .int .i64 0, .int .i64 0, .int .i64 0, .int .u32 a1_0, .int .i64 1, .string a1_2, .int .i64 a1_3, .int .i64 a1_7, .bool false] 27)
                generalize w9.alloc (.cells #[.int .i64 2, .int .i64 0, .int .i64 0, .int .i64 0, .int .i64 0, .int .u32 a1_0, .int .i64 1, .string a1_2, .int .i64 a1_3, .int .i64 a1_7, .bool false] 27) = wm at *
                generalize w9.heap.size = gm at *
                obtain ⟨p0_0, p0_1, p0_2, p0_3, p0_4, p0_5, p0_6, p0_7, p0_8, p0_9, p0_10⟩ := (HM.out).b0.cells11; obtain ⟨p1_0, p1_1, p1_2⟩ := (HM.out).tl.b0.cells3; obtain ⟨p2_0, p2_1, p2_2, p2_3, p2_4, p2_5, p2_6, p2_7⟩ := (HM.out).tl.tl.b0.cells8; obtain ⟨p3_0, p3_1, p3_2, p3_3, p3_4, p3_5, p3_6, p3_7⟩ := (HM.out).tl.tl.tl.b0.cells8
                go_upto_region 8 with (go_at_call 9; (with_reducible refine (take_any _ _ _ _ _ _ _ _ _ _ _ _ _ _ _ _ _ _ _ _ _ _ _).mono ?_); rintro e w2 ⟨he, hx⟩; rw [HT.out] at he; subst he; have H2 := Lib.hid (HM.out.keep hx); clear hx; simp only [Lz.val] at *)
                clear p0_0 p0_1 p0_2 p0_3 p0_4 p0_5 p0_6 p0_7 p0_8 p0_9 p0_10 p1_0 p1_1 p1_2 p2_0 p2_1 p2_2 p2_3 p2_4 p2_5 p2_6 p2_7 p3_0 p3_1 p3_2 p3_3 p3_4 p3_5 p3_6 p3_7
                have H3 := Lib.hid (H2.out.new #[.int .u32 a0_0, .int .i64 xb, .string xc, .int .i64 xu, .int .i64 xk, .int .i64 xt, .int .i64 xz, .int .i64 xv] 25)
                generalize w2.alloc (.cells #[.int .u32 a0_0, .int .i64 xb, .string xc, .int .i64 xu, .int .i64 xk, .int .i64 xt, .int .i64 xz, .int .i64 xv] 25) = w3 at *
                generalize w2.heap.size = g2 at *
                obtain ⟨p0_0, p0_1, p0_2, p0_3, p0_4, p0_5, p0_6, p0_7⟩ := (H3.out).b0.cells8; obtain ⟨p1_0, p1_1, p1_2, p1_3, p1_4, p1_5, p1_6, p1_7, p1_8, p1_9, p1_10⟩ := (H3.out).tl.b0.cells11; obtain ⟨p2_0, p2_1, p2_2⟩ := (H3.out).tl.tl.b0.cells3; obtain ⟨p3_0, p3_1, p3_2, p3_3, p3_4, p3_5, p3_6, p3_7⟩ := (H3.out).tl.tl.tl.b0.cells8; obtain ⟨p4_0, p4_1, p4_2, p4_3, p4_4, p4_5, p4_6, p4_7⟩ := (H3.out).tl.tl.tl.tl.b0.cells8
                go_wp2
                all_goals
                  go_ret
                  exact ⟨rfl, H3.out.2⟩
              · obtain rfl : a1_2 = xc := hk2.symm
                obtain rfl : a1_7 = xv := (hk4 (by omega)).symm
                have kl : decide (a1_7 ≤ a0_7) = false := decide_eq_false (fun h => hk0 ⟨by omega, h⟩)
                subst h01
                obtain rfl : xb = 1 := hk1
                clear hk0 hk3 hk4 h3 h4 hr hmx
                clear w0_0 w0_1 w0_2 w0_3 w0_4 w0_5 w0_6 w0_7 w1_0 w1_1 w1_2 w1_3 w1_4 w1_5 w1_6 w1_7 w2_0 w2_1 w2_2
                go_enter Try.func6, Try.ntmps6
                go_upto_region 2 with (go_at_call 8; (with_reducible refine (awake_any _).mono ?_); rintro e w1 ⟨rfl, hx⟩; have H1 := Lib.hid (H0.out.keep hx); clear hx; obtain ⟨p0_0, p0_1, p0_2⟩ := (H1.out).b0.cells3; obtain ⟨p1_0, p1_1, p1_2, p1_3, p1_4, p1_5, p1_6, p1_7⟩ := (H1.out).tl.b0.cells8; obtain ⟨p2_0, p2_1, p2_2, p2_3, p2_4, p2_5, p2_6, p2_7⟩ := (H1.out).tl.tl.b0.cells8)
                go_upto_region 3 with (go_at_call 12; (with_reducible refine (rright_any _ _ _ _ _ _ _ _ _).mono ?_); rintro e w9 ⟨he, hx⟩; rw [HRT.out] at he; subst he; have H9 := Lib.hid (H1.out.keep hx); clear hx; obtain ⟨q0_0, q0_1, q0_2⟩ := (H9.out).b0.cells3; obtain ⟨q1_0, q1_1, q1_2, q1_3, q1_4, q1_5, q1_6, q1_7⟩ := (H9.out).tl.b0.cells8; obtain ⟨q2_0, q2_1, q2_2, q2_3, q2_4, q2_5, q2_6, q2_7⟩ := (H9.out).tl.tl.b0.cells8)
                go_upto_region 5 with (fail)
                go_upto_region 6 with (fail)
                try simp only [if_neg hm]
                clear p0_0 p0_1 p0_2 p1_0 p1_1 p1_2 p1_3 p1_4 p1_5 p1_6 p1_7 p2_0 p2_1 p2_2 p2_3 p2_4 p2_5 p2_6 p2_7
                clear q0_0 q0_1 q0_2 q1_0 q1_1 q1_2 q1_3 q1_4 q1_5 q1_6 q1_7 q2_0 q2_1 q2_2 q2_3 q2_4 q2_5 q2_6 q2_7
                have HM := Lib.hid (H9.out.new #[.int .i64 2, .int .i64 0, .int .i64 0, .int .i64 0, .int .i64 0, .int .u32 a1_0, .int .i64 1, .string a1_2, .int .i64 a1_3, .int .i64 a1_7, .bool false] 27)
                generalize w9.alloc (.cells #[.int .i64 2, .int .i64 0, .int .i64 0, .int .i64 0, .int .i64 0, .int .u32 a1_0, .int .i64 1, .string a1_2, .int .i64 a1_3, .int .i64 a1_7, .bool false] 27) = wm at *
                generalize w9.heap.size = gm at *
                obtain ⟨p0_0, p0_1, p0_2, p0_3, p0_4, p0_5, p0_6, p0_7, p0_8, p0_9, p0_10⟩ := (HM.out).b0.cells11; obtain ⟨p1_0, p1_1, p1_2⟩ := (HM.out).tl.b0.cells3; obtain ⟨p2_0, p2_1, p2_2, p2_3, p2_4, p2_5, p2_6, p2_7⟩ := (HM.out).tl.tl.b0.cells8; obtain ⟨p3_0, p3_1, p3_2, p3_3, p3_4, p3_5, p3_6, p3_7⟩ := (HM.out).tl.tl.tl.b0.cells8
                go_upto_region 8 with (go_at_call 9; (with_reducible refine (take_any _ _ _ _ _ _ _ _ _ _ _ _ _ _ _ _ _ _ _ _ _ _ _).mono ?_); rintro e w2 ⟨he, hx⟩; rw [HT.out] at he; subst he; have H2 := Lib.hid (HM.out.keep hx); clear hx; simp only [Lz.val] at *)
                clear p0_0 p0_1 p0_2 p0_3 p0_4 p0_5 p0_6 p0_7 p0_8 p0_9 p0_10 p1_0 p1_1 p1_2 p2_0 p2_1 p2_2 p2_3 p2_4 p2_5 p2_6 p2_7 p3_0 p3_1 p3_2 p3_3 p3_4 p3_5 p3_6 p3_7
                have H3 := Lib.hid (H2.out.new #[.int .u32 a0_0, .int .i64 1, .string a1_2, .int .i64 xu, .int .i64 xk, .int .i64 xt, .int .i64 xz, .int .i64 a1_7] 25)
                generalize w2.alloc (.cells #[.int .u32 a0_0, .int .i64 1, .string a1_2, .int .i64 xu, .int .i64 xk, .int .i64 xt, .int .i64 xz, .int .i64 a1_7] 25) = w3 at *
                generalize w2.heap.size = g2 at *
                obtain ⟨p0_0, p0_1, p0_2, p0_3, p0_4, p0_5, p0_6, p0_7⟩ := (H3.out).b0.cells8; obtain ⟨p1_0, p1_1, p1_2, p1_3, p1_4, p1_5, p1_6, p1_7, p1_8, p1_9, p1_10⟩ := (H3.out).tl.b0.cells11; obtain ⟨p2_0, p2_1, p2_2⟩ := (H3.out).tl.tl.b0.cells3; obtain ⟨p3_0, p3_1, p3_2, p3_3, p3_4, p3_5, p3_6, p3_7⟩ := (H3.out).tl.tl.tl.b0.cells8; obtain ⟨p4_0, p4_1, p4_2, p4_3, p4_4, p4_5, p4_6, p4_7⟩ := (H3.out).tl.tl.tl.tl.b0.cells8
                go_wp2
                all_goals
                  go_ret
                  exact ⟨rfl, H3.out.2⟩
          · generalize htk : takeV a0_0 ⟨a0_1, a0_2, a0_3, a0_4, a0_5, a0_6, a0_7⟩ 2 a1_0 a1_1 a1_2 a1_3 a1_7 a2_0 a2_1 a2_2 = tk
            obtain ⟨⟨xb, xc, xu, xk, xt, xz, xv⟩, ok⟩ := tk
            have HT := Lib.hid htk
            clear htk
            cases ok
            · have hn := takeV_no (show (takeV a0_0 ⟨a0_1, a0_2, a0_3, a0_4, a0_5, a0_6, a0_7⟩ 2 a1_0 a1_1 a1_2 a1_3 a1_7 a2_0 a2_1 a2_2).2 = false by rw [HT.out])
              rw [HT.out] at hn
              obtain ⟨rfl, rfl, rfl, rfl, rfl, rfl, rfl⟩ : xb = a0_1 ∧ xc = a0_2 ∧ xu = a0_3 ∧ xk = a0_4 ∧ xt = a0_5 ∧ xz = a0_6 ∧ xv = a0_7 := by simpa using hn
              subst h01
              clear hn h3 h4 hr hmx
              clear w0_0 w0_1 w0_2 w0_3 w0_4 w0_5 w0_6 w0_7 w1_0 w1_1 w1_2 w1_3 w1_4 w1_5 w1_6 w1_7 w2_0 w2_1 w2_2
              go_enter Try.func6, Try.ntmps6
              go_upto_region 2 with (go_at_call 8; (with_reducible refine (awake_any _).mono ?_); rintro e w1 ⟨rfl, hx⟩; have H1 := Lib.hid (H0.out.keep hx); clear hx; obtain ⟨p0_0, p0_1, p0_2⟩ := (H1.out).b0.cells3; obtain ⟨p1_0, p1_1, p1_2, p1_3, p1_4, p1_5, p1_6, p1_7⟩ := (H1.out).tl.b0.cells8; obtain ⟨p2_0, p2_1, p2_2, p2_3, p2_4, p2_5, p2_6, p2_7⟩ := (H1.out).tl.tl.b0.cells8)
              go_upto_region 3 with (go_at_call 12; (with_reducible refine (rright_any _ _ _ _ _ _ _ _ _).mono ?_); rintro e w9 ⟨he, hx⟩; rw [HRT.out] at he; subst he; have H9 := Lib.hid (H1.out.keep hx); clear hx; obtain ⟨q0_0, q0_1, q0_2⟩ := (H9.out).b0.cells3; obtain ⟨q1_0, q1_1, q1_2, q1_3, q1_4, q1_5, q1_6, q1_7⟩ := (H9.out).tl.b0.cells8; obtain ⟨q2_0, q2_1, q2_2, q2_3, q2_4, q2_5, q2_6, q2_7⟩ := (H9.out).tl.tl.b0.cells8)
              go_upto_region 5 with (fail)
              go_upto_region 6 with (fail)
              try simp only [if_neg hm]
              clear p0_0 p0_1 p0_2 p1_0 p1_1 p1_2 p1_3 p1_4 p1_5 p1_6 p1_7 p2_0 p2_1 p2_2 p2_3 p2_4 p2_5 p2_6 p2_7
              clear q0_0 q0_1 q0_2 q1_0 q1_1 q1_2 q1_3 q1_4 q1_5 q1_6 q1_7 q2_0 q2_1 q2_2 q2_3 q2_4 q2_5 q2_6 q2_7
              have HM := Lib.hid (H9.out.new #[.int .i64 2, .int .i64 0, .int .i64 0, .int .i64 0, .int .i64 0, .int .u32 a1_0, .int .i64 2, .string a1_2, .int .i64 a1_3, .int .i64 a1_7, .bool false] 27)
              generalize w9.alloc (.cells #[.int .i64 2, .int .i64 0, .int .i64 0, .int .i64 0, .int .i64 0, .int .u32 a1_0, .int .i64 2, .string a1_2, .int .i64 a1_3, .int .i64 a1_7, .bool false] 27) = wm at *
              generalize w9.heap.size = gm at *
              obtain ⟨p0_0, p0_1, p0_2, p0_3, p0_4, p0_5, p0_6, p0_7, p0_8, p0_9, p0_10⟩ := (HM.out).b0.cells11; obtain ⟨p1_0, p1_1, p1_2⟩ := (HM.out).tl.b0.cells3; obtain ⟨p2_0, p2_1, p2_2, p2_3, p2_4, p2_5, p2_6, p2_7⟩ := (HM.out).tl.tl.b0.cells8; obtain ⟨p3_0, p3_1, p3_2, p3_3, p3_4, p3_5, p3_6, p3_7⟩ := (HM.out).tl.tl.tl.b0.cells8
              go_upto_region 8 with (go_at_call 9; (with_reducible refine (take_any _ _ _ _ _ _ _ _ _ _ _ _ _ _ _ _ _ _ _ _ _ _ _).mono ?_); rintro e w2 ⟨he, hx⟩; rw [HT.out] at he; subst he; have H2 := Lib.hid (HM.out.keep hx); clear hx; simp only [Lz.val] at *)
              clear p0_0 p0_1 p0_2 p0_3 p0_4 p0_5 p0_6 p0_7 p0_8 p0_9 p0_10 p1_0 p1_1 p1_2 p2_0 p2_1 p2_2 p2_3 p2_4 p2_5 p2_6 p2_7 p3_0 p3_1 p3_2 p3_3 p3_4 p3_5 p3_6 p3_7
              have H3 := Lib.hid (H2.out.new #[.int .u32 a0_0, .int .i64 xb, .string xc, .int .i64 xu, .int .i64 xk, .int .i64 xt, .int .i64 xz, .int .i64 xv] 25)
              generalize w2.alloc (.cells #[.int .u32 a0_0, .int .i64 xb, .string xc, .int .i64 xu, .int .i64 xk, .int .i64 xt, .int .i64 xz, .int .i64 xv] 25) = w3 at *
              generalize w2.heap.size = g2 at *
              obtain ⟨p0_0, p0_1, p0_2, p0_3, p0_4, p0_5, p0_6, p0_7⟩ := (H3.out).b0.cells8; obtain ⟨p1_0, p1_1, p1_2, p1_3, p1_4, p1_5, p1_6, p1_7, p1_8, p1_9, p1_10⟩ := (H3.out).tl.b0.cells11; obtain ⟨p2_0, p2_1, p2_2⟩ := (H3.out).tl.tl.b0.cells3; obtain ⟨p3_0, p3_1, p3_2, p3_3, p3_4, p3_5, p3_6, p3_7⟩ := (H3.out).tl.tl.tl.b0.cells8; obtain ⟨p4_0, p4_1, p4_2, p4_3, p4_4, p4_5, p4_6, p4_7⟩ := (H3.out).tl.tl.tl.tl.b0.cells8
              go_wp2
              all_goals
                go_ret
                exact ⟨rfl, H3.out.2⟩
            · have hk := takeV_agree (la := a0_0) (oa := a1_0) (l := ⟨a0_1, a0_2, a0_3, a0_4, a0_5, a0_6, a0_7⟩) (st := a2_0) (now := a2_1) (gd := a2_2) hr h3 h4 (by rw [hmx, HT.out])
              rw [hmx, HT.out] at hk
              simp only at hk
              rcases hk with ⟨hk1, hk2, hk3⟩ | ⟨hk0, hk1, hk2, hk3, hk4⟩
              · omega
              · obtain rfl : a1_2 = xc := hk2.symm
                have kl : decide (a1_3 ≤ xt) = true := decide_eq_true (hk3 h01)
                subst h01
                obtain rfl : xb = 2 := hk1
                clear hk0 hk3 hk4 h3 h4 hr hmx
                clear w0_0 w0_1 w0_2 w0_3 w0_4 w0_5 w0_6 w0_7 w1_0 w1_1 w1_2 w1_3 w1_4 w1_5 w1_6 w1_7 w2_0 w2_1 w2_2
                go_enter Try.func6, Try.ntmps6
                go_upto_region 2 with (go_at_call 8; (with_reducible refine (awake_any _).mono ?_); rintro e w1 ⟨rfl, hx⟩; have H1 := Lib.hid (H0.out.keep hx); clear hx; obtain ⟨p0_0, p0_1, p0_2⟩ := (H1.out).b0.cells3; obtain ⟨p1_0, p1_1, p1_2, p1_3, p1_4, p1_5, p1_6, p1_7⟩ := (H1.out).tl.b0.cells8; obtain ⟨p2_0, p2_1, p2_2, p2_3, p2_4, p2_5, p2_6, p2_7⟩ := (H1.out).tl.tl.b0.cells8)
                go_upto_region 3 with (go_at_call 12; (with_reducible refine (rright_any _ _ _ _ _ _ _ _ _).mono ?_); rintro e w9 ⟨he, hx⟩; rw [HRT.out] at he; subst he; have H9 := Lib.hid (H1.out.keep hx); clear hx; obtain ⟨q0_0, q0_1, q0_2⟩ := (H9.out).b0.cells3; obtain ⟨q1_0, q1_1, q1_2, q1_3, q1_4, q1_5, q1_6, q1_7⟩ := (H9.out).tl.b0.cells8; obtain ⟨q2_0, q2_1, q2_2, q2_3, q2_4, q2_5, q2_6, q2_7⟩ := (H9.out).tl.tl.b0.cells8)
                go_upto_region 5 with (fail)
                go_upto_region 6 with (fail)
                try simp only [if_neg hm]
                clear p0_0 p0_1 p0_2 p1_0 p1_1 p1_2 p1_3 p1_4 p1_5 p1_6 p1_7 p2_0 p2_1 p2_2 p2_3 p2_4 p2_5 p2_6 p2_7
                clear q0_0 q0_1 q0_2 q1_0 q1_1 q1_2 q1_3 q1_4 q1_5 q1_6 q1_7 q2_0 q2_1 q2_2 q2_3 q2_4 q2_5 q2_6 q2_7
                have HM := Lib.hid (H9.out.new #[.int .i64 2, .int .i64 0, .int .i64 0, .int .i64 0, .int .i64 0, .int .u32 a1_0, .int .i64 2, .string a1_2, .int .i64 a1_3, .int .i64 a1_7, .bool false] 27)
                generalize w9.alloc (.cells #[.int .i64 2, .int .i64 0, .int .i64 0, .int .i64 0, .int .i64 0, .int .u32 a1_0, .int .i64 2, .string a1_2, .int .i64 a1_3, .int .i64 a1_7, .bool false] 27) = wm at *
                generalize w9.heap.size = gm at *
                obtain ⟨p0_0, p0_1, p0_2, p0_3, p0_4, p0_5, p0_6, p0_7, p0_8, p0_9, p0_10⟩ := (HM.out).b0.cells11; obtain ⟨p1_0, p1_1, p1_2⟩ := (HM.out).tl.b0.cells3; obtain ⟨p2_0, p2_1, p2_2, p2_3, p2_4, p2_5, p2_6, p2_7⟩ := (HM.out).tl.tl.b0.cells8; obtain ⟨p3_0, p3_1, p3_2, p3_3, p3_4, p3_5, p3_6, p3_7⟩ := (HM.out).tl.tl.tl.b0.cells8
                go_upto_region 8 with (go_at_call 9; (with_reducible refine (take_any _ _ _ _ _ _ _ _ _ _ _ _ _ _ _ _ _ _ _ _ _ _ _).mono ?_); rintro e w2 ⟨he, hx⟩; rw [HT.out] at he; subst he; have H2 := Lib.hid (HM.out.keep hx); clear hx; simp only [Lz.val] at *)
                clear p0_0 p0_1 p0_2 p0_3 p0_4 p0_5 p0_6 p0_7 p0_8 p0_9 p0_10 p1_0 p1_1 p1_2 p2_0 p2_1 p2_2 p2_3 p2_4 p2_5 p2_6 p2_7 p3_0 p3_1 p3_2 p3_3 p3_4 p3_5 p3_6 p3_7
                have H3 := Lib.hid (H2.out.new #[.int .u32 a0_0, .int .i64 2, .string a1_2, .int .i64 xu, .int .i64 xk, .int .i64 xt, .int .i64 xz, .int .i64 xv] 25)
                generalize w2.alloc (.cells #[.int .u32 a0_0, .int .i64 2, .string a1_2, .int .i64 xu, .int .i64 xk, .int .i64 xt, .int .i64 xz, .int .i64 xv] 25) = w3 at *
                generalize w2.heap.size = g2 at *
                obtain ⟨p0_0, p0_1, p0_2, p0_3, p0_4, p0_5, p0_6, p0_7⟩ := (H3.out).b0.cells8; obtain ⟨p1_0, p1_1, p1_2, p1_3, p1_4, p1_5, p1_6, p1_7, p1_8, p1_9, p1_10⟩ := (H3.out).tl.b0.cells11; obtain ⟨p2_0, p2_1, p2_2⟩ := (H3.out).tl.tl.b0.cells3; obtain ⟨p3_0, p3_1, p3_2, p3_3, p3_4, p3_5, p3_6, p3_7⟩ := (H3.out).tl.tl.tl.b0.cells8; obtain ⟨p4_0, p4_1, p4_2, p4_3, p4_4, p4_5, p4_6, p4_7⟩ := (H3.out).tl.tl.tl.tl.b0.cells8
                go_wp2
                all_goals
                  go_ret
                  exact ⟨rfl, H3.out.2⟩
          · generalize htk : takeV a0_0 ⟨a0_1, a0_2, a0_3, a0_4, a0_5, a0_6, a0_7⟩ 2 a1_0 a1_1 a1_2 a1_3 a1_7 a2_0 a2_1 a2_2 = tk
            obtain ⟨⟨xb, xc, xu, xk, xt, xz, xv⟩, ok⟩ := tk
            have HT := Lib.hid htk
            clear htk
            cases ok
            · have hn := takeV_no (show (takeV a0_0 ⟨a0_1, a0_2, a0_3, a0_4, a0_5, a0_6, a0_7⟩ 2 a1_0 a1_1 a1_2 a1_3 a1_7 a2_0 a2_1 a2_2).2 = false by rw [HT.out])
              rw [HT.out] at hn
              obtain ⟨rfl, rfl, rfl, rfl, rfl, rfl, rfl⟩ : xb = a0_1 ∧ xc = a0_2 ∧ xu = a0_3 ∧ xk = a0_4 ∧ xt = a0_5 ∧ xz = a0_6 ∧ xv = a0_7 := by simpa using hn
              subst h01
              clear hn h3 h4 hr hmx
              clear w0_0 w0_1 w0_2 w0_3 w0_4 w0_5 w0_6 w0_7 w1_0 w1_1 w1_2 w1_3 w1_4 w1_5 w1_6 w1_7 w2_0 w2_1 w2_2
              go_enter Try.func6, Try.ntmps6
              go_upto_region 2 with (go_at_call 8; (with_reducible refine (awake_any _).mono ?_); rintro e w1 ⟨rfl, hx⟩; have H1 := Lib.hid (H0.out.keep hx); clear hx; obtain ⟨p0_0, p0_1, p0_2⟩ := (H1.out).b0.cells3; obtain ⟨p1_0, p1_1, p1_2, p1_3, p1_4, p1_5, p1_6, p1_7⟩ := (H1.out).tl.b0.cells8; obtain ⟨p2_0, p2_1, p2_2, p2_3, p2_4, p2_5, p2_6, p2_7⟩ := (H1.out).tl.tl.b0.cells8)
              go_upto_region 3 with (go_at_call 12; (with_reducible refine (rright_any _ _ _ _ _ _ _ _ _).mono ?_); rintro e w9 ⟨he, hx⟩; rw [HRT.out] at he; subst he; have H9 := Lib.hid (H1.out.keep hx); clear hx; obtain ⟨q0_0, q0_1, q0_2⟩ := (H9.out).b0.cells3; obtain ⟨q1_0, q1_1, q1_2, q1_3, q1_4, q1_5, q1_6, q1_7⟩ := (H9.out).tl.b0.cells8; obtain ⟨q2_0, q2_1, q2_2, q2_3, q2_4, q2_5, q2_6, q2_7⟩ := (H9.out).tl.tl.b0.cells8)
              go_upto_region 5 with (fail)
              go_upto_region 6 with (fail)
              try simp only [if_neg hm]
              clear p0_0 p0_1 p0_2 p1_0 p1_1 p1_2 p1_3 p1_4 p1_5 p1_6 p1_7 p2_0 p2_1 p2_2 p2_3 p2_4 p2_5 p2_6 p2_7
              clear q0_0 q0_1 q0_2 q1_0 q1_1 q1_2 q1_3 q1_4 q1_5 q1_6 q1_7 q2_0 q2_1 q2_2 q2_3 q2_4 q2_5 q2_6 q2_7
              have HM := Lib.hid (H9.out.new #[.int .i64 2, .int .i64 0, .int .i64 0, .int .i64 0, .int .i64 0, .int .u32 a1_0, .int .i64 5, .string a1_2, .int .i64 a1_3, .int .i64 a1_7, .bool false] 27)
              generalize w9.alloc (.cells #[.int .i64 2, .int .i64 0, .int .i64 0, .int .i64 0, .int .i64 0, .int .u32 a1_0, .int .i64 5, .string a1_2, .int .i64 a1_3, .int .i64 a1_7, .bool false] 27) = wm at *
              generalize w9.heap.size = gm at *
              obtain ⟨p0_0, p0_1, p0_2, p0_3, p0_4, p0_5, p0_6, p0_7, p0_8, p0_9, p0_10⟩ := (HM.out).b0.cells11; obtain ⟨p1_0, p1_1, p1_2⟩ := (HM.out).tl.b0.cells3; obtain ⟨p2_0, p2_1, p2_2, p2_3, p2_4, p2_5, p2_6, p2_7⟩ := (HM.out).tl.tl.b0.cells8; obtain ⟨p3_0, p3_1, p3_2, p3_3, p3_4, p3_5, p3_6, p3_7⟩ := (HM.out).tl.tl.tl.b0.cells8
              go_upto_region 8 with (go_at_call 9; (with_reducible refine (take_any _ _ _ _ _ _ _ _ _ _ _ _ _ _ _ _ _ _ _ _ _ _ _).mono ?_); rintro e w2 ⟨he, hx⟩; rw [HT.out] at he; subst he; have H2 := Lib.hid (HM.out.keep hx); clear hx; simp only [Lz.val] at *)
              clear p0_0 p0_1 p0_2 p0_3 p0_4 p0_5 p0_6 p0_7 p0_8 p0_9 p0_10 p1_0 p1_1 p1_2 p2_0 p2_1 p2_2 p2_3 p2_4 p2_5 p2_6 p2_7 p3_0 p3_1 p3_2 p3_3 p3_4 p3_5 p3_6 p3_7
              have H3 := Lib.hid (H2.out.new #[.int .u32 a0_0, .int .i64 xb, .string xc, .int .i64 xu, .int .i64 xk, .int .i64 xt, .int .i64 xz, .int .i64 xv] 25)
              generalize w2.alloc (.cells #[.int .u32 a0_0, .int .i64 xb, .string xc, .int .i64 xu, .int .i64 xk, .int .i64 xt, .int .i64 xz, .int .i64 xv] 25) = w3 at *
              generalize w2.heap.size = g2 at *
              obtain ⟨p0_0, p0_1, p0_2, p0_3, p0_4, p0_5, p0_6, p0_7⟩ := (H3.out).b0.cells8; obtain ⟨p1_0, p1_1, p1_2, p1_3, p1_4, p1_5, p1_6, p1_7, p1_8, p1_9, p1_10⟩ := (H3.out).tl.b0.cells11; obtain ⟨p2_0, p2_1, p2_2⟩ := (H3.out).tl.tl.b0.cells3; obtain ⟨p3_0, p3_1, p3_2, p3_3, p3_4, p3_5, p3_6, p3_7⟩ := (H3.out).tl.tl.tl.b0.cells8; obtain ⟨p4_0, p4_1, p4_2, p4_3, p4_4, p4_5, p4_6, p4_7⟩ := (H3.out).tl.tl.tl.tl.b0.cells8
              go_wp2
              all_goals
                go_ret
                exact ⟨rfl, H3.out.2⟩
            · have hk := takeV_agree (la := a0_0) (oa := a1_0) (l := ⟨a0_1, a0_2, a0_3, a0_4, a0_5, a0_6, a0_7⟩) (st := a2_0) (now := a2_1) (gd := a2_2) hr h3 h4 (by rw [hmx, HT.out])
              rw [hmx, HT.out] at hk
              simp only at hk
              rcases hk with ⟨hk1, hk2, hk3⟩ | ⟨hk0, hk1, hk2, hk3, hk4⟩
              · omega
              · obtain rfl : a1_2 = xc := hk2.symm
                subst h01
                obtain rfl : xb = 5 := hk1
                clear hk0 hk3 hk4 h3 h4 hr hmx
                clear w0_0 w0_1 w0_2 w0_3 w0_4 w0_5 w0_6 w0_7 w1_0 w1_1 w1_2 w1_3 w1_4 w1_5 w1_6 w1_7 w2_0 w2_1 w2_2
                go_enter Try.func6, Try.ntmps6
                go_upto_region 2 with (go_at_call 8; (with_reducible refine (awake_any _).mono ?_); rintro e w1 ⟨rfl, hx⟩; have H1 := Lib.hid (H0.out.keep hx); clear hx; obtain ⟨p0_0, p0_1, p0_2⟩ := (H1.out).b0.cells3; obtain ⟨p1_0, p1_1, p1_2, p1_3, p1_4, p1_5, p1_6, p1_7⟩ := (H1.out).tl.b0.cells8; obtain ⟨p2_0, p2_1, p2_2, p2_3, p2_4, p2_5, p2_6, p2_7⟩ := (H1.out).tl.tl.b0.cells8)
                go_upto_region 3 with (go_at_call 12; (with_reducible refine (rright_any _ _ _ _ _ _ _ _ _).mono ?_); rintro e w9 ⟨he, hx⟩; rw [HRT.out] at he; subst he; have H9 := Lib.hid (H1.out.keep hx); clear hx; obtain ⟨q0_0, q0_1, q0_2⟩ := (H9.out).b0.cells3; obtain ⟨q1_0, q1_1, q1_2, q1_3, q1_4, q1_5, q1_6, q1_7⟩ := (H9.out).tl.b0.cells8; obtain ⟨q2_0, q2_1, q2_2, q2_3, q2_4, q2_5, q2_6, q2_7⟩ := (H9.out).tl.tl.b0.cells8)
                go_upto_region 5 with (fail)
                go_upto_region 6 with (fail)
                try simp only [if_neg hm]
                clear p0_0 p0_1 p0_2 p1_0 p1_1 p1_2 p1_3 p1_4 p1_5 p1_6 p1_7 p2_0 p2_1 p2_2 p2_3 p2_4 p2_5 p2_6 p2_7
                clear q0_0 q0_1 q0_2 q1_0 q1_1 q1_2 q1_3 q1_4 q1_5 q1_6 q1_7 q2_0 q2_1 q2_2 q2_3 q2_4 q2_5 q2_6 q2_7
                have HM := Lib.hid (H9.out.new #[.int .i64 2, .int .i64 0, .int .i64 0, .int .i64 0, .int .i64 0, .int .u32 a1_0, .int .i64 5, .string a1_2, .int .i64 a1_3, .int .i64 a1_7, .bool false] 27)
                generalize w9.alloc (.cells #[.int .i64 2, .int .i64 0, .int .i64 0, .int .i64 0, .int .i64 0, .int .u32 a1_0, .int .i64 5, .string a1_2, .int .i64 a1_3, .int .i64 a1_7, .bool false] 27) = wm at *
                generalize w9.heap.size = gm at *
                obtain ⟨p0_0, p0_1, p0_2, p0_3, p0_4, p0_5, p0_6, p0_7, p0_8, p0_9, p0_10⟩ := (HM.out).b0.cells11; obtain ⟨p1_0, p1_1, p1_2⟩ := (HM.out).tl.b0.cells3; obtain ⟨p2_0, p2_1, p2_2, p2_3, p2_4, p2_5, p2_6, p2_7⟩ := (HM.out).tl.tl.b0.cells8; obtain ⟨p3_0, p3_1, p3_2, p3_3, p3_4, p3_5, p3_6, p3_7⟩ := (HM.out).tl.tl.tl.b0.cells8
                go_upto_region 8 with (go_at_call 9; (with_reducible refine (take_any _ _ _ _ _ _ _ _ _ _ _ _ _ _ _ _ _ _ _ _ _ _ _).mono ?_); rintro e w2 ⟨he, hx⟩; rw [HT.out] at he; subst he; have H2 := Lib.hid (HM.out.keep hx); clear hx; simp only [Lz.val] at *)
                clear p0_0 p0_1 p0_2 p0_3 p0_4 p0_5 p0_6 p0_7 p0_8 p0_9 p0_10 p1_0 p1_1 p1_2 p2_0 p2_1 p2_2 p2_3 p2_4 p2_5 p2_6 p2_7 p3_0 p3_1 p3_2 p3_3 p3_4 p3_5 p3_6 p3_7
                have H3 := Lib.hid (H2.out.new #[.int .u32 a0_0, .int .i64 5, .string a1_2, .int .i64 xu, .int .i64 xk, .int .i64 xt, .int .i64 xz, .int .i64 xv] 25)
                generalize w2.alloc (.cells #[.int .u32 a0_0, .int .i64 5, .string a1_2, .int .i64 xu, .int .i64 xk, .int .i64 xt, .int .i64 xz, .int .i64 xv] 25) = w3 at *
                generalize w2.heap.size = g2 at *
                obtain ⟨p0_0, p0_1, p0_2, p0_3, p0_4, p0_5, p0_6, p0_7⟩ := (H3.out).b0.cells8; obtain ⟨p1_0, p1_1, p1_2, p1_3, p1_4, p1_5, p1_6, p1_7, p1_8, p1_9, p1_10⟩ := (H3.out).tl.b0.cells11; obtain ⟨p2_0, p2_1, p2_2⟩ := (H3.out).tl.tl.b0.cells3; obtain ⟨p3_0, p3_1, p3_2, p3_3, p3_4, p3_5, p3_6, p3_7⟩ := (H3.out).tl.tl.tl.b0.cells8; obtain ⟨p4_0, p4_1, p4_2, p4_3, p4_4, p4_5, p4_6, p4_7⟩ := (H3.out).tl.tl.tl.tl.b0.cells8
                go_wp2
                all_goals
                  go_ret
                  exact ⟨rfl, H3.out.2⟩
  · have HRT := Lib.hid (show decide (RightP a1_1 a1_2 a1_3 a1_4 a1_5 a1_6 a1_7) = false from decide_eq_false hr)
    clear hr
    clear w0_0 w0_1 w0_2 w0_3 w0_4 w0_5 w0_6 w0_7 w1_0 w1_1 w1_2 w1_3 w1_4 w1_5 w1_6 w1_7 w2_0 w2_1 w2_2
    go_enter Try.func6, Try.ntmps6
    go_upto_region 2 with (go_at_call 8; (with_reducible refine (awake_any _).mono ?_); rintro e w1 ⟨rfl, hx⟩; have H1 := Lib.hid (H0.out.keep hx); clear hx; obtain ⟨p0_0, p0_1, p0_2⟩ := (H1.out).b0.cells3; obtain ⟨p1_0, p1_1, p1_2, p1_3, p1_4, p1_5, p1_6, p1_7⟩ := (H1.out).tl.b0.cells8; obtain ⟨p2_0, p2_1, p2_2, p2_3, p2_4, p2_5, p2_6, p2_7⟩ := (H1.out).tl.tl.b0.cells8)
    go_upto_region 3 with (go_at_call 12; (with_reducible refine (rright_any _ _ _ _ _ _ _ _ _).mono ?_); rintro e w9 ⟨he, hx⟩; rw [HRT.out] at he; subst he; have H9 := Lib.hid (H1.out.keep hx); clear hx; obtain ⟨q0_0, q0_1, q0_2⟩ := (H9.out).b0.cells3; obtain ⟨q1_0, q1_1, q1_2, q1_3, q1_4, q1_5, q1_6, q1_7⟩ := (H9.out).tl.b0.cells8; obtain ⟨q2_0, q2_1, q2_2, q2_3, q2_4, q2_5, q2_6, q2_7⟩ := (H9.out).tl.tl.b0.cells8)
    go_wp2
    all_goals
      go_ret
      exact ⟨rfl, H9.out.2⟩

end Go.Proofs.Ytkpgchhbeebgkaa
