/- The law ResolveShares, walked. -/
import Derived.Test.YtkpgchhbeebgkaaTky
namespace Go.Proofs.Ytkpgchhbeebgkaa
open Go.ChangeShapes Go.WideShapes Go.ChangeAt Go.RowKit
set_option linter.unusedVariables false
set_option linter.unusedSimpArgs false

theorem and1 (x : Int) : bits BinOp.and IntKind.i64 x 1 = 0 ∨ bits BinOp.and IntKind.i64 x 1 = 1 := by
  have h : ((BitVec.ofInt 64 x) &&& (BitVec.ofInt 64 1)).toNat = (BitVec.ofInt 64 x).toNat % 2 := by
    rw [BitVec.toNat_and]
    exact Nat.and_one_is_mod _
  show IntKind.i64.wrap (((BitVec.ofInt 64 x) &&& (BitVec.ofInt 64 1)).toNat : Int) = 0 ∨ IntKind.i64.wrap (((BitVec.ofInt 64 x) &&& (BitVec.ofInt 64 1)).toNat : Int) = 1
  rw [h, IntKind.wrap_i64]
  omega
set_option maxRecDepth 100000 in
set_option maxHeartbeats 8000000 in
theorem walk_ResolveShares (a0 : Int) (a1_0 : Int) (a1_1 : Int) (a2_0 : Int) (a2_1 : Int) (W : World) (w0 : (Lit.int .u32 a0).wf = true) (w1_0 : (Lit.int .i64 a1_0).wf = true) (w1_1 : (Lit.int .i64 a1_1).wf = true) (w2_0 : (Lit.int .i64 a2_0).wf = true) (w2_1 : (Lit.int .i64 a2_1).wf = true) :
    Calls Try.prog 7 #[.int .u32 a0, .agg #[.int .i64 a1_0, .int .i64 a1_1], .agg #[.int .i64 a2_0, .int .i64 a2_1]] W fun e w' => e = .returned (.bool true) ∧ Below W.heap.size W w' := by
  have H0 := Lib.hid (((HeldB.nil (lowA (low0 W (.cells #[.int .i64 a1_0, .int .i64 a1_1] 37)) (.cells #[.int .i64 a2_0, .int .i64 a2_1] 37))).cons (Blk.new2' W #[.int .i64 a1_0, .int .i64 a1_1] 37 (.cells #[.int .i64 a2_0, .int .i64 a2_1] 37))).cons (Blk.new2 W (.cells #[.int .i64 a1_0, .int .i64 a1_1] 37) #[.int .i64 a2_0, .int .i64 a2_1] 37))
  clear w0 w1_0 w1_1 w2_0 w2_1
  by_cases h1 : 0 ≤ a1_1
  · have k1 : decide (a1_1 < 0) = false := decide_eq_false (by omega)
    by_cases h2 : a1_1 ≤ 1073741824
    · have k2 : decide (1073741824 < a1_1) = false := decide_eq_false (by omega)
      by_cases h3 : 0 ≤ a2_1
      · have k3 : decide (a2_1 < 0) = false := decide_eq_false (by omega)
        by_cases h4 : a2_1 ≤ 1073741824
        · have k4 : decide (1073741824 < a2_1) = false := decide_eq_false (by omega)
          by_cases h5 : a1_1 = a2_1
          · have k5 : (a1_1 == a2_1) = true := beq_iff_eq.2 h5
            clear h1 h2 h3 h4 h5
            go_enter Try.func7, Try.ntmps7
            go_wp2_with (go_at_call 8; (with_reducible refine (awake_any _).mono ?_); rintro e w1 ⟨rfl, hx⟩; have H1 := Lib.hid (H0.out.keep hx); clear hx; obtain ⟨p0_0, p0_1⟩ := (H1.out).b0.cells2; obtain ⟨p1_0, p1_1⟩ := (H1.out).tl.b0.cells2)
            all_goals
              go_ret
              exact ⟨rfl, H1.out.2⟩
          · have k5 : (a1_1 == a2_1) = false := beq_eq_false_iff_ne.2 h5
            go_enter Try.func7, Try.ntmps7
            go_upto_region 2 with (go_at_call 8; (with_reducible refine (awake_any _).mono ?_); rintro e w1 ⟨rfl, hx⟩; have H1 := Lib.hid (H0.out.keep hx); clear hx; obtain ⟨p0_0, p0_1⟩ := (H1.out).b0.cells2; obtain ⟨p1_0, p1_1⟩ := (H1.out).tl.b0.cells2)
            go_upto_region 4 with (fail)
            go_upto_region 5 with (fail)
            clear p0_0 p0_1 p1_0 p1_1
            have hb := and1 a1_0
            generalize bits BinOp.and IntKind.i64 a1_0 1 = lb at *
            have HL := Lib.hid (H1.out.new #[.int .u32 a0, .int .i64 lb, .string { data := #[] }, .int .i64 0, .int .i64 0, .int .i64 0, .int .i64 0, .int .i64 a1_1] 25)
            generalize w1.alloc (.cells #[.int .u32 a0, .int .i64 lb, .string { data := #[] }, .int .i64 0, .int .i64 0, .int .i64 0, .int .i64 0, .int .i64 a1_1] 25) = wl at *
            generalize w1.heap.size = gl at *
            obtain ⟨p0_0, p0_1, p0_2, p0_3, p0_4, p0_5, p0_6, p0_7⟩ := (HL.out).b0.cells8; obtain ⟨p1_0, p1_1⟩ := (HL.out).tl.b0.cells2; obtain ⟨p2_0, p2_1⟩ := (HL.out).tl.tl.b0.cells2
            go_upto_region 6 with (fail)
            clear p0_0 p0_1 p0_2 p0_3 p0_4 p0_5 p0_6 p0_7 p1_0 p1_1 p2_0 p2_1
            have ho := and1 a2_0
            generalize bits BinOp.and IntKind.i64 a2_0 1 = ob at *
            have HO := Lib.hid (HL.out.new #[.int .u32 a0, .int .i64 ob, .string { data := #[] }, .int .i64 0, .int .i64 0, .int .i64 0, .int .i64 0, .int .i64 a2_1] 25)
            generalize wl.alloc (.cells #[.int .u32 a0, .int .i64 ob, .string { data := #[] }, .int .i64 0, .int .i64 0, .int .i64 0, .int .i64 0, .int .i64 a2_1] 25) = wo at *
            generalize wl.heap.size = go at *
            obtain ⟨p0_0, p0_1, p0_2, p0_3, p0_4, p0_5, p0_6, p0_7⟩ := (HO.out).b0.cells8; obtain ⟨p1_0, p1_1, p1_2, p1_3, p1_4, p1_5, p1_6, p1_7⟩ := (HO.out).tl.b0.cells8; obtain ⟨p2_0, p2_1⟩ := (HO.out).tl.tl.b0.cells2; obtain ⟨p3_0, p3_1⟩ := (HO.out).tl.tl.tl.b0.cells2
            by_cases hlt : a2_1 < a1_1
            · have HT1 := Lib.hid (show takeV a0 ⟨ob, { data := #[] }, 0, 0, 0, 0, a2_1⟩ 2 a0 lb { data := #[] } 0 a1_1 1 5 2 = (⟨lb, { data := #[] }, 0, 0, 0, 0, a1_1⟩, true) from by have h := takeV_shares (a := a0) ho hb ⟨h3, h4⟩ ⟨h1, h2⟩ h5; rw [if_pos (by omega)] at h; exact h)
              have HT2 := Lib.hid (show takeV a0 ⟨lb, { data := #[] }, 0, 0, 0, 0, a1_1⟩ 2 a0 ob { data := #[] } 0 a2_1 1 5 2 = (⟨lb, { data := #[] }, 0, 0, 0, 0, a1_1⟩, true) from by have h := takeV_shares (a := a0) hb ho ⟨h1, h2⟩ ⟨h3, h4⟩ (Ne.symm h5); rw [if_neg (by omega)] at h; exact h)
              have kl : decide (a1_1 < a2_1) = false := decide_eq_false (by omega)
              clear h1 h2 h3 h4 h5 hlt hb ho
              go_upto_region 7 with (go_at_call 9; (with_reducible refine (take_any _ _ _ _ _ _ _ _ _ _ _ _ _ _ _ _ _ _ _ _ _ _ _).mono ?_); rintro e w2 ⟨he, hx⟩; rw [HT1.out] at he; subst he; have H2 := Lib.hid (HO.out.keep hx); clear hx; simp only [Lz.val] at *)
              clear p0_0 p0_1 p0_2 p0_3 p0_4 p0_5 p0_6 p0_7 p1_0 p1_1 p1_2 p1_3 p1_4 p1_5 p1_6 p1_7 p2_0 p2_1 p3_0 p3_1
              have H3 := Lib.hid (H2.out.new #[.int .u32 a0, .int .i64 lb, .string { data := #[] }, .int .i64 0, .int .i64 0, .int .i64 0, .int .i64 0, .int .i64 a1_1] 25)
              generalize w2.alloc (.cells #[.int .u32 a0, .int .i64 lb, .string { data := #[] }, .int .i64 0, .int .i64 0, .int .i64 0, .int .i64 0, .int .i64 a1_1] 25) = w3 at *
              generalize w2.heap.size = g6 at *
              obtain ⟨p0_0, p0_1, p0_2, p0_3, p0_4, p0_5, p0_6, p0_7⟩ := (H3.out).b0.cells8; obtain ⟨p1_0, p1_1, p1_2, p1_3, p1_4, p1_5, p1_6, p1_7⟩ := (H3.out).tl.b0.cells8; obtain ⟨p2_0, p2_1, p2_2, p2_3, p2_4, p2_5, p2_6, p2_7⟩ := (H3.out).tl.tl.b0.cells8; obtain ⟨p3_0, p3_1⟩ := (H3.out).tl.tl.tl.b0.cells2; obtain ⟨p4_0, p4_1⟩ := (H3.out).tl.tl.tl.tl.b0.cells2
              go_upto_region 8 with (go_at_call 9; (with_reducible refine (take_any _ _ _ _ _ _ _ _ _ _ _ _ _ _ _ _ _ _ _ _ _ _ _).mono ?_); rintro e w4 ⟨he, hx⟩; rw [HT2.out] at he; subst he; have H4 := Lib.hid (H3.out.keep hx); clear hx; simp only [Lz.val] at *)
              clear p0_0 p0_1 p0_2 p0_3 p0_4 p0_5 p0_6 p0_7 p1_0 p1_1 p1_2 p1_3 p1_4 p1_5 p1_6 p1_7 p2_0 p2_1 p2_2 p2_3 p2_4 p2_5 p2_6 p2_7 p3_0 p3_1 p4_0 p4_1
              have H5 := Lib.hid (H4.out.new #[.int .u32 a0, .int .i64 lb, .string { data := #[] }, .int .i64 0, .int .i64 0, .int .i64 0, .int .i64 0, .int .i64 a1_1] 25)
              generalize w4.alloc (.cells #[.int .u32 a0, .int .i64 lb, .string { data := #[] }, .int .i64 0, .int .i64 0, .int .i64 0, .int .i64 0, .int .i64 a1_1] 25) = w5 at *
              generalize w4.heap.size = g7 at *
              obtain ⟨p0_0, p0_1, p0_2, p0_3, p0_4, p0_5, p0_6, p0_7⟩ := (H5.out).b0.cells8; obtain ⟨p1_0, p1_1, p1_2, p1_3, p1_4, p1_5, p1_6, p1_7⟩ := (H5.out).tl.b0.cells8; obtain ⟨p2_0, p2_1, p2_2, p2_3, p2_4, p2_5, p2_6, p2_7⟩ := (H5.out).tl.tl.b0.cells8; obtain ⟨p3_0, p3_1, p3_2, p3_3, p3_4, p3_5, p3_6, p3_7⟩ := (H5.out).tl.tl.tl.b0.cells8; obtain ⟨p4_0, p4_1⟩ := (H5.out).tl.tl.tl.tl.b0.cells2; obtain ⟨p5_0, p5_1⟩ := (H5.out).tl.tl.tl.tl.tl.b0.cells2
              go_upto_region 9 with (fail)
              clear p0_0 p0_1 p0_2 p0_3 p0_4 p0_5 p0_6 p0_7 p1_0 p1_1 p1_2 p1_3 p1_4 p1_5 p1_6 p1_7 p2_0 p2_1 p2_2 p2_3 p2_4 p2_5 p2_6 p2_7 p3_0 p3_1 p3_2 p3_3 p3_4 p3_5 p3_6 p3_7 p4_0 p4_1 p5_0 p5_1
              have H6 := Lib.hid (H5.out.new #[.int .u32 a0, .int .i64 lb, .string { data := #[] }, .int .i64 0, .int .i64 0, .int .i64 0, .int .i64 0, .int .i64 a1_1] 25)
              have hg := Lib.hid (show W.heap.size ≤ w5.heap.size from H5.out.low)
              generalize w5.alloc (.cells #[.int .u32 a0, .int .i64 lb, .string { data := #[] }, .int .i64 0, .int .i64 0, .int .i64 0, .int .i64 0, .int .i64 a1_1] 25) = w6 at *
              generalize w5.heap.size = g8 at *
              obtain ⟨p0_0, p0_1, p0_2, p0_3, p0_4, p0_5, p0_6, p0_7⟩ := (H6.out).b0.cells8; have pf0 := (H6.out).b0.free; obtain ⟨p1_0, p1_1, p1_2, p1_3, p1_4, p1_5, p1_6, p1_7⟩ := (H6.out).tl.b0.cells8; have pf1 := (H6.out).tl.b0.free; obtain ⟨p2_0, p2_1, p2_2, p2_3, p2_4, p2_5, p2_6, p2_7⟩ := (H6.out).tl.tl.b0.cells8; have pf2 := (H6.out).tl.tl.b0.free; obtain ⟨p3_0, p3_1, p3_2, p3_3, p3_4, p3_5, p3_6, p3_7⟩ := (H6.out).tl.tl.tl.b0.cells8; have pf3 := (H6.out).tl.tl.tl.b0.free; obtain ⟨p4_0, p4_1, p4_2, p4_3, p4_4, p4_5, p4_6, p4_7⟩ := (H6.out).tl.tl.tl.tl.b0.cells8; have pf4 := (H6.out).tl.tl.tl.tl.b0.free; obtain ⟨p5_0, p5_1⟩ := (H6.out).tl.tl.tl.tl.tl.b0.cells2; have pf5 := (H6.out).tl.tl.tl.tl.tl.b0.free; obtain ⟨p6_0, p6_1⟩ := (H6.out).tl.tl.tl.tl.tl.tl.b0.cells2; have pf6 := (H6.out).tl.tl.tl.tl.tl.tl.b0.free
              go_wp2
              go_ret
              exact ⟨rfl, H6.out.2⟩
            · have HT1 := Lib.hid (show takeV a0 ⟨ob, { data := #[] }, 0, 0, 0, 0, a2_1⟩ 2 a0 lb { data := #[] } 0 a1_1 1 5 2 = (⟨ob, { data := #[] }, 0, 0, 0, 0, a2_1⟩, true) from by have h := takeV_shares (a := a0) ho hb ⟨h3, h4⟩ ⟨h1, h2⟩ h5; rw [if_neg (by omega)] at h; exact h)
              have HT2 := Lib.hid (show takeV a0 ⟨lb, { data := #[] }, 0, 0, 0, 0, a1_1⟩ 2 a0 ob { data := #[] } 0 a2_1 1 5 2 = (⟨ob, { data := #[] }, 0, 0, 0, 0, a2_1⟩, true) from by have h := takeV_shares (a := a0) hb ho ⟨h1, h2⟩ ⟨h3, h4⟩ (Ne.symm h5); rw [if_pos (by omega)] at h; exact h)
              have kl : decide (a1_1 < a2_1) = true := decide_eq_true (by omega)
              clear h1 h2 h3 h4 h5 hlt hb ho
              go_upto_region 7 with (go_at_call 9; (with_reducible refine (take_any _ _ _ _ _ _ _ _ _ _ _ _ _ _ _ _ _ _ _ _ _ _ _).mono ?_); rintro e w2 ⟨he, hx⟩; rw [HT1.out] at he; subst he; have H2 := Lib.hid (HO.out.keep hx); clear hx; simp only [Lz.val] at *)
              clear p0_0 p0_1 p0_2 p0_3 p0_4 p0_5 p0_6 p0_7 p1_0 p1_1 p1_2 p1_3 p1_4 p1_5 p1_6 p1_7 p2_0 p2_1 p3_0 p3_1
              have H3 := Lib.hid (H2.out.new #[.int .u32 a0, .int .i64 ob, .string { data := #[] }, .int .i64 0, .int .i64 0, .int .i64 0, .int .i64 0, .int .i64 a2_1] 25)
              generalize w2.alloc (.cells #[.int .u32 a0, .int .i64 ob, .string { data := #[] }, .int .i64 0, .int .i64 0, .int .i64 0, .int .i64 0, .int .i64 a2_1] 25) = w3 at *
              generalize w2.heap.size = g6 at *
              obtain ⟨p0_0, p0_1, p0_2, p0_3, p0_4, p0_5, p0_6, p0_7⟩ := (H3.out).b0.cells8; obtain ⟨p1_0, p1_1, p1_2, p1_3, p1_4, p1_5, p1_6, p1_7⟩ := (H3.out).tl.b0.cells8; obtain ⟨p2_0, p2_1, p2_2, p2_3, p2_4, p2_5, p2_6, p2_7⟩ := (H3.out).tl.tl.b0.cells8; obtain ⟨p3_0, p3_1⟩ := (H3.out).tl.tl.tl.b0.cells2; obtain ⟨p4_0, p4_1⟩ := (H3.out).tl.tl.tl.tl.b0.cells2
              go_upto_region 8 with (go_at_call 9; (with_reducible refine (take_any _ _ _ _ _ _ _ _ _ _ _ _ _ _ _ _ _ _ _ _ _ _ _).mono ?_); rintro e w4 ⟨he, hx⟩; rw [HT2.out] at he; subst he; have H4 := Lib.hid (H3.out.keep hx); clear hx; simp only [Lz.val] at *)
              clear p0_0 p0_1 p0_2 p0_3 p0_4 p0_5 p0_6 p0_7 p1_0 p1_1 p1_2 p1_3 p1_4 p1_5 p1_6 p1_7 p2_0 p2_1 p2_2 p2_3 p2_4 p2_5 p2_6 p2_7 p3_0 p3_1 p4_0 p4_1
              have H5 := Lib.hid (H4.out.new #[.int .u32 a0, .int .i64 ob, .string { data := #[] }, .int .i64 0, .int .i64 0, .int .i64 0, .int .i64 0, .int .i64 a2_1] 25)
              generalize w4.alloc (.cells #[.int .u32 a0, .int .i64 ob, .string { data := #[] }, .int .i64 0, .int .i64 0, .int .i64 0, .int .i64 0, .int .i64 a2_1] 25) = w5 at *
              generalize w4.heap.size = g7 at *
              obtain ⟨p0_0, p0_1, p0_2, p0_3, p0_4, p0_5, p0_6, p0_7⟩ := (H5.out).b0.cells8; obtain ⟨p1_0, p1_1, p1_2, p1_3, p1_4, p1_5, p1_6, p1_7⟩ := (H5.out).tl.b0.cells8; obtain ⟨p2_0, p2_1, p2_2, p2_3, p2_4, p2_5, p2_6, p2_7⟩ := (H5.out).tl.tl.b0.cells8; obtain ⟨p3_0, p3_1, p3_2, p3_3, p3_4, p3_5, p3_6, p3_7⟩ := (H5.out).tl.tl.tl.b0.cells8; obtain ⟨p4_0, p4_1⟩ := (H5.out).tl.tl.tl.tl.b0.cells2; obtain ⟨p5_0, p5_1⟩ := (H5.out).tl.tl.tl.tl.tl.b0.cells2
              go_upto_region 9 with (fail)
              clear p0_0 p0_1 p0_2 p0_3 p0_4 p0_5 p0_6 p0_7 p1_0 p1_1 p1_2 p1_3 p1_4 p1_5 p1_6 p1_7 p2_0 p2_1 p2_2 p2_3 p2_4 p2_5 p2_6 p2_7 p3_0 p3_1 p3_2 p3_3 p3_4 p3_5 p3_6 p3_7 p4_0 p4_1 p5_0 p5_1
              have H6 := Lib.hid (H5.out.new #[.int .u32 a0, .int .i64 lb, .string { data := #[] }, .int .i64 0, .int .i64 0, .int .i64 0, .int .i64 0, .int .i64 a1_1] 25)
              have n0 : g7 < w5.heap.size := H5.out.b0.lt
              have n1 : g6 < w5.heap.size := H5.out.tl.b0.lt
              have n2 : go < w5.heap.size := H5.out.tl.tl.b0.lt
              have n3 : gl < w5.heap.size := H5.out.tl.tl.tl.b0.lt
              have n4 : W.heap.size + 1 < w5.heap.size := H5.out.tl.tl.tl.tl.b0.lt
              have NN := Lib.hid (And.intro n0 (And.intro n1 (And.intro n2 (And.intro n3 n4))))
              clear n0 n1 n2 n3 n4
              generalize w5.alloc (.cells #[.int .u32 a0, .int .i64 lb, .string { data := #[] }, .int .i64 0, .int .i64 0, .int .i64 0, .int .i64 0, .int .i64 a1_1] 25) = w6 at *
              generalize w5.heap.size = g8 at *
              obtain ⟨p0_0, p0_1, p0_2, p0_3, p0_4, p0_5, p0_6, p0_7⟩ := (H6.out).b0.cells8; have pf0 := (H6.out).b0.free; obtain ⟨p1_0, p1_1, p1_2, p1_3, p1_4, p1_5, p1_6, p1_7⟩ := (H6.out).tl.b0.cells8; have pf1 := (H6.out).tl.b0.free; obtain ⟨p2_0, p2_1, p2_2, p2_3, p2_4, p2_5, p2_6, p2_7⟩ := (H6.out).tl.tl.b0.cells8; have pf2 := (H6.out).tl.tl.b0.free; obtain ⟨p3_0, p3_1, p3_2, p3_3, p3_4, p3_5, p3_6, p3_7⟩ := (H6.out).tl.tl.tl.b0.cells8; have pf3 := (H6.out).tl.tl.tl.b0.free; obtain ⟨p4_0, p4_1, p4_2, p4_3, p4_4, p4_5, p4_6, p4_7⟩ := (H6.out).tl.tl.tl.tl.b0.cells8; have pf4 := (H6.out).tl.tl.tl.tl.b0.free; obtain ⟨p5_0, p5_1⟩ := (H6.out).tl.tl.tl.tl.tl.b0.cells2; have pf5 := (H6.out).tl.tl.tl.tl.tl.b0.free; obtain ⟨p6_0, p6_1⟩ := (H6.out).tl.tl.tl.tl.tl.tl.b0.cells2; have pf6 := (H6.out).tl.tl.tl.tl.tl.tl.b0.free
              go_upto_region 11 with (fail)
              clear p0_0 p0_1 p0_2 p0_3 p0_4 p0_5 p0_6 p0_7 p1_0 p1_1 p1_2 p1_3 p1_4 p1_5 p1_6 p1_7 p2_0 p2_1 p2_2 p2_3 p2_4 p2_5 p2_6 p2_7 p3_0 p3_1 p3_2 p3_3 p3_4 p3_5 p3_6 p3_7 p4_0 p4_1 p4_2 p4_3 p4_4 p4_5 p4_6 p4_7 p5_0 p5_1 p6_0 p6_1 pf0 pf1 pf2 pf3 pf4 pf5
              obtain ⟨n0, n1, n2, n3, n4⟩ := NN.out
              have H7 := Lib.hid (H6.out.set8 (by omega) (by intro p hp; simp at hp; rcases hp with rfl | rfl | rfl | rfl | rfl | rfl <;> simp <;> omega) (.int .u32 a0) (.int .i64 ob) (.string { data := #[] }) (.int .i64 0) (.int .i64 0) (.int .i64 0) (.int .i64 0) (.int .i64 a2_1))
              clear n0 n1 n2 n3 n4 H6
              generalize ((((((((w6.setCell ⟨g8, 0, none⟩ (.int .u32 a0)).setCell ⟨g8, 1, none⟩ (.int .i64 ob)).setCell ⟨g8, 2, none⟩ (.string { data := #[] })).setCell ⟨g8, 3, none⟩ (.int .i64 0)).setCell ⟨g8, 4, none⟩ (.int .i64 0)).setCell ⟨g8, 5, none⟩ (.int .i64 0)).setCell ⟨g8, 6, none⟩ (.int .i64 0)).setCell ⟨g8, 7, none⟩ (.int .i64 a2_1)) = w7 at *
              obtain ⟨p0_0, p0_1, p0_2, p0_3, p0_4, p0_5, p0_6, p0_7⟩ := (H7.out).b0.cells8; obtain ⟨p1_0, p1_1, p1_2, p1_3, p1_4, p1_5, p1_6, p1_7⟩ := (H7.out).tl.b0.cells8; obtain ⟨p2_0, p2_1, p2_2, p2_3, p2_4, p2_5, p2_6, p2_7⟩ := (H7.out).tl.tl.b0.cells8; obtain ⟨p3_0, p3_1, p3_2, p3_3, p3_4, p3_5, p3_6, p3_7⟩ := (H7.out).tl.tl.tl.b0.cells8; obtain ⟨p4_0, p4_1, p4_2, p4_3, p4_4, p4_5, p4_6, p4_7⟩ := (H7.out).tl.tl.tl.tl.b0.cells8; obtain ⟨p5_0, p5_1⟩ := (H7.out).tl.tl.tl.tl.tl.b0.cells2; obtain ⟨p6_0, p6_1⟩ := (H7.out).tl.tl.tl.tl.tl.tl.b0.cells2
              go_wp2
              go_ret
              exact ⟨rfl, H7.out.2⟩
        · have k4 : decide (1073741824 < a2_1) = true := decide_eq_true (by omega)
          clear h1 h2 h3 h4
          go_enter Try.func7, Try.ntmps7
          go_wp2_with (go_at_call 8; (with_reducible refine (awake_any _).mono ?_); rintro e w1 ⟨rfl, hx⟩; have H1 := Lib.hid (H0.out.keep hx); clear hx; obtain ⟨p0_0, p0_1⟩ := (H1.out).b0.cells2; obtain ⟨p1_0, p1_1⟩ := (H1.out).tl.b0.cells2)
          all_goals
            go_ret
            exact ⟨rfl, H1.out.2⟩
      · have k3 : decide (a2_1 < 0) = true := decide_eq_true (by omega)
        clear h1 h2 h3
        go_enter Try.func7, Try.ntmps7
        go_wp2_with (go_at_call 8; (with_reducible refine (awake_any _).mono ?_); rintro e w1 ⟨rfl, hx⟩; have H1 := Lib.hid (H0.out.keep hx); clear hx; obtain ⟨p0_0, p0_1⟩ := (H1.out).b0.cells2; obtain ⟨p1_0, p1_1⟩ := (H1.out).tl.b0.cells2)
        all_goals
          go_ret
          exact ⟨rfl, H1.out.2⟩
    · have k2 : decide (1073741824 < a1_1) = true := decide_eq_true (by omega)
      clear h1 h2
      go_enter Try.func7, Try.ntmps7
      go_wp2_with (go_at_call 8; (with_reducible refine (awake_any _).mono ?_); rintro e w1 ⟨rfl, hx⟩; have H1 := Lib.hid (H0.out.keep hx); clear hx; obtain ⟨p0_0, p0_1⟩ := (H1.out).b0.cells2; obtain ⟨p1_0, p1_1⟩ := (H1.out).tl.b0.cells2)
      all_goals
        go_ret
        exact ⟨rfl, H1.out.2⟩
  · have k1 : decide (a1_1 < 0) = true := decide_eq_true (by omega)
    clear h1
    go_enter Try.func7, Try.ntmps7
    go_wp2_with (go_at_call 8; (with_reducible refine (awake_any _).mono ?_); rintro e w1 ⟨rfl, hx⟩; have H1 := Lib.hid (H0.out.keep hx); clear hx; obtain ⟨p0_0, p0_1⟩ := (H1.out).b0.cells2; obtain ⟨p1_0, p1_1⟩ := (H1.out).tl.b0.cells2)
    all_goals
      go_ret
      exact ⟨rfl, H1.out.2⟩

end Go.Proofs.Ytkpgchhbeebgkaa
