/- A lease's bytes are decoded as it; any bytes that are decoded are those of it. -/
import Derived.Test.YtihekjoeibljpaaLaw5
namespace Go.Proofs.Ytihekjoeibljpaa
open Go.ChangeShapes Go.WideShapes Go.ChangeAt Go.RowKit
set_option linter.unusedVariables false
set_option linter.unusedSimpArgs false

set_option maxRecDepth 100000 in
theorem walk_LeaseBack (a0_0 : Int) (a0_1 : Int) (a0_2 : ByteArray) (a0_3 : Int) (a0_4 : Int) (a0_5 : Int) (a0_6 : Int) (a0_7 : Int) (a1 : Option Addr) (n1 : Nat) (c1 : Nat) (x1 : List (List Value)) (W : World) (w0_0 : (Lit.int .u32 a0_0).wf = true) (w0_1 : (Lit.int .i64 a0_1).wf = true) (w0_2 : a0_2.size ≤ maxLen) (w0_3 : (Lit.int .i64 a0_3).wf = true) (w0_4 : (Lit.int .i64 a0_4).wf = true) (w0_5 : (Lit.int .i64 a0_5).wf = true) (w0_6 : (Lit.int .i64 a0_6).wf = true) (w0_7 : (Lit.int .i64 a0_7).wf = true) (r1 : SliceIn W [.int .u8] a1 n1 c1 x1) (z1 : n1 * 1 ≤ 140737488351232) :
    Calls Try.prog 6 #[.agg #[.int .u32 a0_0, .int .i64 a0_1, .string a0_2, .int .i64 a0_3, .int .i64 a0_4, .int .i64 a0_5, .int .i64 a0_6, .int .i64 a0_7], .slice a1 n1 c1] W fun e w' => e = .returned (.bool true) ∧ Below W.heap.size W w' := by
  clear z1
  obtain ⟨xs, hl, hx, hcc, hm, hr⟩ := slice_u8 r1
  clear r1
  subst hl
  by_cases hc : a0_2.size ≤ 1000
  · by_cases h1000 : xs.length ≤ 1000
    · by_cases hrt : RightP a0_1 a0_2 a0_3 a0_4 a0_5 a0_6 a0_7
      · skip
        by_cases h36 : 36 ≤ xs.length
        · obtain ⟨g, o, rfl, hrow⟩ := hr (by omega)
          by_cases hd : DecP xs ∧ xs.getD 35 0 = (xs.length : Int) - 36
          · exact back_r_yes a0_0 a0_1 a0_2 a0_3 a0_4 a0_5 a0_6 a0_7 _ c1 W w0_0 hc h1000 hrt xs hx g o rfl ⟨h36, h1000, hcc, hm⟩ hrow hd
          · exact back_r_no a0_0 a0_1 a0_2 a0_3 a0_4 a0_5 a0_6 a0_7 _ c1 W w0_0 hc h1000 hrt xs hx g o rfl ⟨h36, h1000, hcc, hm⟩ hrow hd
        · exact back_r_short a0_0 a0_1 a0_2 a0_3 a0_4 a0_5 a0_6 a0_7 a1 _ c1 W w0_0 hc h1000 hrt (by omega)
      · skip
        by_cases h36 : 36 ≤ xs.length
        · obtain ⟨g, o, rfl, hrow⟩ := hr (by omega)
          by_cases hd : DecP xs ∧ xs.getD 35 0 = (xs.length : Int) - 36
          · exact back_n_yes a0_0 a0_1 a0_2 a0_3 a0_4 a0_5 a0_6 a0_7 _ c1 W w0_0 hc h1000 hrt xs hx g o rfl ⟨h36, h1000, hcc, hm⟩ hrow hd
          · exact back_n_no a0_0 a0_1 a0_2 a0_3 a0_4 a0_5 a0_6 a0_7 _ c1 W w0_0 hc h1000 hrt xs hx g o rfl ⟨h36, h1000, hcc, hm⟩ hrow hd
        · exact back_n_short a0_0 a0_1 a0_2 a0_3 a0_4 a0_5 a0_6 a0_7 a1 _ c1 W w0_0 hc h1000 hrt (by omega)
    · have h1001 : (1000 : Int) < xs.length := by omega
      have hc' : (a0_2.size : Int) ≤ 1000 := by omega
      clear hx hr hcc hm h1000
      generalize xs.length = n at *
      have H0 := Lib.hid ((HeldB.nil (low0 W (.cells #[.int .u32 a0_0, .int .i64 a0_1, .string a0_2, .int .i64 a0_3, .int .i64 a0_4, .int .i64 a0_5, .int .i64 a0_6, .int .i64 a0_7] 25))).cons (Blk.new W #[.int .u32 a0_0, .int .i64 a0_1, .string a0_2, .int .i64 a0_3, .int .i64 a0_4, .int .i64 a0_5, .int .i64 a0_6, .int .i64 a0_7] 25))
      go_enter Try.func6, Try.ntmps6
      go_wp2_with (go_at_call 7; (with_reducible refine (awake_any _).mono ?_); rintro e w1 ⟨rfl, hx⟩; have H1 := Lib.hid (H0.out.keep hx); clear hx; obtain ⟨p0_0, p0_1, p0_2, p0_3, p0_4, p0_5, p0_6, p0_7⟩ := (H1.out).b0.cells8)
      go_ret
      exact ⟨rfl, H1.out.2⟩
  · have hc' : (1000 : Int) < a0_2.size := by omega
    clear hx hr hcc hm hc
    generalize xs.length = n at *
    have H0 := Lib.hid ((HeldB.nil (low0 W (.cells #[.int .u32 a0_0, .int .i64 a0_1, .string a0_2, .int .i64 a0_3, .int .i64 a0_4, .int .i64 a0_5, .int .i64 a0_6, .int .i64 a0_7] 25))).cons (Blk.new W #[.int .u32 a0_0, .int .i64 a0_1, .string a0_2, .int .i64 a0_3, .int .i64 a0_4, .int .i64 a0_5, .int .i64 a0_6, .int .i64 a0_7] 25))
    go_enter Try.func6, Try.ntmps6
    go_wp2_with (go_at_call 7; (with_reducible refine (awake_any _).mono ?_); rintro e w1 ⟨rfl, hx⟩; have H1 := Lib.hid (H0.out.keep hx); clear hx; obtain ⟨p0_0, p0_1, p0_2, p0_3, p0_4, p0_5, p0_6, p0_7⟩ := (H1.out).b0.cells8)
    go_ret
    exact ⟨rfl, H1.out.2⟩

end Go.Proofs.Ytihekjoeibljpaa
