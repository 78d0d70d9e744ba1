/- A lease's bytes are decoded as it; any bytes that are decoded are those of it: the cases. -/
import Derived.Test.YtihekjoeibljpaaPlb
namespace Go.Proofs.Ytihekjoeibljpaa
open Go.ChangeShapes Go.WideShapes Go.ChangeAt Go.RowKit
set_option linter.unusedVariables false
set_option linter.unusedSimpArgs false

theorem dec_alln (xs : List Int) (hx : ∀ z ∈ xs, 0 ≤ z ∧ z ≤ 255) (g o c : Nat) (w : World) (n : Nat) (hl : xs.length = n) (hn : 36 ≤ xs.length) (hn2 : xs.length ≤ 1000) (hc : xs.length ≤ c) (hc2 : c ≤ maxLen) (h : RowAt w g o (xs.map (Value.int .u8))) : Calls Try.prog 16 #[.slice (some ⟨g, o, none⟩) n c] w (RDecPost xs w) := by
  subst hl
  exact dec_all xs hx g o c w hn hn2 hc hc2 h

set_option maxRecDepth 100000 in
set_option maxHeartbeats 2000000 in
theorem back_r_short (a0_0 a0_1 : Int) (a0_2 : ByteArray) (a0_3 a0_4 a0_5 a0_6 a0_7 : Int) (a1 : Option Addr) (n1 c1 : Nat) (W : World) (w0_0 : (Lit.int .u32 a0_0).wf = true) (hc1000 : a0_2.size ≤ 1000) (hn1000 : n1 ≤ 1000) (hrt : RightP a0_1 a0_2 a0_3 a0_4 a0_5 a0_6 a0_7) (h36 : n1 < 36) :
    Calls Try.prog 6 #[.agg #[.int .u32 a0_0, .int .i64 a0_1, .string a0_2, .int .i64 a0_3, .int .i64 a0_4, .int .i64 a0_5, .int .i64 a0_6, .int .i64 a0_7], .slice a1 n1 c1] W fun e w' => e = .returned (.bool true) ∧ Below W.heap.size W w' := by
  have H0 := Lib.hid ((HeldB.nil (low0 W (.cells #[.int .u32 a0_0, .int .i64 a0_1, .string a0_2, .int .i64 a0_3, .int .i64 a0_4, .int .i64 a0_5, .int .i64 a0_6, .int .i64 a0_7] 25))).cons (Blk.new W #[.int .u32 a0_0, .int .i64 a0_1, .string a0_2, .int .i64 a0_3, .int .i64 a0_4, .int .i64 a0_5, .int .i64 a0_6, .int .i64 a0_7] 25))
  have hwa := bounds_u32 w0_0
  obtain ⟨E, hE⟩ : ∃ E, E = encL a0_0 a0_1 a0_2 a0_3 a0_4 a0_5 a0_6 a0_7 := ⟨_, rfl⟩
  have hdv := dec_enc a0_0 a0_1 a0_2 a0_3 a0_4 a0_5 a0_6 a0_7 hwa hrt
  have heu := encL_u8 a0_0 a0_1 a0_2 a0_3 a0_4 a0_5 a0_6 a0_7
  have hel := encL_length a0_0 a0_1 a0_2 a0_3 a0_4 a0_5 a0_6 a0_7
  rw [← hE] at hdv heu hel
  have HDV := Lib.hid hdv
  have HEu := Lib.hid heu
  have HEl := Lib.hid hel
  have HE := Lib.hid hE
  clear hdv heu hel hE
  have HRT := Lib.hid hrt
  clear hrt hwa
  go_enter Try.func6, Try.ntmps6
  go_wp2_with (first | (go_at_call 7; (with_reducible refine (awake_any _).mono ?_); rintro e w1 ⟨rfl, hx⟩; have H1 := Lib.hid (H0.out.keep hx); clear hx; obtain ⟨p0_0, p0_1, p0_2, p0_3, p0_4, p0_5, p0_6, p0_7⟩ := (H1.out).b0.cells8) | (go_at_call 8; ((with_reducible refine (enc_any a0_0 a0_1 a0_2 a0_3 a0_4 a0_5 a0_6 a0_7 w0_0 _ HRT.out).mono ?_)); rintro e w2 ⟨v, rfl, hown, hx⟩; have H2 := Lib.hid (H1.out.keep hx); obtain ⟨g1, c2, rfl, _, hn1, hm1, hrow⟩ := own_row hown (by omega); have R1 := Lib.hid (show RowAt w2 g1 0 (E.map (Value.int .u8)) from (by rw [HE.out]; exact hrow.row)); have HS1 := Lib.hid (show 36 ≤ E.length ∧ E.length ≤ 1000 ∧ E.length ≤ c2 ∧ c2 ≤ maxLen from ⟨by rw [HEl.out]; omega, by rw [HEl.out]; have := HRT.out.size_le; omega, by rw [HEl.out]; exact hn1, hm1⟩); clear hx hown hrow hn1 hm1; obtain ⟨q0_0, q0_1, q0_2, q0_3, q0_4, q0_5, q0_6, q0_7⟩ := (H2.out).b0.cells8) | (go_at_call 16; ((with_reducible refine (dec_alln E HEu.out g1 0 c2 w2 (36 + a0_2.size) HEl.out HS1.out.1 HS1.out.2.1 HS1.out.2.2.1 HS1.out.2.2.2 R1.out).mono ?_)); rintro e w3 ⟨h1, h2, hx⟩; obtain rfl : e = .returned (.tuple #[.agg #[.int .u32 a0_0, .int .i64 a0_1, .string a0_2, .int .i64 a0_3, .int .i64 a0_4, .int .i64 a0_5, .int .i64 a0_6, .int .i64 a0_7], .int .i64 0]) := (by rw [← HDV.out.2]; exact h1 HDV.out.1); have H3 := Lib.hid ((H2.out.keep hx).new #[.int .u32 a0_0, .int .i64 a0_1, .string a0_2, .int .i64 a0_3, .int .i64 a0_4, .int .i64 a0_5, .int .i64 a0_6, .int .i64 a0_7] 25); clear h1 h2; clear hx; obtain ⟨r0_0, r0_1, r0_2, r0_3, r0_4, r0_5, r0_6, r0_7⟩ := (H3.out).b0.cells8; obtain ⟨r1_0, r1_1, r1_2, r1_3, r1_4, r1_5, r1_6, r1_7⟩ := (H3.out).tl.b0.cells8) | (go_at_call 16; ((with_reducible refine (dec_short _ _ _ (by omega) _).mono ?_)); rintro e w4 ⟨rfl, hx⟩; have H4 := Lib.hid ((H3.out.keep hx).new #[.int .u32 0, .int .i64 0, .string { data := #[] }, .int .i64 0, .int .i64 0, .int .i64 0, .int .i64 0, .int .i64 0] 25); clear hx; obtain ⟨s0_0, s0_1, s0_2, s0_3, s0_4, s0_5, s0_6, s0_7⟩ := (H4.out).b0.cells8; obtain ⟨s1_0, s1_1, s1_2, s1_3, s1_4, s1_5, s1_6, s1_7⟩ := (H4.out).tl.b0.cells8; obtain ⟨s2_0, s2_1, s2_2, s2_3, s2_4, s2_5, s2_6, s2_7⟩ := (H4.out).tl.tl.b0.cells8))
  go_ret
  exact ⟨rfl, H4.out.2⟩

set_option maxRecDepth 100000 in
set_option maxHeartbeats 2000000 in
theorem back_r_no (a0_0 a0_1 : Int) (a0_2 : ByteArray) (a0_3 a0_4 a0_5 a0_6 a0_7 : Int) (n1 c1 : Nat) (W : World) (w0_0 : (Lit.int .u32 a0_0).wf = true) (hc1000 : a0_2.size ≤ 1000) (hn1000 : n1 ≤ 1000) (hrt : RightP a0_1 a0_2 a0_3 a0_4 a0_5 a0_6 a0_7) (xs : List Int) (hx : ∀ z ∈ xs, 0 ≤ z ∧ z ≤ 255) (g o : Nat) (hN : xs.length = n1) (hl : 36 ≤ xs.length ∧ xs.length ≤ 1000 ∧ xs.length ≤ c1 ∧ c1 ≤ maxLen) (hrow : RowAt W g o (xs.map (Value.int .u8))) (hd : ¬ (DecP xs ∧ xs.getD 35 0 = (xs.length : Int) - 36)) :
    Calls Try.prog 6 #[.agg #[.int .u32 a0_0, .int .i64 a0_1, .string a0_2, .int .i64 a0_3, .int .i64 a0_4, .int .i64 a0_5, .int .i64 a0_6, .int .i64 a0_7], .slice (some ⟨g, o, none⟩) n1 c1] W fun e w' => e = .returned (.bool true) ∧ Below W.heap.size W w' := by
  have H0 := Lib.hid ((HeldB.nil (low0 W (.cells #[.int .u32 a0_0, .int .i64 a0_1, .string a0_2, .int .i64 a0_3, .int .i64 a0_4, .int .i64 a0_5, .int .i64 a0_6, .int .i64 a0_7] 25))).cons (Blk.new W #[.int .u32 a0_0, .int .i64 a0_1, .string a0_2, .int .i64 a0_3, .int .i64 a0_4, .int .i64 a0_5, .int .i64 a0_6, .int .i64 a0_7] 25))
  have hwa := bounds_u32 w0_0
  obtain ⟨E, hE⟩ : ∃ E, E = encL a0_0 a0_1 a0_2 a0_3 a0_4 a0_5 a0_6 a0_7 := ⟨_, rfl⟩
  have hdv := dec_enc a0_0 a0_1 a0_2 a0_3 a0_4 a0_5 a0_6 a0_7 hwa hrt
  have heu := encL_u8 a0_0 a0_1 a0_2 a0_3 a0_4 a0_5 a0_6 a0_7
  have hel := encL_length a0_0 a0_1 a0_2 a0_3 a0_4 a0_5 a0_6 a0_7
  rw [← hE] at hdv heu hel
  have HDV := Lib.hid hdv
  have HEu := Lib.hid heu
  have HEl := Lib.hid hel
  have HE := Lib.hid hE
  clear hdv heu hel hE
  have HRT := Lib.hid hrt
  clear hrt hwa
  have HR0 := Lib.hid (hrow.keep (low0 W (.cells #[.int .u32 a0_0, .int .i64 a0_1, .string a0_2, .int .i64 a0_3, .int .i64 a0_4, .int .i64 a0_5, .int .i64 a0_6, .int .i64 a0_7] 25)))
  have HX := Lib.hid hx
  have HL := Lib.hid hl
  have HN := Lib.hid hN
  have HD := Lib.hid hd
  clear hrow hx hN hl hd
  go_enter Try.func6, Try.ntmps6
  go_wp2_with (first | (go_at_call 7; (with_reducible refine (awake_any _).mono ?_); rintro e w1 ⟨rfl, hx⟩; have H1 := Lib.hid (H0.out.keep hx); have HR1 := Lib.hid (HR0.out.keep hx); clear hx; obtain ⟨p0_0, p0_1, p0_2, p0_3, p0_4, p0_5, p0_6, p0_7⟩ := (H1.out).b0.cells8) | (go_at_call 8; ((with_reducible refine (enc_any a0_0 a0_1 a0_2 a0_3 a0_4 a0_5 a0_6 a0_7 w0_0 _ HRT.out).mono ?_)); rintro e w2 ⟨v, rfl, hown, hx⟩; have H2 := Lib.hid (H1.out.keep hx); have HR2 := Lib.hid (HR1.out.keep hx); obtain ⟨g1, c2, rfl, _, hn1, hm1, hrow⟩ := own_row hown (by omega); have R1 := Lib.hid (show RowAt w2 g1 0 (E.map (Value.int .u8)) from (by rw [HE.out]; exact hrow.row)); have HS1 := Lib.hid (show 36 ≤ E.length ∧ E.length ≤ 1000 ∧ E.length ≤ c2 ∧ c2 ≤ maxLen from ⟨by rw [HEl.out]; omega, by rw [HEl.out]; have := HRT.out.size_le; omega, by rw [HEl.out]; exact hn1, hm1⟩); clear hx hown hrow hn1 hm1; obtain ⟨q0_0, q0_1, q0_2, q0_3, q0_4, q0_5, q0_6, q0_7⟩ := (H2.out).b0.cells8) | (go_at_call 16; ((with_reducible refine (dec_alln E HEu.out g1 0 c2 w2 (36 + a0_2.size) HEl.out HS1.out.1 HS1.out.2.1 HS1.out.2.2.1 HS1.out.2.2.2 R1.out).mono ?_)); rintro e w3 ⟨h1, h2, hx⟩; obtain rfl : e = .returned (.tuple #[.agg #[.int .u32 a0_0, .int .i64 a0_1, .string a0_2, .int .i64 a0_3, .int .i64 a0_4, .int .i64 a0_5, .int .i64 a0_6, .int .i64 a0_7], .int .i64 0]) := (by rw [← HDV.out.2]; exact h1 HDV.out.1); have H3 := Lib.hid ((H2.out.keep hx).new #[.int .u32 a0_0, .int .i64 a0_1, .string a0_2, .int .i64 a0_3, .int .i64 a0_4, .int .i64 a0_5, .int .i64 a0_6, .int .i64 a0_7] 25); clear h1 h2; have HR3 := Lib.hid ((HR2.out.keep hx).keep (low0 w3 (.cells #[.int .u32 a0_0, .int .i64 a0_1, .string a0_2, .int .i64 a0_3, .int .i64 a0_4, .int .i64 a0_5, .int .i64 a0_6, .int .i64 a0_7] 25))); clear hx; obtain ⟨r0_0, r0_1, r0_2, r0_3, r0_4, r0_5, r0_6, r0_7⟩ := (H3.out).b0.cells8; obtain ⟨r1_0, r1_1, r1_2, r1_3, r1_4, r1_5, r1_6, r1_7⟩ := (H3.out).tl.b0.cells8) | (go_at_call 16; ((with_reducible refine (dec_alln xs HX.out g o c1 _ n1 HN.out HL.out.1 HL.out.2.1 HL.out.2.2.1 HL.out.2.2.2 HR3.out).mono ?_)); rintro e w4 ⟨h1, h2, hx⟩; obtain rfl : e = .returned (.tuple #[.agg #[.int .u32 0, .int .i64 0, .string { data := #[] }, .int .i64 0, .int .i64 0, .int .i64 0, .int .i64 0, .int .i64 0], .int .i64 2]) := h2 HD.out; have H4 := Lib.hid ((H3.out.keep hx).new #[.int .u32 0, .int .i64 0, .string { data := #[] }, .int .i64 0, .int .i64 0, .int .i64 0, .int .i64 0, .int .i64 0] 25); have HR4 := Lib.hid ((HR3.out.keep hx).keep (low0 w4 (.cells #[.int .u32 0, .int .i64 0, .string { data := #[] }, .int .i64 0, .int .i64 0, .int .i64 0, .int .i64 0, .int .i64 0] 25))); clear h1 h2 hx; obtain ⟨s0_0, s0_1, s0_2, s0_3, s0_4, s0_5, s0_6, s0_7⟩ := (H4.out).b0.cells8; obtain ⟨s1_0, s1_1, s1_2, s1_3, s1_4, s1_5, s1_6, s1_7⟩ := (H4.out).tl.b0.cells8; obtain ⟨s2_0, s2_1, s2_2, s2_3, s2_4, s2_5, s2_6, s2_7⟩ := (H4.out).tl.tl.b0.cells8))
  go_ret
  exact ⟨rfl, H4.out.2⟩

set_option maxRecDepth 100000 in
set_option maxHeartbeats 2000000 in
theorem back_r_yes (a0_0 a0_1 : Int) (a0_2 : ByteArray) (a0_3 a0_4 a0_5 a0_6 a0_7 : Int) (n1 c1 : Nat) (W : World) (w0_0 : (Lit.int .u32 a0_0).wf = true) (hc1000 : a0_2.size ≤ 1000) (hn1000 : n1 ≤ 1000) (hrt : RightP a0_1 a0_2 a0_3 a0_4 a0_5 a0_6 a0_7) (xs : List Int) (hx : ∀ z ∈ xs, 0 ≤ z ∧ z ≤ 255) (g o : Nat) (hN : xs.length = n1) (hl : 36 ≤ xs.length ∧ xs.length ≤ 1000 ∧ xs.length ≤ c1 ∧ c1 ≤ maxLen) (hrow : RowAt W g o (xs.map (Value.int .u8))) (hd : (DecP xs ∧ xs.getD 35 0 = (xs.length : Int) - 36)) :
    Calls Try.prog 6 #[.agg #[.int .u32 a0_0, .int .i64 a0_1, .string a0_2, .int .i64 a0_3, .int .i64 a0_4, .int .i64 a0_5, .int .i64 a0_6, .int .i64 a0_7], .slice (some ⟨g, o, none⟩) n1 c1] W fun e w' => e = .returned (.bool true) ∧ Below W.heap.size W w' := by
  have H0 := Lib.hid ((HeldB.nil (low0 W (.cells #[.int .u32 a0_0, .int .i64 a0_1, .string a0_2, .int .i64 a0_3, .int .i64 a0_4, .int .i64 a0_5, .int .i64 a0_6, .int .i64 a0_7] 25))).cons (Blk.new W #[.int .u32 a0_0, .int .i64 a0_1, .string a0_2, .int .i64 a0_3, .int .i64 a0_4, .int .i64 a0_5, .int .i64 a0_6, .int .i64 a0_7] 25))
  have hwa := bounds_u32 w0_0
  obtain ⟨E, hE⟩ : ∃ E, E = encL a0_0 a0_1 a0_2 a0_3 a0_4 a0_5 a0_6 a0_7 := ⟨_, rfl⟩
  have hdv := dec_enc a0_0 a0_1 a0_2 a0_3 a0_4 a0_5 a0_6 a0_7 hwa hrt
  have heu := encL_u8 a0_0 a0_1 a0_2 a0_3 a0_4 a0_5 a0_6 a0_7
  have hel := encL_length a0_0 a0_1 a0_2 a0_3 a0_4 a0_5 a0_6 a0_7
  rw [← hE] at hdv heu hel
  have HDV := Lib.hid hdv
  have HEu := Lib.hid heu
  have HEl := Lib.hid hel
  have HE := Lib.hid hE
  clear hdv heu hel hE
  have HRT := Lib.hid hrt
  clear hrt hwa
  have HR0 := Lib.hid (hrow.keep (low0 W (.cells #[.int .u32 a0_0, .int .i64 a0_1, .string a0_2, .int .i64 a0_3, .int .i64 a0_4, .int .i64 a0_5, .int .i64 a0_6, .int .i64 a0_7] 25)))
  have HX := Lib.hid hx
  have HL := Lib.hid hl
  have HN := Lib.hid hN
  obtain ⟨y4, hy4⟩ : ∃ y, y = xs.getD 4 0 := ⟨_, rfl⟩
  have Y4 := Lib.hid hy4
  have HWA := Lib.hid (WalkArith.wf_u32 (num4_bound xs hx hl.1))
  have hrm : RightP y4 (strOf (xs.drop 36)) (pv xs 5 0 0) (pv xs 5 0 1) (pv xs 5 0 2) (pv xs 5 0 3) (pv xs 5 0 4) := by rw [hy4]; exact hd.1
  have HRM := Lib.hid hrm
  have hes : encL (numV (xs.take 4)) y4 (strOf (xs.drop 36)) (pv xs 5 0 0) (pv xs 5 0 1) (pv xs 5 0 2) (pv xs 5 0 3) (pv xs 5 0 4) = xs := by rw [hy4]; exact enc_same xs hx hl.1 (DecP.len hd.1 hl.1) hd.2
  have HES := Lib.hid hes
  clear hy4 hrm hes
  have HD := Lib.hid hd
  clear hrow hx hN hl hd
  go_enter Try.func6, Try.ntmps6
  go_wp2_with (first | (go_at_call 7; (with_reducible refine (awake_any _).mono ?_); rintro e w1 ⟨rfl, hx⟩; have H1 := Lib.hid (H0.out.keep hx); have HR1 := Lib.hid (HR0.out.keep hx); clear hx; obtain ⟨p0_0, p0_1, p0_2, p0_3, p0_4, p0_5, p0_6, p0_7⟩ := (H1.out).b0.cells8) | (go_at_call 8; ((with_reducible refine (enc_any a0_0 a0_1 a0_2 a0_3 a0_4 a0_5 a0_6 a0_7 w0_0 _ HRT.out).mono ?_)); rintro e w2 ⟨v, rfl, hown, hx⟩; have H2 := Lib.hid (H1.out.keep hx); have HR2 := Lib.hid (HR1.out.keep hx); obtain ⟨g1, c2, rfl, _, hn1, hm1, hrow⟩ := own_row hown (by omega); have R1 := Lib.hid (show RowAt w2 g1 0 (E.map (Value.int .u8)) from (by rw [HE.out]; exact hrow.row)); have HS1 := Lib.hid (show 36 ≤ E.length ∧ E.length ≤ 1000 ∧ E.length ≤ c2 ∧ c2 ≤ maxLen from ⟨by rw [HEl.out]; omega, by rw [HEl.out]; have := HRT.out.size_le; omega, by rw [HEl.out]; exact hn1, hm1⟩); clear hx hown hrow hn1 hm1; obtain ⟨q0_0, q0_1, q0_2, q0_3, q0_4, q0_5, q0_6, q0_7⟩ := (H2.out).b0.cells8) | (go_at_call 16; ((with_reducible refine (dec_alln E HEu.out g1 0 c2 w2 (36 + a0_2.size) HEl.out HS1.out.1 HS1.out.2.1 HS1.out.2.2.1 HS1.out.2.2.2 R1.out).mono ?_)); rintro e w3 ⟨h1, h2, hx⟩; obtain rfl : e = .returned (.tuple #[.agg #[.int .u32 a0_0, .int .i64 a0_1, .string a0_2, .int .i64 a0_3, .int .i64 a0_4, .int .i64 a0_5, .int .i64 a0_6, .int .i64 a0_7], .int .i64 0]) := (by rw [← HDV.out.2]; exact h1 HDV.out.1); have H3 := Lib.hid ((H2.out.keep hx).new #[.int .u32 a0_0, .int .i64 a0_1, .string a0_2, .int .i64 a0_3, .int .i64 a0_4, .int .i64 a0_5, .int .i64 a0_6, .int .i64 a0_7] 25); clear h1 h2; have HR3 := Lib.hid ((HR2.out.keep hx).keep (low0 w3 (.cells #[.int .u32 a0_0, .int .i64 a0_1, .string a0_2, .int .i64 a0_3, .int .i64 a0_4, .int .i64 a0_5, .int .i64 a0_6, .int .i64 a0_7] 25))); clear hx; obtain ⟨r0_0, r0_1, r0_2, r0_3, r0_4, r0_5, r0_6, r0_7⟩ := (H3.out).b0.cells8; obtain ⟨r1_0, r1_1, r1_2, r1_3, r1_4, r1_5, r1_6, r1_7⟩ := (H3.out).tl.b0.cells8) | (go_at_call 16; ((with_reducible refine (dec_alln xs HX.out g o c1 _ n1 HN.out HL.out.1 HL.out.2.1 HL.out.2.2.1 HL.out.2.2.2 HR3.out).mono ?_)); rintro e w4 ⟨h1, h2, hx⟩; obtain rfl : e = .returned (.tuple #[.agg #[.int .u32 (numV (xs.take 4)), .int .i64 y4, .string (strOf (xs.drop 36)), .int .i64 (pv xs 5 0 0), .int .i64 (pv xs 5 0 1), .int .i64 (pv xs 5 0 2), .int .i64 (pv xs 5 0 3), .int .i64 (pv xs 5 0 4)], .int .i64 0]) := (by rw [Y4.out]; exact h1 HD.out); have H4 := Lib.hid ((H3.out.keep hx).new #[.int .u32 (numV (xs.take 4)), .int .i64 y4, .string (strOf (xs.drop 36)), .int .i64 (pv xs 5 0 0), .int .i64 (pv xs 5 0 1), .int .i64 (pv xs 5 0 2), .int .i64 (pv xs 5 0 3), .int .i64 (pv xs 5 0 4)] 25); have HR4 := Lib.hid ((HR3.out.keep hx).keep (low0 w4 (.cells #[.int .u32 (numV (xs.take 4)), .int .i64 y4, .string (strOf (xs.drop 36)), .int .i64 (pv xs 5 0 0), .int .i64 (pv xs 5 0 1), .int .i64 (pv xs 5 0 2), .int .i64 (pv xs 5 0 3), .int .i64 (pv xs 5 0 4)] 25))); clear h1 h2 hx; obtain ⟨s0_0, s0_1, s0_2, s0_3, s0_4, s0_5, s0_6, s0_7⟩ := (H4.out).b0.cells8; obtain ⟨s1_0, s1_1, s1_2, s1_3, s1_4, s1_5, s1_6, s1_7⟩ := (H4.out).tl.b0.cells8; obtain ⟨s2_0, s2_1, s2_2, s2_3, s2_4, s2_5, s2_6, s2_7⟩ := (H4.out).tl.tl.b0.cells8) | (go_at_call 8; ((with_reducible refine (enc_any (numV (xs.take 4)) y4 (strOf (xs.drop 36)) (pv xs 5 0 0) (pv xs 5 0 1) (pv xs 5 0 2) (pv xs 5 0 3) (pv xs 5 0 4) HWA.out _ HRM.out).mono ?_)); rintro e w5 ⟨v, rfl, hown, hx⟩; have H5 := Lib.hid (H4.out.keep hx); obtain ⟨g2, c3, rfl, _, hn2, hm2, hrow⟩ := own_row hown (by omega); have cv1 := conv_row (P := Try.prog) (src := 27) (dst := 9) (n := 36 + (strOf (xs.drop 36)).size) (cap := c3) Try.underlying27 Try.underlying5 Try.underlying9 hrow (encL_length _ _ _ _ _ _ _ _); rw [HES.out] at cv1; have cv2 := conv_at (P := Try.prog) (src := 27) (dst := 9) (n := n1) (cap := c1) Try.underlying27 Try.underlying5 Try.underlying9 (HR4.out.keep hx) HN.out; clear hx hown hrow hn2 hm2))
  go_ret
  exact ⟨rfl, H5.out.2⟩

set_option maxRecDepth 100000 in
set_option maxHeartbeats 2000000 in
theorem back_n_short (a0_0 a0_1 : Int) (a0_2 : ByteArray) (a0_3 a0_4 a0_5 a0_6 a0_7 : Int) (a1 : Option Addr) (n1 c1 : Nat) (W : World) (w0_0 : (Lit.int .u32 a0_0).wf = true) (hc1000 : a0_2.size ≤ 1000) (hn1000 : n1 ≤ 1000) (hrt : ¬ RightP a0_1 a0_2 a0_3 a0_4 a0_5 a0_6 a0_7) (h36 : n1 < 36) :
    Calls Try.prog 6 #[.agg #[.int .u32 a0_0, .int .i64 a0_1, .string a0_2, .int .i64 a0_3, .int .i64 a0_4, .int .i64 a0_5, .int .i64 a0_6, .int .i64 a0_7], .slice a1 n1 c1] W fun e w' => e = .returned (.bool true) ∧ Below W.heap.size W w' := by
  have H0 := Lib.hid ((HeldB.nil (low0 W (.cells #[.int .u32 a0_0, .int .i64 a0_1, .string a0_2, .int .i64 a0_3, .int .i64 a0_4, .int .i64 a0_5, .int .i64 a0_6, .int .i64 a0_7] 25))).cons (Blk.new W #[.int .u32 a0_0, .int .i64 a0_1, .string a0_2, .int .i64 a0_3, .int .i64 a0_4, .int .i64 a0_5, .int .i64 a0_6, .int .i64 a0_7] 25))
  have hwa := bounds_u32 w0_0
  have HRT := Lib.hid hrt
  clear hrt hwa
  go_enter Try.func6, Try.ntmps6
  go_wp2_with (first | (go_at_call 7; (with_reducible refine (awake_any _).mono ?_); rintro e w1 ⟨rfl, hx⟩; have H1 := Lib.hid (H0.out.keep hx); clear hx; obtain ⟨p0_0, p0_1, p0_2, p0_3, p0_4, p0_5, p0_6, p0_7⟩ := (H1.out).b0.cells8) | (go_at_call 8; ((with_reducible refine (enc_no _ _ _ _ _ _ _ _ _ HRT.out).mono ?_)); rintro e w2 ⟨rfl, hx⟩; have H2 := Lib.hid (H1.out.keep hx); clear hx; obtain ⟨q0_0, q0_1, q0_2, q0_3, q0_4, q0_5, q0_6, q0_7⟩ := (H2.out).b0.cells8) | (go_at_call 16; ((with_reducible refine (dec_short _ _ _ (by omega) _).mono ?_)); rintro e w4 ⟨rfl, hx⟩; have H4 := Lib.hid ((H2.out.keep hx).new #[.int .u32 0, .int .i64 0, .string { data := #[] }, .int .i64 0, .int .i64 0, .int .i64 0, .int .i64 0, .int .i64 0] 25); clear hx; obtain ⟨s0_0, s0_1, s0_2, s0_3, s0_4, s0_5, s0_6, s0_7⟩ := (H4.out).b0.cells8; obtain ⟨s1_0, s1_1, s1_2, s1_3, s1_4, s1_5, s1_6, s1_7⟩ := (H4.out).tl.b0.cells8))
  go_ret
  exact ⟨rfl, H4.out.2⟩

set_option maxRecDepth 100000 in
set_option maxHeartbeats 2000000 in
theorem back_n_no (a0_0 a0_1 : Int) (a0_2 : ByteArray) (a0_3 a0_4 a0_5 a0_6 a0_7 : Int) (n1 c1 : Nat) (W : World) (w0_0 : (Lit.int .u32 a0_0).wf = true) (hc1000 : a0_2.size ≤ 1000) (hn1000 : n1 ≤ 1000) (hrt : ¬ RightP a0_1 a0_2 a0_3 a0_4 a0_5 a0_6 a0_7) (xs : List Int) (hx : ∀ z ∈ xs, 0 ≤ z ∧ z ≤ 255) (g o : Nat) (hN : xs.length = n1) (hl : 36 ≤ xs.length ∧ xs.length ≤ 1000 ∧ xs.length ≤ c1 ∧ c1 ≤ maxLen) (hrow : RowAt W g o (xs.map (Value.int .u8))) (hd : ¬ (DecP xs ∧ xs.getD 35 0 = (xs.length : Int) - 36)) :
    Calls Try.prog 6 #[.agg #[.int .u32 a0_0, .int .i64 a0_1, .string a0_2, .int .i64 a0_3, .int .i64 a0_4, .int .i64 a0_5, .int .i64 a0_6, .int .i64 a0_7], .slice (some ⟨g, o, none⟩) n1 c1] W fun e w' => e = .returned (.bool true) ∧ Below W.heap.size W w' := by
  have H0 := Lib.hid ((HeldB.nil (low0 W (.cells #[.int .u32 a0_0, .int .i64 a0_1, .string a0_2, .int .i64 a0_3, .int .i64 a0_4, .int .i64 a0_5, .int .i64 a0_6, .int .i64 a0_7] 25))).cons (Blk.new W #[.int .u32 a0_0, .int .i64 a0_1, .string a0_2, .int .i64 a0_3, .int .i64 a0_4, .int .i64 a0_5, .int .i64 a0_6, .int .i64 a0_7] 25))
  have hwa := bounds_u32 w0_0
  have HRT := Lib.hid hrt
  clear hrt hwa
  have HR0 := Lib.hid (hrow.keep (low0 W (.cells #[.int .u32 a0_0, .int .i64 a0_1, .string a0_2, .int .i64 a0_3, .int .i64 a0_4, .int .i64 a0_5, .int .i64 a0_6, .int .i64 a0_7] 25)))
  have HX := Lib.hid hx
  have HL := Lib.hid hl
  have HN := Lib.hid hN
  have HD := Lib.hid hd
  clear hrow hx hN hl hd
  go_enter Try.func6, Try.ntmps6
  go_wp2_with (first | (go_at_call 7; (with_reducible refine (awake_any _).mono ?_); rintro e w1 ⟨rfl, hx⟩; have H1 := Lib.hid (H0.out.keep hx); have HR1 := Lib.hid (HR0.out.keep hx); clear hx; obtain ⟨p0_0, p0_1, p0_2, p0_3, p0_4, p0_5, p0_6, p0_7⟩ := (H1.out).b0.cells8) | (go_at_call 8; ((with_reducible refine (enc_no _ _ _ _ _ _ _ _ _ HRT.out).mono ?_)); rintro e w2 ⟨rfl, hx⟩; have H2 := Lib.hid (H1.out.keep hx); have HR2 := Lib.hid (HR1.out.keep hx); clear hx; obtain ⟨q0_0, q0_1, q0_2, q0_3, q0_4, q0_5, q0_6, q0_7⟩ := (H2.out).b0.cells8) | (go_at_call 16; ((with_reducible refine (dec_alln xs HX.out g o c1 _ n1 HN.out HL.out.1 HL.out.2.1 HL.out.2.2.1 HL.out.2.2.2 HR2.out).mono ?_)); rintro e w4 ⟨h1, h2, hx⟩; obtain rfl : e = .returned (.tuple #[.agg #[.int .u32 0, .int .i64 0, .string { data := #[] }, .int .i64 0, .int .i64 0, .int .i64 0, .int .i64 0, .int .i64 0], .int .i64 2]) := h2 HD.out; have H4 := Lib.hid ((H2.out.keep hx).new #[.int .u32 0, .int .i64 0, .string { data := #[] }, .int .i64 0, .int .i64 0, .int .i64 0, .int .i64 0, .int .i64 0] 25); have HR4 := Lib.hid ((HR2.out.keep hx).keep (low0 w4 (.cells #[.int .u32 0, .int .i64 0, .string { data := #[] }, .int .i64 0, .int .i64 0, .int .i64 0, .int .i64 0, .int .i64 0] 25))); clear h1 h2 hx; obtain ⟨s0_0, s0_1, s0_2, s0_3, s0_4, s0_5, s0_6, s0_7⟩ := (H4.out).b0.cells8; obtain ⟨s1_0, s1_1, s1_2, s1_3, s1_4, s1_5, s1_6, s1_7⟩ := (H4.out).tl.b0.cells8))
  go_ret
  exact ⟨rfl, H4.out.2⟩

set_option maxRecDepth 100000 in
set_option maxHeartbeats 2000000 in
theorem back_n_yes (a0_0 a0_1 : Int) (a0_2 : ByteArray) (a0_3 a0_4 a0_5 a0_6 a0_7 : Int) (n1 c1 : Nat) (W : World) (w0_0 : (Lit.int .u32 a0_0).wf = true) (hc1000 : a0_2.size ≤ 1000) (hn1000 : n1 ≤ 1000) (hrt : ¬ RightP a0_1 a0_2 a0_3 a0_4 a0_5 a0_6 a0_7) (xs : List Int) (hx : ∀ z ∈ xs, 0 ≤ z ∧ z ≤ 255) (g o : Nat) (hN : xs.length = n1) (hl : 36 ≤ xs.length ∧ xs.length ≤ 1000 ∧ xs.length ≤ c1 ∧ c1 ≤ maxLen) (hrow : RowAt W g o (xs.map (Value.int .u8))) (hd : (DecP xs ∧ xs.getD 35 0 = (xs.length : Int) - 36)) :
    Calls Try.prog 6 #[.agg #[.int .u32 a0_0, .int .i64 a0_1, .string a0_2, .int .i64 a0_3, .int .i64 a0_4, .int .i64 a0_5, .int .i64 a0_6, .int .i64 a0_7], .slice (some ⟨g, o, none⟩) n1 c1] W fun e w' => e = .returned (.bool true) ∧ Below W.heap.size W w' := by
  have H0 := Lib.hid ((HeldB.nil (low0 W (.cells #[.int .u32 a0_0, .int .i64 a0_1, .string a0_2, .int .i64 a0_3, .int .i64 a0_4, .int .i64 a0_5, .int .i64 a0_6, .int .i64 a0_7] 25))).cons (Blk.new W #[.int .u32 a0_0, .int .i64 a0_1, .string a0_2, .int .i64 a0_3, .int .i64 a0_4, .int .i64 a0_5, .int .i64 a0_6, .int .i64 a0_7] 25))
  have hwa := bounds_u32 w0_0
  have HRT := Lib.hid hrt
  clear hrt hwa
  have HR0 := Lib.hid (hrow.keep (low0 W (.cells #[.int .u32 a0_0, .int .i64 a0_1, .string a0_2, .int .i64 a0_3, .int .i64 a0_4, .int .i64 a0_5, .int .i64 a0_6, .int .i64 a0_7] 25)))
  have HX := Lib.hid hx
  have HL := Lib.hid hl
  have HN := Lib.hid hN
  obtain ⟨y4, hy4⟩ : ∃ y, y = xs.getD 4 0 := ⟨_, rfl⟩
  have Y4 := Lib.hid hy4
  have HWA := Lib.hid (WalkArith.wf_u32 (num4_bound xs hx hl.1))
  have hrm : RightP y4 (strOf (xs.drop 36)) (pv xs 5 0 0) (pv xs 5 0 1) (pv xs 5 0 2) (pv xs 5 0 3) (pv xs 5 0 4) := by rw [hy4]; exact hd.1
  have HRM := Lib.hid hrm
  have hes : encL (numV (xs.take 4)) y4 (strOf (xs.drop 36)) (pv xs 5 0 0) (pv xs 5 0 1) (pv xs 5 0 2) (pv xs 5 0 3) (pv xs 5 0 4) = xs := by rw [hy4]; exact enc_same xs hx hl.1 (DecP.len hd.1 hl.1) hd.2
  have HES := Lib.hid hes
  clear hy4 hrm hes
  have HD := Lib.hid hd
  clear hrow hx hN hl hd
  go_enter Try.func6, Try.ntmps6
  go_wp2_with (first | (go_at_call 7; (with_reducible refine (awake_any _).mono ?_); rintro e w1 ⟨rfl, hx⟩; have H1 := Lib.hid (H0.out.keep hx); have HR1 := Lib.hid (HR0.out.keep hx); clear hx; obtain ⟨p0_0, p0_1, p0_2, p0_3, p0_4, p0_5, p0_6, p0_7⟩ := (H1.out).b0.cells8) | (go_at_call 8; ((with_reducible refine (enc_no _ _ _ _ _ _ _ _ _ HRT.out).mono ?_)); rintro e w2 ⟨rfl, hx⟩; have H2 := Lib.hid (H1.out.keep hx); have HR2 := Lib.hid (HR1.out.keep hx); clear hx; obtain ⟨q0_0, q0_1, q0_2, q0_3, q0_4, q0_5, q0_6, q0_7⟩ := (H2.out).b0.cells8) | (go_at_call 16; ((with_reducible refine (dec_alln xs HX.out g o c1 _ n1 HN.out HL.out.1 HL.out.2.1 HL.out.2.2.1 HL.out.2.2.2 HR2.out).mono ?_)); rintro e w4 ⟨h1, h2, hx⟩; obtain rfl : e = .returned (.tuple #[.agg #[.int .u32 (numV (xs.take 4)), .int .i64 y4, .string (strOf (xs.drop 36)), .int .i64 (pv xs 5 0 0), .int .i64 (pv xs 5 0 1), .int .i64 (pv xs 5 0 2), .int .i64 (pv xs 5 0 3), .int .i64 (pv xs 5 0 4)], .int .i64 0]) := (by rw [Y4.out]; exact h1 HD.out); have H4 := Lib.hid ((H2.out.keep hx).new #[.int .u32 (numV (xs.take 4)), .int .i64 y4, .string (strOf (xs.drop 36)), .int .i64 (pv xs 5 0 0), .int .i64 (pv xs 5 0 1), .int .i64 (pv xs 5 0 2), .int .i64 (pv xs 5 0 3), .int .i64 (pv xs 5 0 4)] 25); have HR4 := Lib.hid ((HR2.out.keep hx).keep (low0 w4 (.cells #[.int .u32 (numV (xs.take 4)), .int .i64 y4, .string (strOf (xs.drop 36)), .int .i64 (pv xs 5 0 0), .int .i64 (pv xs 5 0 1), .int .i64 (pv xs 5 0 2), .int .i64 (pv xs 5 0 3), .int .i64 (pv xs 5 0 4)] 25))); clear h1 h2 hx; obtain ⟨s0_0, s0_1, s0_2, s0_3, s0_4, s0_5, s0_6, s0_7⟩ := (H4.out).b0.cells8; obtain ⟨s1_0, s1_1, s1_2, s1_3, s1_4, s1_5, s1_6, s1_7⟩ := (H4.out).tl.b0.cells8) | (go_at_call 8; ((with_reducible refine (enc_any (numV (xs.take 4)) y4 (strOf (xs.drop 36)) (pv xs 5 0 0) (pv xs 5 0 1) (pv xs 5 0 2) (pv xs 5 0 3) (pv xs 5 0 4) HWA.out _ HRM.out).mono ?_)); rintro e w5 ⟨v, rfl, hown, hx⟩; have H5 := Lib.hid (H4.out.keep hx); obtain ⟨g2, c3, rfl, _, hn2, hm2, hrow⟩ := own_row hown (by omega); have cv1 := conv_row (P := Try.prog) (src := 27) (dst := 9) (n := 36 + (strOf (xs.drop 36)).size) (cap := c3) Try.underlying27 Try.underlying5 Try.underlying9 hrow (encL_length _ _ _ _ _ _ _ _); rw [HES.out] at cv1; have cv2 := conv_at (P := Try.prog) (src := 27) (dst := 9) (n := n1) (cap := c1) Try.underlying27 Try.underlying5 Try.underlying9 (HR4.out.keep hx) HN.out; clear hx hown hrow hn2 hm2))
  go_ret
  exact ⟨rfl, H5.out.2⟩

end Go.Proofs.Ytihekjoeibljpaa
