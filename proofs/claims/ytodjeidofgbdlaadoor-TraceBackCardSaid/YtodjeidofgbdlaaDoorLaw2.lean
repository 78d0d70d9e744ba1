/- A line is parsed as its promise; what is parsed has that line. -/
import Derived.Test.YtodjeidofgbdlaaDoorAwk
import Derived.OpenShut
namespace Go.Proofs.YtodjeidofgbdlaaDoor
open Go.ChangeShapes Go.WideShapes Go.ChangeAt Go.RowKit
set_option linter.unusedVariables false
set_option linter.unusedSimpArgs false

set_option maxRecDepth 100000 in
set_option maxHeartbeats 2000000 in
theorem back_walk (a0_0 : Int) (a0_1 : Int) (a0_2 : ByteArray) (a0_3 : Int) (a0_4 : Int) (a1 : ByteArray) (W : World) (hpa : 0 ≤ a0_1 ∧ a0_1 ≤ 4294967295) (hR : Env W) (hs : a1.size ≤ 1000) (hc : a0_2.size ≤ 200) :
    Calls Tryd.prog 4 #[.agg #[.int .i64 a0_0, .int .u32 a0_1, .string a0_2, .int .i64 a0_3, .int .i64 a0_4], .string a1] W fun e w' => e = .returned (.bool true) ∧ Below W.heap.size W w' := by
  have H0 := Lib.hid ((HeldB.nil (low0 W (.cells #[.int .i64 a0_0, .int .u32 a0_1, .string a0_2, .int .i64 a0_3, .int .i64 a0_4] 25))).cons (Blk.new W #[.int .i64 a0_0, .int .u32 a0_1, .string a0_2, .int .i64 a0_3, .int .i64 a0_4] 25))
  have HE := Lib.hid hR
  have HE0 := Lib.hid (hR.alloc (.cells #[.int .i64 a0_0, .int .u32 a0_1, .string a0_2, .int .i64 a0_3, .int .i64 a0_4] 25))
  have g1 : decide ((200 : Int) < a0_2.size) = false := decide_eq_false (by omega)
  have g2 : decide ((1000 : Int) < a1.size) = false := decide_eq_false (by omega)
  have hl0 := fun (w : World) (he : Env w) => line_any a0_0 a0_1 a0_2 a0_3 a0_4 hpa w he
  clear hR
  by_cases hr : rightPr ⟨a0_0, a0_1, a0_2, a0_3, a0_4⟩
  · rw [show lineR ⟨a0_0, a0_1, a0_2, a0_3, a0_4⟩ = (lineB ⟨a0_0, a0_1, a0_2, a0_3, a0_4⟩, 0) from by unfold lineR; rw [if_pos hr]] at hl0
    have hp1 : ∀ w, Env w → Calls Tryd.prog 10 #[.string (lineB ⟨a0_0, a0_1, a0_2, a0_3, a0_4⟩)] w fun e w' => e = .returned (.tuple #[.agg #[.int .i64 a0_0, .int .u32 a0_1, .string a0_2, .int .i64 a0_3, .int .i64 a0_4], .int .i64 0]) ∧ Below w.heap.size w w' := by
      obtain ⟨r, hpo, h3, _⟩ := parse_is (lineB ⟨a0_0, a0_1, a0_2, a0_3, a0_4⟩)
      have hl := lineL_len hr (by simp only; omega)
      have hz : (lineB ⟨a0_0, a0_1, a0_2, a0_3, a0_4⟩).size ≤ 100000 := by unfold lineB; simp [ByteArray.size]; omega
      have := hpo.same (ParseOf.ref hr hpa.1 hpa.2 rfl)
      subst this
      exact fun w he => h3 w hz he
    obtain ⟨ln, hln⟩ : ∃ r, lineB ⟨a0_0, a0_1, a0_2, a0_3, a0_4⟩ = r := ⟨_, rfl⟩
    rw [hln] at hl0 hp1
    have HL := Lib.hid hl0
    have HP1 := Lib.hid hp1
    simp only at HL
    clear hl0 hp1 hln hr hpa
    obtain ⟨⟨⟨qs, qa, qc, qf, qu⟩, qe⟩, hpo, h3, _⟩ := parse_is a1
    rcases hpo with ⟨q, hq, hq0, hq1, hqs, hqe⟩ | ⟨_, hqe⟩
    · obtain ⟨rfl, rfl⟩ := Prod.mk.inj hqe
      clear hqe
      simp only at hq0 hq1
      have HP2 := Lib.hid (fun w he => h3 w (by omega) he)
      have HL2 := Lib.hid (fun (w : World) (he : Env w) => line_any qs qa qc qf qu ⟨hq0, hq1⟩ w he)
      rw [show lineR ⟨qs, qa, qc, qf, qu⟩ = (a1, 0) from by unfold lineR; rw [if_pos hq, ← hqs]] at HL2
      simp only [Pr.val] at HP2 HL2
      clear h3 hq hq0 hq1 hqs
      go_enter Tryd.func4, Tryd.ntmps4
      go_wp2_with (first | (go_at_call 7; (with_reducible refine (awake_any _ HE0.out).mono ?_); rintro e wH1 ⟨rfl, hx⟩; have H1 := Lib.hid (H0.out.keep hx); clear hx; obtain ⟨p0_0, p0_1, p0_2, p0_3, p0_4⟩ := (H1.out).b0.cells5; have pf0 := (H1.out).b0.free) | (go_at_call 8; (with_reducible refine (HL.out _ (HE.out.keep H1.out.bel)).mono ?_); rintro e wH2 ⟨rfl, hx⟩; have H2 := Lib.hid (H1.out.keep hx); clear hx; clear p0_0 p0_1 p0_2 p0_3 p0_4 pf0; obtain ⟨q0_0, q0_1, q0_2, q0_3, q0_4⟩ := (H2.out).b0.cells5; have qf0 := (H2.out).b0.free) | (go_at_call 10; (with_reducible refine (HP1.out _ (HE.out.keep H2.out.bel)).mono ?_); rintro e wH3 ⟨rfl, hx⟩; have H3 := Lib.hid (H2.out.keep hx); clear hx; obtain ⟨r0_0, r0_1, r0_2, r0_3, r0_4⟩ := ((H3.out.new #[.int .i64 a0_0, .int .u32 a0_1, .string a0_2, .int .i64 a0_3, .int .i64 a0_4] 25)).b0.cells5; obtain ⟨r1_0, r1_1, r1_2, r1_3, r1_4⟩ := ((H3.out.new #[.int .i64 a0_0, .int .u32 a0_1, .string a0_2, .int .i64 a0_3, .int .i64 a0_4] 25)).tl.b0.cells5) | (go_at_call 10; (with_reducible refine (HP2.out _ (HE.out.keep (H3.out.new #[.int .i64 a0_0, .int .u32 a0_1, .string a0_2, .int .i64 a0_3, .int .i64 a0_4] 25).bel)).mono ?_); rintro e wH4 ⟨rfl, hx⟩; have H4 := Lib.hid ((H3.out.new #[.int .i64 a0_0, .int .u32 a0_1, .string a0_2, .int .i64 a0_3, .int .i64 a0_4] 25).keep hx); clear hx; obtain ⟨s0_0, s0_1, s0_2, s0_3, s0_4⟩ := ((H4.out.new #[.int .i64 qs, .int .u32 qa, .string qc, .int .i64 qf, .int .i64 qu] 25)).b0.cells5; obtain ⟨s1_0, s1_1, s1_2, s1_3, s1_4⟩ := ((H4.out.new #[.int .i64 qs, .int .u32 qa, .string qc, .int .i64 qf, .int .i64 qu] 25)).tl.b0.cells5; obtain ⟨s2_0, s2_1, s2_2, s2_3, s2_4⟩ := ((H4.out.new #[.int .i64 qs, .int .u32 qa, .string qc, .int .i64 qf, .int .i64 qu] 25)).tl.tl.b0.cells5) | (go_at_call 8; (with_reducible refine (HL2.out _ (HE.out.keep (H4.out.new #[.int .i64 qs, .int .u32 qa, .string qc, .int .i64 qf, .int .i64 qu] 25).bel)).mono ?_); rintro e wH5 ⟨rfl, hx⟩; have H5 := Lib.hid ((H4.out.new #[.int .i64 qs, .int .u32 qa, .string qc, .int .i64 qf, .int .i64 qu] 25).keep hx); clear hx; obtain ⟨t0_0, t0_1, t0_2, t0_3, t0_4⟩ := (H5.out).b0.cells5; obtain ⟨t1_0, t1_1, t1_2, t1_3, t1_4⟩ := (H5.out).tl.b0.cells5; obtain ⟨t2_0, t2_1, t2_2, t2_3, t2_4⟩ := (H5.out).tl.tl.b0.cells5))
      go_ret
      exact ⟨rfl, H5.out.2⟩
    · obtain ⟨h4, rfl⟩ := Prod.mk.inj hqe
      rw [h4] at h3
      have HP2 := Lib.hid (fun w he => h3 w (by omega) he)
      simp only [Pr.val, zeroPr] at HP2
      clear h3 h4 hqe
      go_enter Tryd.func4, Tryd.ntmps4
      go_wp2_with (first | (go_at_call 7; (with_reducible refine (awake_any _ HE0.out).mono ?_); rintro e wH1 ⟨rfl, hx⟩; have H1 := Lib.hid (H0.out.keep hx); clear hx; obtain ⟨p0_0, p0_1, p0_2, p0_3, p0_4⟩ := (H1.out).b0.cells5; have pf0 := (H1.out).b0.free) | (go_at_call 8; (with_reducible refine (HL.out _ (HE.out.keep H1.out.bel)).mono ?_); rintro e wH2 ⟨rfl, hx⟩; have H2 := Lib.hid (H1.out.keep hx); clear hx; clear p0_0 p0_1 p0_2 p0_3 p0_4 pf0; obtain ⟨q0_0, q0_1, q0_2, q0_3, q0_4⟩ := (H2.out).b0.cells5; have qf0 := (H2.out).b0.free) | (go_at_call 10; (with_reducible refine (HP1.out _ (HE.out.keep H2.out.bel)).mono ?_); rintro e wH3 ⟨rfl, hx⟩; have H3 := Lib.hid (H2.out.keep hx); clear hx; obtain ⟨r0_0, r0_1, r0_2, r0_3, r0_4⟩ := ((H3.out.new #[.int .i64 a0_0, .int .u32 a0_1, .string a0_2, .int .i64 a0_3, .int .i64 a0_4] 25)).b0.cells5; obtain ⟨r1_0, r1_1, r1_2, r1_3, r1_4⟩ := ((H3.out.new #[.int .i64 a0_0, .int .u32 a0_1, .string a0_2, .int .i64 a0_3, .int .i64 a0_4] 25)).tl.b0.cells5) | (go_at_call 10; (with_reducible refine (HP2.out _ (HE.out.keep (H3.out.new #[.int .i64 a0_0, .int .u32 a0_1, .string a0_2, .int .i64 a0_3, .int .i64 a0_4] 25).bel)).mono ?_); rintro e wH4 ⟨rfl, hx⟩; have H4 := Lib.hid ((H3.out.new #[.int .i64 a0_0, .int .u32 a0_1, .string a0_2, .int .i64 a0_3, .int .i64 a0_4] 25).keep hx); clear hx; obtain ⟨s0_0, s0_1, s0_2, s0_3, s0_4⟩ := ((H4.out.new #[.int .i64 0, .int .u32 0, .string { data := #[] }, .int .i64 0, .int .i64 0] 25)).b0.cells5; obtain ⟨s1_0, s1_1, s1_2, s1_3, s1_4⟩ := ((H4.out.new #[.int .i64 0, .int .u32 0, .string { data := #[] }, .int .i64 0, .int .i64 0] 25)).tl.b0.cells5; obtain ⟨s2_0, s2_1, s2_2, s2_3, s2_4⟩ := ((H4.out.new #[.int .i64 0, .int .u32 0, .string { data := #[] }, .int .i64 0, .int .i64 0] 25)).tl.tl.b0.cells5))
      go_ret
      exact ⟨rfl, (H4.out.new #[.int .i64 0, .int .u32 0, .string { data := #[] }, .int .i64 0, .int .i64 0] 25).2⟩
  · rw [show lineR ⟨a0_0, a0_1, a0_2, a0_3, a0_4⟩ = ({ data := #[] }, 1) from by unfold lineR; rw [if_neg hr]] at hl0
    have HL := Lib.hid hl0
    simp only at HL
    clear hl0 hr hpa
    obtain ⟨⟨⟨qs, qa, qc, qf, qu⟩, qe⟩, hpo, h3, _⟩ := parse_is a1
    rcases hpo with ⟨q, hq, hq0, hq1, hqs, hqe⟩ | ⟨_, hqe⟩
    · obtain ⟨rfl, rfl⟩ := Prod.mk.inj hqe
      clear hqe
      simp only at hq0 hq1
      have HP2 := Lib.hid (fun w he => h3 w (by omega) he)
      have HL2 := Lib.hid (fun (w : World) (he : Env w) => line_any qs qa qc qf qu ⟨hq0, hq1⟩ w he)
      rw [show lineR ⟨qs, qa, qc, qf, qu⟩ = (a1, 0) from by unfold lineR; rw [if_pos hq, ← hqs]] at HL2
      simp only [Pr.val] at HP2 HL2
      clear h3 hq hq0 hq1 hqs
      go_enter Tryd.func4, Tryd.ntmps4
      go_wp2_with (first | (go_at_call 7; (with_reducible refine (awake_any _ HE0.out).mono ?_); rintro e wH1 ⟨rfl, hx⟩; have H1 := Lib.hid (H0.out.keep hx); clear hx; obtain ⟨p0_0, p0_1, p0_2, p0_3, p0_4⟩ := (H1.out).b0.cells5; have pf0 := (H1.out).b0.free) | (go_at_call 8; (with_reducible refine (HL.out _ (HE.out.keep H1.out.bel)).mono ?_); rintro e wH2 ⟨rfl, hx⟩; have H2 := Lib.hid (H1.out.keep hx); clear hx; clear p0_0 p0_1 p0_2 p0_3 p0_4 pf0; obtain ⟨q0_0, q0_1, q0_2, q0_3, q0_4⟩ := (H2.out).b0.cells5; have qf0 := (H2.out).b0.free) | (go_at_call 10; (with_reducible refine (HP2.out _ (HE.out.keep H2.out.bel)).mono ?_); rintro e wH4 ⟨rfl, hx⟩; have H4 := Lib.hid (H2.out.keep hx); clear hx; obtain ⟨s0_0, s0_1, s0_2, s0_3, s0_4⟩ := ((H4.out.new #[.int .i64 qs, .int .u32 qa, .string qc, .int .i64 qf, .int .i64 qu] 25)).b0.cells5; obtain ⟨s1_0, s1_1, s1_2, s1_3, s1_4⟩ := ((H4.out.new #[.int .i64 qs, .int .u32 qa, .string qc, .int .i64 qf, .int .i64 qu] 25)).tl.b0.cells5) | (go_at_call 8; (with_reducible refine (HL2.out _ (HE.out.keep (H4.out.new #[.int .i64 qs, .int .u32 qa, .string qc, .int .i64 qf, .int .i64 qu] 25).bel)).mono ?_); rintro e wH5 ⟨rfl, hx⟩; have H5 := Lib.hid ((H4.out.new #[.int .i64 qs, .int .u32 qa, .string qc, .int .i64 qf, .int .i64 qu] 25).keep hx); clear hx; obtain ⟨t0_0, t0_1, t0_2, t0_3, t0_4⟩ := (H5.out).b0.cells5; obtain ⟨t1_0, t1_1, t1_2, t1_3, t1_4⟩ := (H5.out).tl.b0.cells5))
      go_ret
      exact ⟨rfl, H5.out.2⟩
    · obtain ⟨h4, rfl⟩ := Prod.mk.inj hqe
      rw [h4] at h3
      have HP2 := Lib.hid (fun w he => h3 w (by omega) he)
      simp only [Pr.val, zeroPr] at HP2
      clear h3 h4 hqe
      go_enter Tryd.func4, Tryd.ntmps4
      go_wp2_with (first | (go_at_call 7; (with_reducible refine (awake_any _ HE0.out).mono ?_); rintro e wH1 ⟨rfl, hx⟩; have H1 := Lib.hid (H0.out.keep hx); clear hx; obtain ⟨p0_0, p0_1, p0_2, p0_3, p0_4⟩ := (H1.out).b0.cells5; have pf0 := (H1.out).b0.free) | (go_at_call 8; (with_reducible refine (HL.out _ (HE.out.keep H1.out.bel)).mono ?_); rintro e wH2 ⟨rfl, hx⟩; have H2 := Lib.hid (H1.out.keep hx); clear hx; clear p0_0 p0_1 p0_2 p0_3 p0_4 pf0; obtain ⟨q0_0, q0_1, q0_2, q0_3, q0_4⟩ := (H2.out).b0.cells5; have qf0 := (H2.out).b0.free) | (go_at_call 10; (with_reducible refine (HP2.out _ (HE.out.keep H2.out.bel)).mono ?_); rintro e wH4 ⟨rfl, hx⟩; have H4 := Lib.hid (H2.out.keep hx); clear hx; obtain ⟨s0_0, s0_1, s0_2, s0_3, s0_4⟩ := ((H4.out.new #[.int .i64 0, .int .u32 0, .string { data := #[] }, .int .i64 0, .int .i64 0] 25)).b0.cells5; obtain ⟨s1_0, s1_1, s1_2, s1_3, s1_4⟩ := ((H4.out.new #[.int .i64 0, .int .u32 0, .string { data := #[] }, .int .i64 0, .int .i64 0] 25)).tl.b0.cells5))
      go_ret
      exact ⟨rfl, (H4.out.new #[.int .i64 0, .int .u32 0, .string { data := #[] }, .int .i64 0, .int .i64 0] 25).2⟩
set_option maxRecDepth 100000 in
set_option maxHeartbeats 1000000 in
theorem walk_TraceBack (a0_0 : Int) (a0_1 : Int) (a0_2 : ByteArray) (a0_3 : Int) (a0_4 : Int) (a1 : ByteArray) (W : World) (w0_0 : (Lit.int .i64 a0_0).wf = true) (w0_1 : (Lit.int .u32 a0_1).wf = true) (w0_2 : a0_2.size ≤ maxLen) (w0_3 : (Lit.int .i64 a0_3).wf = true) (w0_4 : (Lit.int .i64 a0_4).wf = true) (w1 : a1.size ≤ maxLen) (z1 : a1.size ≤ 140737488351232) (hR : Env W) :
    Calls Tryd.prog 4 #[.agg #[.int .i64 a0_0, .int .u32 a0_1, .string a0_2, .int .i64 a0_3, .int .i64 a0_4], .string a1] W fun e w' => e = .returned (.bool true) ∧ Below W.heap.size W w' := by
  by_cases hs : a1.size ≤ 1000
  · by_cases hc : a0_2.size ≤ 200
    · exact back_walk a0_0 a0_1 a0_2 a0_3 a0_4 a1 W (bounds_u32 w0_1) hR hs hc
    · have H0 := Lib.hid ((HeldB.nil (low0 W (.cells #[.int .i64 a0_0, .int .u32 a0_1, .string a0_2, .int .i64 a0_3, .int .i64 a0_4] 25))).cons (Blk.new W #[.int .i64 a0_0, .int .u32 a0_1, .string a0_2, .int .i64 a0_3, .int .i64 a0_4] 25))
      have HE0 := Lib.hid (hR.alloc (.cells #[.int .i64 a0_0, .int .u32 a0_1, .string a0_2, .int .i64 a0_3, .int .i64 a0_4] 25))
      have g1 : decide ((200 : Int) < a0_2.size) = true := decide_eq_true (by omega)
      clear hR
      go_enter Tryd.func4, Tryd.ntmps4
      go_wp2_with (go_at_call 7; (with_reducible refine (awake_any _ HE0.out).mono ?_); rintro e wH1 ⟨rfl, hx⟩; have H1 := Lib.hid (H0.out.keep hx); clear hx; obtain ⟨p0_0, p0_1, p0_2, p0_3, p0_4⟩ := (H1.out).b0.cells5; have pf0 := (H1.out).b0.free)
      go_ret
      exact ⟨rfl, H1.out.2⟩
  · have H0 := Lib.hid ((HeldB.nil (low0 W (.cells #[.int .i64 a0_0, .int .u32 a0_1, .string a0_2, .int .i64 a0_3, .int .i64 a0_4] 25))).cons (Blk.new W #[.int .i64 a0_0, .int .u32 a0_1, .string a0_2, .int .i64 a0_3, .int .i64 a0_4] 25))
    have HE0 := Lib.hid (hR.alloc (.cells #[.int .i64 a0_0, .int .u32 a0_1, .string a0_2, .int .i64 a0_3, .int .i64 a0_4] 25))
    have g2 : decide ((1000 : Int) < a1.size) = true := decide_eq_true (by omega)
    clear hR
    by_cases hc : a0_2.size ≤ 200
    · have g1 : decide ((200 : Int) < a0_2.size) = false := decide_eq_false (by omega)
      go_enter Tryd.func4, Tryd.ntmps4
      go_wp2_with (go_at_call 7; (with_reducible refine (awake_any _ HE0.out).mono ?_); rintro e wH1 ⟨rfl, hx⟩; have H1 := Lib.hid (H0.out.keep hx); clear hx; obtain ⟨p0_0, p0_1, p0_2, p0_3, p0_4⟩ := (H1.out).b0.cells5; have pf0 := (H1.out).b0.free)
      go_ret
      exact ⟨rfl, H1.out.2⟩
    · have g1 : decide ((200 : Int) < a0_2.size) = true := decide_eq_true (by omega)
      go_enter Tryd.func4, Tryd.ntmps4
      go_wp2_with (go_at_call 7; (with_reducible refine (awake_any _ HE0.out).mono ?_); rintro e wH1 ⟨rfl, hx⟩; have H1 := Lib.hid (H0.out.keep hx); clear hx; obtain ⟨p0_0, p0_1, p0_2, p0_3, p0_4⟩ := (H1.out).b0.cells5; have pf0 := (H1.out).b0.free)
      go_ret
      exact ⟨rfl, H1.out.2⟩

end Go.Proofs.YtodjeidofgbdlaaDoor
