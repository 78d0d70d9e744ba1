/- What was promised, looked over: one promise at a moment, two promises. -/
import Derived.Test.YtodjeidofgbdlaaGreatDoorLin
namespace Go.Proofs.YtodjeidofgbdlaaGreatDoor
open Go.ChangeShapes Go.WideShapes Go.ChangeAt Go.RowKit
set_option linter.unusedVariables false
set_option linter.unusedSimpArgs false

theorem str_inj {a b : ByteArray} (h : a.toList = b.toList) : a = b := by
  rw [Lib.toList_data, Lib.toList_data] at h
  exact ByteArray.ext (Array.toList_inj.1 h)

/-- Does a promise hold at a moment? -/
def holdsP (q : Pr) (now : Int) : Prop := rightPr q ∧ q.frm ≤ now ∧ now ≤ q.unt
instance (q : Pr) (now : Int) : Decidable (holdsP q now) := by unfold holdsP; infer_instance
set_option maxRecDepth 100000 in
set_option maxHeartbeats 1000000 in
theorem holds_yes (ps pa : Int) (pc : ByteArray) (pf pu now : Int) (hr : rightPr ⟨ps, pa, pc, pf, pu⟩) (w : World) : Calls Tryz.prog 20 #[.agg #[.int .i64 ps, .int .u32 pa, .string pc, .int .i64 pf, .int .i64 pu], .int .i64 now] w fun e w' => e = .returned (.bool (decide (holdsP ⟨ps, pa, pc, pf, pu⟩ now))) ∧ Below w.heap.size w w' := by
  have HD := Lib.hid (show decide (rightPr ⟨ps, pa, pc, pf, pu⟩) = true from decide_eq_true hr)
  have HR := Lib.hid hr
  clear hr
  have H0 := Lib.hid ((HeldB.nil (low0 w (.cells #[.int .i64 ps, .int .u32 pa, .string pc, .int .i64 pf, .int .i64 pu] 29))).cons (Blk.new w #[.int .i64 ps, .int .u32 pa, .string pc, .int .i64 pf, .int .i64 pu] 29))
  go_enter Tryz.func20, Tryz.ntmps20
  by_cases h3 : pf ≤ now
  · go_wp2_with (go_at_call 18; (with_reducible refine (tright_any _ _ _ _ _ _).mono ?_); rintro e w1 ⟨he, hx⟩; rw [HD.out] at he; subst he; have H1 := Lib.hid (H0.out.keep hx); clear hx; obtain ⟨p0_0, p0_1, p0_2, p0_3, p0_4⟩ := (H1.out).b0.cells5)
    all_goals go_ret
    all_goals (refine ⟨congrArg (fun b => Ending.returned (Value.bool b)) ?_, H1.out.2⟩; have hr := HR.out; first | (simp [holdsP, hr, h3]; done) | (simp [holdsP, hr, h3]; intros; omega))
  · go_wp2_with (go_at_call 18; (with_reducible refine (tright_any _ _ _ _ _ _).mono ?_); rintro e w1 ⟨he, hx⟩; rw [HD.out] at he; subst he; have H1 := Lib.hid (H0.out.keep hx); clear hx; obtain ⟨p0_0, p0_1, p0_2, p0_3, p0_4⟩ := (H1.out).b0.cells5)
    all_goals go_ret
    all_goals (refine ⟨congrArg (fun b => Ending.returned (Value.bool b)) ?_, H1.out.2⟩; have hr := HR.out; first | (simp [holdsP, hr, h3]; done) | (simp [holdsP, hr, h3]; intros; omega))
set_option maxRecDepth 100000 in
set_option maxHeartbeats 1000000 in
theorem holds_no (ps pa : Int) (pc : ByteArray) (pf pu now : Int) (hr : ¬ rightPr ⟨ps, pa, pc, pf, pu⟩) (w : World) : Calls Tryz.prog 20 #[.agg #[.int .i64 ps, .int .u32 pa, .string pc, .int .i64 pf, .int .i64 pu], .int .i64 now] w fun e w' => e = .returned (.bool (decide (holdsP ⟨ps, pa, pc, pf, pu⟩ now))) ∧ Below w.heap.size w w' := by
  have HD := Lib.hid (show decide (rightPr ⟨ps, pa, pc, pf, pu⟩) = false from decide_eq_false hr)
  have HR := Lib.hid hr
  clear hr
  have H0 := Lib.hid ((HeldB.nil (low0 w (.cells #[.int .i64 ps, .int .u32 pa, .string pc, .int .i64 pf, .int .i64 pu] 29))).cons (Blk.new w #[.int .i64 ps, .int .u32 pa, .string pc, .int .i64 pf, .int .i64 pu] 29))
  go_enter Tryz.func20, Tryz.ntmps20
  by_cases h3 : pf ≤ now
  · go_wp2_with (go_at_call 18; (with_reducible refine (tright_any _ _ _ _ _ _).mono ?_); rintro e w1 ⟨he, hx⟩; rw [HD.out] at he; subst he; have H1 := Lib.hid (H0.out.keep hx); clear hx; obtain ⟨p0_0, p0_1, p0_2, p0_3, p0_4⟩ := (H1.out).b0.cells5)
    all_goals go_ret
    all_goals (refine ⟨congrArg (fun b => Ending.returned (Value.bool b)) ?_, H1.out.2⟩; have hr := HR.out; first | (simp [holdsP, hr, h3]; done) | (simp [holdsP, hr, h3]; intros; omega))
  · go_wp2_with (go_at_call 18; (with_reducible refine (tright_any _ _ _ _ _ _).mono ?_); rintro e w1 ⟨he, hx⟩; rw [HD.out] at he; subst he; have H1 := Lib.hid (H0.out.keep hx); clear hx; obtain ⟨p0_0, p0_1, p0_2, p0_3, p0_4⟩ := (H1.out).b0.cells5)
    all_goals go_ret
    all_goals (refine ⟨congrArg (fun b => Ending.returned (Value.bool b)) ?_, H1.out.2⟩; have hr := HR.out; first | (simp [holdsP, hr, h3]; done) | (simp [holdsP, hr, h3]; intros; omega))
theorem holds_any (q : Pr) (now : Int) (w : World) : Calls Tryz.prog 20 #[q.val, .int .i64 now] w fun e w' => e = .returned (.bool (decide (holdsP q now))) ∧ Below w.heap.size w w' := by
  obtain ⟨ps, pa, pc, pf, pu⟩ := q
  by_cases hr : rightPr ⟨ps, pa, pc, pf, pu⟩
  · exact holds_yes ps pa pc pf pu now hr w
  · exact holds_no ps pa pc pf pu now hr w

/-- Do two promises? -/
def clashP (p q : Pr) : Prop := p.adr = q.adr ∧ p.cli ≠ q.cli ∧ rightPr p ∧ rightPr q ∧ max p.frm q.frm ≤ min p.unt q.unt
instance (p q : Pr) : Decidable (clashP p q) := by unfold clashP; infer_instance
set_option maxRecDepth 100000 in
set_option maxHeartbeats 1000000 in
theorem clash_n (ps pa : Int) (pc : ByteArray) (pf pu : Int) (qs qa : Int) (qc : ByteArray) (qf qu : Int) (h1 : pa ≠ qa) (w : World) : Calls Tryz.prog 17 #[.agg #[.int .i64 ps, .int .u32 pa, .string pc, .int .i64 pf, .int .i64 pu], .agg #[.int .i64 qs, .int .u32 qa, .string qc, .int .i64 qf, .int .i64 qu]] w fun e w' => e = .returned (.bool (decide (clashP ⟨ps, pa, pc, pf, pu⟩ ⟨qs, qa, qc, qf, qu⟩))) ∧ Below w.heap.size w w' := by
  have HN := Lib.hid (show HeldB w [(w.heap.size + 1, #[.int .i64 qs, .int .u32 qa, .string qc, .int .i64 qf, .int .i64 qu], 29), (w.heap.size, #[.int .i64 ps, .int .u32 pa, .string pc, .int .i64 pf, .int .i64 pu], 29)] ((w.alloc (.cells #[.int .i64 ps, .int .u32 pa, .string pc, .int .i64 pf, .int .i64 pu] 29)).alloc (.cells #[.int .i64 qs, .int .u32 qa, .string qc, .int .i64 qf, .int .i64 qu] 29)) from (by
    have h := ((HeldB.nil (Below.refl w.heap.size w)).new #[.int .i64 ps, .int .u32 pa, .string pc, .int .i64 pf, .int .i64 pu] 29).new #[.int .i64 qs, .int .u32 qa, .string qc, .int .i64 qf, .int .i64 qu] 29
    have e : (w.alloc (.cells #[.int .i64 ps, .int .u32 pa, .string pc, .int .i64 pf, .int .i64 pu] 29)).heap.size = w.heap.size + 1 := by simp
    rw [e] at h
    exact h))
  go_enter Tryz.func17, Tryz.ntmps17
  go_wp2_with (fail)
  all_goals go_ret
  all_goals (refine ⟨congrArg (fun b => Ending.returned (Value.bool b)) ?_, HN.out.2⟩; first | (simp [clashP, h1]; done) | (simp only [clashP]; simp [h1]; first | done | omega | (exfalso; rename_i hh; exact h2 (str_inj hh)) | (intro _; assumption)))
set_option maxRecDepth 100000 in
set_option maxHeartbeats 1000000 in
theorem clash_yn (ps pa : Int) (pc : ByteArray) (pf pu : Int) (qs : Int) (qf qu : Int) (w : World) : Calls Tryz.prog 17 #[.agg #[.int .i64 ps, .int .u32 pa, .string pc, .int .i64 pf, .int .i64 pu], .agg #[.int .i64 qs, .int .u32 pa, .string pc, .int .i64 qf, .int .i64 qu]] w fun e w' => e = .returned (.bool (decide (clashP ⟨ps, pa, pc, pf, pu⟩ ⟨qs, pa, pc, qf, qu⟩))) ∧ Below w.heap.size w w' := by
  have HN := Lib.hid (show HeldB w [(w.heap.size + 1, #[.int .i64 qs, .int .u32 pa, .string pc, .int .i64 qf, .int .i64 qu], 29), (w.heap.size, #[.int .i64 ps, .int .u32 pa, .string pc, .int .i64 pf, .int .i64 pu], 29)] ((w.alloc (.cells #[.int .i64 ps, .int .u32 pa, .string pc, .int .i64 pf, .int .i64 pu] 29)).alloc (.cells #[.int .i64 qs, .int .u32 pa, .string pc, .int .i64 qf, .int .i64 qu] 29)) from (by
    have h := ((HeldB.nil (Below.refl w.heap.size w)).new #[.int .i64 ps, .int .u32 pa, .string pc, .int .i64 pf, .int .i64 pu] 29).new #[.int .i64 qs, .int .u32 pa, .string pc, .int .i64 qf, .int .i64 qu] 29
    have e : (w.alloc (.cells #[.int .i64 ps, .int .u32 pa, .string pc, .int .i64 pf, .int .i64 pu] 29)).heap.size = w.heap.size + 1 := by simp
    rw [e] at h
    exact h))
  go_enter Tryz.func17, Tryz.ntmps17
  go_wp2_with (fail)
  all_goals go_ret
  all_goals (refine ⟨congrArg (fun b => Ending.returned (Value.bool b)) ?_, HN.out.2⟩; simp [clashP])
set_option maxRecDepth 100000 in
set_option maxHeartbeats 1000000 in
theorem clash_yyn (ps pa : Int) (pc : ByteArray) (pf pu : Int) (qs : Int) (qc : ByteArray) (qf qu : Int) (h2 : pc ≠ qc) (hr : ¬ rightPr ⟨ps, pa, pc, pf, pu⟩) (w : World) : Calls Tryz.prog 17 #[.agg #[.int .i64 ps, .int .u32 pa, .string pc, .int .i64 pf, .int .i64 pu], .agg #[.int .i64 qs, .int .u32 pa, .string qc, .int .i64 qf, .int .i64 qu]] w fun e w' => e = .returned (.bool (decide (clashP ⟨ps, pa, pc, pf, pu⟩ ⟨qs, pa, qc, qf, qu⟩))) ∧ Below w.heap.size w w' := by
  have HD := Lib.hid (show decide (rightPr ⟨ps, pa, pc, pf, pu⟩) = false from decide_eq_false hr)
  have HR := Lib.hid hr
  clear hr
  have HN := Lib.hid (show HeldB w [(w.heap.size + 1, #[.int .i64 qs, .int .u32 pa, .string qc, .int .i64 qf, .int .i64 qu], 29), (w.heap.size, #[.int .i64 ps, .int .u32 pa, .string pc, .int .i64 pf, .int .i64 pu], 29)] ((w.alloc (.cells #[.int .i64 ps, .int .u32 pa, .string pc, .int .i64 pf, .int .i64 pu] 29)).alloc (.cells #[.int .i64 qs, .int .u32 pa, .string qc, .int .i64 qf, .int .i64 qu] 29)) from (by
    have h := ((HeldB.nil (Below.refl w.heap.size w)).new #[.int .i64 ps, .int .u32 pa, .string pc, .int .i64 pf, .int .i64 pu] 29).new #[.int .i64 qs, .int .u32 pa, .string qc, .int .i64 qf, .int .i64 qu] 29
    have e : (w.alloc (.cells #[.int .i64 ps, .int .u32 pa, .string pc, .int .i64 pf, .int .i64 pu] 29)).heap.size = w.heap.size + 1 := by simp
    rw [e] at h
    exact h))
  go_enter Tryz.func17, Tryz.ntmps17
  go_wp2_with (go_at_call 18; first | ((with_reducible refine (tright_any ps pa pc pf pu _).mono ?_); rintro e w1 ⟨he, hx⟩; rw [HD.out] at he; subst he; replace HN := Lib.hid (HN.out.keep hx); clear hx; obtain ⟨p1_0, p1_1, p1_2, p1_3, p1_4⟩ := (HN.out).b0.cells5; obtain ⟨p0_0, p0_1, p0_2, p0_3, p0_4⟩ := (HN.out).tl.b0.cells5))
  all_goals go_ret
  all_goals (refine ⟨congrArg (fun b => Ending.returned (Value.bool b)) ?_, HN.out.2⟩; have hr := HR.out; first | (simp [clashP, h2, hr]; done) | (simp only [clashP]; simp [h2, hr]; first | done | omega | (exfalso; rename_i hh; exact h2 (str_inj hh)) | (intro _; assumption)))
set_option maxRecDepth 100000 in
set_option maxHeartbeats 1000000 in
theorem clash_yyyn (ps pa : Int) (pc : ByteArray) (pf pu : Int) (qs : Int) (qc : ByteArray) (qf qu : Int) (h2 : pc ≠ qc) (hr : rightPr ⟨ps, pa, pc, pf, pu⟩) (hq : ¬ rightPr ⟨qs, pa, qc, qf, qu⟩) (w : World) : Calls Tryz.prog 17 #[.agg #[.int .i64 ps, .int .u32 pa, .string pc, .int .i64 pf, .int .i64 pu], .agg #[.int .i64 qs, .int .u32 pa, .string qc, .int .i64 qf, .int .i64 qu]] w fun e w' => e = .returned (.bool (decide (clashP ⟨ps, pa, pc, pf, pu⟩ ⟨qs, pa, qc, qf, qu⟩))) ∧ Below w.heap.size w w' := by
  have HD := Lib.hid (show decide (rightPr ⟨ps, pa, pc, pf, pu⟩) = true from decide_eq_true hr)
  have HR := Lib.hid hr
  clear hr
  have HE := Lib.hid (show decide (rightPr ⟨qs, pa, qc, qf, qu⟩) = false from decide_eq_false hq)
  have HQ := Lib.hid hq
  clear hq
  have HN := Lib.hid (show HeldB w [(w.heap.size + 1, #[.int .i64 qs, .int .u32 pa, .string qc, .int .i64 qf, .int .i64 qu], 29), (w.heap.size, #[.int .i64 ps, .int .u32 pa, .string pc, .int .i64 pf, .int .i64 pu], 29)] ((w.alloc (.cells #[.int .i64 ps, .int .u32 pa, .string pc, .int .i64 pf, .int .i64 pu] 29)).alloc (.cells #[.int .i64 qs, .int .u32 pa, .string qc, .int .i64 qf, .int .i64 qu] 29)) from (by
    have h := ((HeldB.nil (Below.refl w.heap.size w)).new #[.int .i64 ps, .int .u32 pa, .string pc, .int .i64 pf, .int .i64 pu] 29).new #[.int .i64 qs, .int .u32 pa, .string qc, .int .i64 qf, .int .i64 qu] 29
    have e : (w.alloc (.cells #[.int .i64 ps, .int .u32 pa, .string pc, .int .i64 pf, .int .i64 pu] 29)).heap.size = w.heap.size + 1 := by simp
    rw [e] at h
    exact h))
  go_enter Tryz.func17, Tryz.ntmps17
  go_wp2_with (go_at_call 18; first | ((with_reducible refine (tright_any ps pa pc pf pu _).mono ?_); rintro e w1 ⟨he, hx⟩; rw [HD.out] at he; subst he; replace HN := Lib.hid (HN.out.keep hx); clear hx; obtain ⟨p1_0, p1_1, p1_2, p1_3, p1_4⟩ := (HN.out).b0.cells5; obtain ⟨p0_0, p0_1, p0_2, p0_3, p0_4⟩ := (HN.out).tl.b0.cells5) | ((with_reducible refine (tright_any qs pa qc qf qu _).mono ?_); rintro e w1 ⟨he, hx⟩; rw [HE.out] at he; subst he; replace HN := Lib.hid (HN.out.keep hx); clear hx; obtain ⟨p1_0, p1_1, p1_2, p1_3, p1_4⟩ := (HN.out).b0.cells5; obtain ⟨p0_0, p0_1, p0_2, p0_3, p0_4⟩ := (HN.out).tl.b0.cells5))
  all_goals go_ret
  all_goals (refine ⟨congrArg (fun b => Ending.returned (Value.bool b)) ?_, HN.out.2⟩; have hr := HR.out; have hq := HQ.out; first | (simp [clashP, h2, hr, hq]; done) | (simp only [clashP]; simp [h2, hr, hq]; first | done | omega | (exfalso; rename_i hh; exact h2 (str_inj hh)) | (intro _; assumption)))
set_option maxRecDepth 100000 in
set_option maxHeartbeats 1000000 in
theorem clash_yyyy (ps pa : Int) (pc : ByteArray) (pf pu : Int) (qs : Int) (qc : ByteArray) (qf qu : Int) (h2 : pc ≠ qc) (hr : rightPr ⟨ps, pa, pc, pf, pu⟩) (hq : rightPr ⟨qs, pa, qc, qf, qu⟩) (w : World) : Calls Tryz.prog 17 #[.agg #[.int .i64 ps, .int .u32 pa, .string pc, .int .i64 pf, .int .i64 pu], .agg #[.int .i64 qs, .int .u32 pa, .string qc, .int .i64 qf, .int .i64 qu]] w fun e w' => e = .returned (.bool (decide (clashP ⟨ps, pa, pc, pf, pu⟩ ⟨qs, pa, qc, qf, qu⟩))) ∧ Below w.heap.size w w' := by
  have HD := Lib.hid (show decide (rightPr ⟨ps, pa, pc, pf, pu⟩) = true from decide_eq_true hr)
  have HR := Lib.hid hr
  clear hr
  have HE := Lib.hid (show decide (rightPr ⟨qs, pa, qc, qf, qu⟩) = true from decide_eq_true hq)
  have HQ := Lib.hid hq
  clear hq
  have HN := Lib.hid (show HeldB w [(w.heap.size + 1, #[.int .i64 qs, .int .u32 pa, .string qc, .int .i64 qf, .int .i64 qu], 29), (w.heap.size, #[.int .i64 ps, .int .u32 pa, .string pc, .int .i64 pf, .int .i64 pu], 29)] ((w.alloc (.cells #[.int .i64 ps, .int .u32 pa, .string pc, .int .i64 pf, .int .i64 pu] 29)).alloc (.cells #[.int .i64 qs, .int .u32 pa, .string qc, .int .i64 qf, .int .i64 qu] 29)) from (by
    have h := ((HeldB.nil (Below.refl w.heap.size w)).new #[.int .i64 ps, .int .u32 pa, .string pc, .int .i64 pf, .int .i64 pu] 29).new #[.int .i64 qs, .int .u32 pa, .string qc, .int .i64 qf, .int .i64 qu] 29
    have e : (w.alloc (.cells #[.int .i64 ps, .int .u32 pa, .string pc, .int .i64 pf, .int .i64 pu] 29)).heap.size = w.heap.size + 1 := by simp
    rw [e] at h
    exact h))
  go_enter Tryz.func17, Tryz.ntmps17
  go_wp2_with (go_at_call 18; first | ((with_reducible refine (tright_any ps pa pc pf pu _).mono ?_); rintro e w1 ⟨he, hx⟩; rw [HD.out] at he; subst he; replace HN := Lib.hid (HN.out.keep hx); clear hx; obtain ⟨p1_0, p1_1, p1_2, p1_3, p1_4⟩ := (HN.out).b0.cells5; obtain ⟨p0_0, p0_1, p0_2, p0_3, p0_4⟩ := (HN.out).tl.b0.cells5) | ((with_reducible refine (tright_any qs pa qc qf qu _).mono ?_); rintro e w1 ⟨he, hx⟩; rw [HE.out] at he; subst he; replace HN := Lib.hid (HN.out.keep hx); clear hx; obtain ⟨p1_0, p1_1, p1_2, p1_3, p1_4⟩ := (HN.out).b0.cells5; obtain ⟨p0_0, p0_1, p0_2, p0_3, p0_4⟩ := (HN.out).tl.b0.cells5))
  all_goals go_ret
  all_goals (refine ⟨congrArg (fun b => Ending.returned (Value.bool b)) ?_, HN.out.2⟩; have hr := HR.out; have hq := HQ.out; first | (simp [clashP, h2, hr, hq]; done) | (simp only [clashP]; simp [h2, hr, hq]; first | done | omega | (exfalso; rename_i hh; exact h2 (str_inj hh)) | (intro _; assumption)))
end Go.Proofs.YtodjeidofgbdlaaGreatDoor
