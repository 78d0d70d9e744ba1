/- The bytes of a lease, by the reference. -/
import Derived.Test.YtihekjoeibljpaaNum
namespace Go.Proofs.Ytihekjoeibljpaa
open Go.ChangeShapes Go.WideShapes Go.ChangeAt Go.RowKit
set_option linter.unusedVariables false
set_option linter.unusedSimpArgs false

theorem news1 {w : World} {g : Nat} {u : Value} {t : TypeId} (h : Blk w g #[u] t) : ∀ j v, [u][j]? = some v → w.cell? ((⟨g, 0, none⟩ : Addr).add j) = some v := h.news

theorem RightP.ok0 {lb : Int} {lc : ByteArray} {lu lk lt lz lv : Int} (h : RightP lb lc lu lk lt lz lv) : 0 ≤ lu ∧ lu ≤ 1099511627776 := h.1.1
theorem RightP.ok1 {lb : Int} {lc : ByteArray} {lu lk lt lz lv : Int} (h : RightP lb lc lu lk lt lz lv) : 0 ≤ lk ∧ lk ≤ 1099511627776 := h.1.2.1
theorem RightP.ok2 {lb : Int} {lc : ByteArray} {lu lk lt lz lv : Int} (h : RightP lb lc lu lk lt lz lv) : 0 ≤ lt ∧ lt ≤ 1099511627776 := h.1.2.2.1
theorem RightP.ok3 {lb : Int} {lc : ByteArray} {lu lk lt lz lv : Int} (h : RightP lb lc lu lk lt lz lv) : 0 ≤ lz ∧ lz ≤ 1099511627776 := h.1.2.2.2.1
theorem RightP.ok4 {lb : Int} {lc : ByteArray} {lu lk lt lz lv : Int} (h : RightP lb lc lu lk lt lz lv) : 0 ≤ lv ∧ lv ≤ 1099511627776 := h.1.2.2.2.2
set_option maxRecDepth 100000 in
set_option maxHeartbeats 4000000 in
theorem renc_any (la lb : Int) (lc : ByteArray) (lu lk lt lz lv : Int) (wa : (Lit.int .u32 la).wf = true) (w : World) (hr : RightP lb lc lu lk lt lz lv) : Calls Try.prog 9 #[.agg #[.int .u32 la, .int .i64 lb, .string lc, .int .i64 lu, .int .i64 lk, .int .i64 lt, .int .i64 lz, .int .i64 lv]] w (EncPost la lb lc lu lk lt lz lv w) := by
  have hd : decide (RightP lb lc lu lk lt lz lv) = true := decide_eq_true hr
  have H32 := Lib.hid hr.size_le
  have hla : 0 ≤ la ∧ la ≤ 4294967295 := bounds_u32 wa
  have hla2 : la ≤ 1099511627776 := by omega
  have HR := Lib.hid hr
  clear hr
  obtain ⟨i0, hi, hz0, hz1, hz2⟩ := info_parts Try.info5
  go_enter Try.func9, Try.ntmps9
  go_upto_region 4 with (go_at_call 11; with_reducible refine (rright_any _ _ _ _ _ _ _ _ _).mono ?_; rintro e wr1 ⟨rfl, hx⟩; have H1 := Lib.hid (((HeldB.nil (low0 w (.cells #[.int .u32 la, .int .i64 lb, .string lc, .int .i64 lu, .int .i64 lk, .int .i64 lt, .int .i64 lz, .int .i64 lv] 25))).cons (Blk.new w #[.int .u32 la, .int .i64 lb, .string lc, .int .i64 lu, .int .i64 lk, .int .i64 lt, .int .i64 lz, .int .i64 lv] 25)).keep hx); clear hx; obtain ⟨q0_0, q0_1, q0_2, q0_3, q0_4, q0_5, q0_6, q0_7⟩ := (H1.out).b0.cells8)
  have hsz := H1.out.b0.lt
  refine wp_region_noPanic ?_
  refine wp_region_held_drew (S := HeldB w [(w.heap.size, #[.int .u32 la, .int .i64 lb, .string lc, .int .i64 lu, .int .i64 lk, .int .i64 lt, .int .i64 lz, .int .i64 lv], 25)]) (by kernel_rfl) H1.out.drew (fun hHeld => ?_)
  refine wpAnyH_take (i := 0) (oi := { dst := some 10, op := Go.Op.fieldAddr 25 (Go.Operand.tmp 1) 0, type := 0, pos := "ref.go:43", after := #[], guard := none }) (v := ?vr0_0) rfl (by kernel_rfl) (by kernel_rfl) (by kernel_rfl) (fun _ _ _ h => h) (Or.inl ⟨by rfl, ?yr0_0⟩) (by assumption) ?rr0_0
  case yr0_0 => (intro wS hSw; go_simp; try (with_reducible rfl))
  try simp only [Act.put, List.setIfInBounds_toArray, List.set_cons_zero, List.set_cons_succ]
  refine wpAnyH_take (i := 1) (oi := { dst := some 11, op := Go.Op.load 23 (Go.Operand.tmp 10), type := 23, pos := "ref.go:43", after := #[{ on := 0, ground := Go.Ground.data }], guard := none }) (v := ?vr1_1) rfl (by kernel_rfl) (by kernel_rfl) (by kernel_rfl) (fun _ _ _ h => h) (Or.inl ⟨by rfl, ?yr1_1⟩) (by assumption) ?rr1_1
  case yr1_1 => (intro wS hSw; obtain ⟨q0_0, q0_1, q0_2, q0_3, q0_4, q0_5, q0_6, q0_7⟩ := (hSw).b0.cells8; go_simp; try (with_reducible rfl))
  try simp only [Act.put, List.setIfInBounds_toArray, List.set_cons_zero, List.set_cons_succ]
  refine wpAnyH_take (i := 2) (oi := { dst := some 12, op := Go.Op.convert 23 3 (Go.Operand.tmp 11), type := 3, pos := "ref.go:43", after := #[{ on := 1, ground := Go.Ground.data }], guard := none }) (v := .int .i64 la) rfl (by kernel_rfl) (by kernel_rfl) (by kernel_rfl) (fun _ _ _ h => h) (Or.inl ⟨by rfl, ?yr2_2⟩) (by assumption) ?rr2_2
  case yr2_2 => (intro wS hSw; go_simp; try (exact IntWalk.i64_in _ (by omega)))
  try simp only [Act.put, List.setIfInBounds_toArray, List.set_cons_zero, List.set_cons_succ]
  refine wpAnyH_take (i := 4) (oi := { dst := some 14, op := Go.Op.fieldAddr 25 (Go.Operand.tmp 1) 1, type := 0, pos := "ref.go:43", after := #[], guard := none }) (v := ?vr4_3) rfl (by kernel_rfl) (by kernel_rfl) (by kernel_rfl) (fun _ _ _ h => h) (Or.inl ⟨by rfl, ?yr4_3⟩) (by assumption) ?rr4_3
  case yr4_3 => (intro wS hSw; go_simp; try (with_reducible rfl))
  try simp only [Act.put, List.setIfInBounds_toArray, List.set_cons_zero, List.set_cons_succ]
  refine wpAnyH_take (i := 5) (oi := { dst := some 15, op := Go.Op.load 3 (Go.Operand.tmp 14), type := 3, pos := "ref.go:43", after := #[{ on := 4, ground := Go.Ground.data }], guard := none }) (v := ?vr5_4) rfl (by kernel_rfl) (by kernel_rfl) (by kernel_rfl) (fun _ _ _ h => h) (Or.inl ⟨by rfl, ?yr5_4⟩) (by assumption) ?rr5_4
  case yr5_4 => (intro wS hSw; obtain ⟨q0_0, q0_1, q0_2, q0_3, q0_4, q0_5, q0_6, q0_7⟩ := (hSw).b0.cells8; go_simp; try (with_reducible rfl))
  try simp only [Act.put, List.setIfInBounds_toArray, List.set_cons_zero, List.set_cons_succ]
  refine wpAnyH_take (i := 6) (oi := { dst := some 16, op := Go.Op.convert 3 5 (Go.Operand.tmp 15), type := 5, pos := "ref.go:43", after := #[{ on := 5, ground := Go.Ground.data }], guard := none }) (v := .int .u8 (lb % 256)) rfl (by kernel_rfl) (by kernel_rfl) (by kernel_rfl) (fun _ _ _ h => h) (Or.inl ⟨by rfl, ?yr6_5⟩) (by assumption) ?rr6_5
  case yr6_5 => (intro wS hSw; go_simp; try (exact IntKind.wrap_u8 _))
  try simp only [Act.put, List.setIfInBounds_toArray, List.set_cons_zero, List.set_cons_succ]
  refine wpAnyH_ready (rs := [3, 7]) (by kernel_rfl) (by simp) ?_
  refine AllReadyH.cons (o := { dst := some 13, op := Go.Op.call { callee := Go.Callee.value (Go.Operand.func 19), args := #[Go.Operand.tmp 12, Go.Operand.const (Go.Value.int Go.IntKind.i64 4)], argTypes := #[3, 3] }, type := 27, pos := "ref.go:43", after := #[{ on := 2, ground := Go.Ground.data }], guard := none }) rfl (fun K hK => ?_) ?_
  · go_simp
    (go_at_call 19; with_reducible refine (number4g la hla.1 hla2 _).mono ?_)
    rintro e w5 ⟨g5, hg, rfl, hn, hx⟩
    go_wp2_with fail
    have hz9 : w.heap.size + 1 ≤ g5 := Nat.le_trans hHeld.b0.lt hg
    refine hK.out _ _ (hHeld.keep hx) (fun hHeld => ?_)
    clear hK K
    have HN := Lib.hid (hn.owns (base := w.heap.size + 1) (n := 4) hz9 rfl (by decide))
    clear hn hx hg
    try simp only [Act.put, List.setIfInBounds_toArray, List.set_cons_zero, List.set_cons_succ]
    refine wpAnyH_ready (rs := [7]) (by kernel_rfl) (by simp) ?_
    refine AllReadyH.cons (o := { dst := some 17, op := Go.Op.buildSlice 27 1 #[(0, Go.Operand.tmp 16)], type := 27, pos := "ref.go:43", after := #[{ on := 6, ground := Go.Ground.data }], guard := none }) rfl (fun K hK => ?_) AllReadyH.nil
    go_simp
    refine hK.out _ _ (hHeld.alloc (.cells #[.int .u8 (lb % 256)] 5)) (fun hHeld => ?_)
    clear hK K
    have HB := Lib.hid (Blk.new w5 #[.int .u8 (lb % 256)] 5)
    have HN := Lib.hid (HN.out.alloc (.cells #[.int .u8 (lb % 256)] 5))
    try simp only [Act.put, List.setIfInBounds_toArray, List.set_cons_zero, List.set_cons_succ]
    refine wpAnyH_ready (rs := [8]) (by kernel_rfl) (by simp) ?_
    refine AllReadyH.cons (o := { dst := some 18, op := Go.Op.call { callee := Go.Callee.builtin Go.Builtin.append, args := #[Go.Operand.tmp 13, Go.Operand.tmp 17], argTypes := #[27, 27] }, type := 27, pos := "ref.go:43", after := #[{ on := 3, ground := Go.Ground.data }, { on := 7, ground := Go.Ground.data }, { on := 3, ground := Go.Ground.chain }], guard := none }) rfl (fun K hK => ?_) AllReadyH.nil
    rw [if_pos (by rfl)]
    refine wp_append_own _ (.tmp 13) (.tmp 17) 27 rfl (w.heap.size + 1) 5 i0 (.int .u8 0) 1 1 Try.underlying27 hi hz0 hz1 hz2 rfl (by decide) _ 4 _ rfl HN.out ⟨_, 0, none⟩ 1 1 [.int .u8 (lb % 256)] rfl rfl (news1 HB.out) (by intro u hu; simp at hu; subst hu; rfl) (by decide) (by decide) (by have := hHeld.b0.lt; omega) ?_
    intro v1 w6 hown1 hgr1 _
    refine hK.out _ _ (hHeld.grownOwn HN.out hgr1 (by omega) (by simp)) (fun hHeld => ?_)
    clear hK K
    have HO1 := Lib.hid hown1
    clear hown1 hgr1
    try simp only [Act.put, List.setIfInBounds_toArray, List.set_cons_zero, List.set_cons_succ]
    refine wpAnyH_take (i := 9) (oi := { dst := some 5, op := Go.Op.assign (Go.Operand.tmp 18), type := 27, pos := "ref.go:43", after := #[{ on := 8, ground := Go.Ground.data }, { on := 8, ground := Go.Ground.chain }, { on := 0, ground := Go.Ground.phase }, { on := 1, ground := Go.Ground.phase }, { on := 2, ground := Go.Ground.phase }, { on := 3, ground := Go.Ground.phase }, { on := 4, ground := Go.Ground.phase }, { on := 5, ground := Go.Ground.phase }, { on := 6, ground := Go.Ground.phase }, { on := 7, ground := Go.Ground.phase }, { on := 8, ground := Go.Ground.phase }], guard := none }) (v := ?vr9_6) rfl (by kernel_rfl) (by kernel_rfl) (by kernel_rfl) (fun _ _ _ h => h) (Or.inl ⟨by rfl, ?yr9_6⟩) (by assumption) ?rr9_6
    case yr9_6 => (intro wS hSw; go_simp; try (with_reducible rfl))
    try simp only [Act.put, List.setIfInBounds_toArray, List.set_cons_zero, List.set_cons_succ]
    refine wpAnyH_done (by kernel_rfl) ?_ _
    refine NoPanic.normal ?_
    have HH0 := Lib.hid hHeld
    obtain ⟨wx, hwx⟩ : ∃ wx : World, wx = w6 := ⟨_, rfl⟩
    subst hwx
    obtain ⟨p00_0, p00_1, p00_2, p00_3, p00_4, p00_5, p00_6, p00_7⟩ := (HH0.out).b0.cells8
    clear hHeld HN HB
    go_wp2_with (first
      | (go_at_call 19; (with_reducible refine (number6g lu HR.out.ok0.1 HR.out.ok0.2 _).mono ?_); rintro e wn0 ⟨g6, _, rfl, hn, hx⟩; have HN0 := Lib.hid hn; have HP0 := Lib.hid (own_keep HO1.out hx); have HG0 := Lib.hid (HH0.out.keep hx); clear hn hx)
      | (at_builtin; refine wpList_append_own _ rfl (.tmp 19) (.tmp 22) 27 rfl (w.heap.size + 1) 5 i0 (.int .u8 0) 1 1 Try.underlying27 hi hz0 hz1 hz2 rfl (by decide) _ (5 + 6 * 0) _ rfl HP0.out ⟨_, 0, none⟩ 6 6 _ rfl rfl (HN0.out.news) (by intro u hu; simp at hu; rcases hu with rfl | rfl | rfl | rfl | rfl | rfl <;> rfl) (by decide) (by decide) (by have := HG0.out.b0.lt; omega) ?_; intro va0 wa0 hown hgr _; have HO2 := Lib.hid hown; have HH1 := Lib.hid (HG0.out.grownOwn HP0.out hgr (by omega) (by simp)); clear hown hgr; obtain ⟨p10_0, p10_1, p10_2, p10_3, p10_4, p10_5, p10_6, p10_7⟩ := (HH1.out).b0.cells8)
      | (go_at_call 19; (with_reducible refine (number6g lk HR.out.ok1.1 HR.out.ok1.2 _).mono ?_); rintro e wn1 ⟨g6, _, rfl, hn, hx⟩; have HN1 := Lib.hid hn; have HP1 := Lib.hid (own_keep HO2.out hx); have HG1 := Lib.hid (HH1.out.keep hx); clear hn hx)
      | (at_builtin; refine wpList_append_own _ rfl (.tmp 24) (.tmp 27) 27 rfl (w.heap.size + 1) 5 i0 (.int .u8 0) 1 1 Try.underlying27 hi hz0 hz1 hz2 rfl (by decide) _ (5 + 6 * 1) _ rfl HP1.out ⟨_, 0, none⟩ 6 6 _ rfl rfl (HN1.out.news) (by intro u hu; simp at hu; rcases hu with rfl | rfl | rfl | rfl | rfl | rfl <;> rfl) (by decide) (by decide) (by have := HG1.out.b0.lt; omega) ?_; intro va1 wa1 hown hgr _; have HO3 := Lib.hid hown; have HH2 := Lib.hid (HG1.out.grownOwn HP1.out hgr (by omega) (by simp)); clear hown hgr; obtain ⟨p20_0, p20_1, p20_2, p20_3, p20_4, p20_5, p20_6, p20_7⟩ := (HH2.out).b0.cells8)
      | (go_at_call 19; (with_reducible refine (number6g lt HR.out.ok2.1 HR.out.ok2.2 _).mono ?_); rintro e wn2 ⟨g6, _, rfl, hn, hx⟩; have HN2 := Lib.hid hn; have HP2 := Lib.hid (own_keep HO3.out hx); have HG2 := Lib.hid (HH2.out.keep hx); clear hn hx)
      | (at_builtin; refine wpList_append_own _ rfl (.tmp 29) (.tmp 32) 27 rfl (w.heap.size + 1) 5 i0 (.int .u8 0) 1 1 Try.underlying27 hi hz0 hz1 hz2 rfl (by decide) _ (5 + 6 * 2) _ rfl HP2.out ⟨_, 0, none⟩ 6 6 _ rfl rfl (HN2.out.news) (by intro u hu; simp at hu; rcases hu with rfl | rfl | rfl | rfl | rfl | rfl <;> rfl) (by decide) (by decide) (by have := HG2.out.b0.lt; omega) ?_; intro va2 wa2 hown hgr _; have HO4 := Lib.hid hown; have HH3 := Lib.hid (HG2.out.grownOwn HP2.out hgr (by omega) (by simp)); clear hown hgr; obtain ⟨p30_0, p30_1, p30_2, p30_3, p30_4, p30_5, p30_6, p30_7⟩ := (HH3.out).b0.cells8)
      | (go_at_call 19; (with_reducible refine (number6g lz HR.out.ok3.1 HR.out.ok3.2 _).mono ?_); rintro e wn3 ⟨g6, _, rfl, hn, hx⟩; have HN3 := Lib.hid hn; have HP3 := Lib.hid (own_keep HO4.out hx); have HG3 := Lib.hid (HH3.out.keep hx); clear hn hx)
      | (at_builtin; refine wpList_append_own _ rfl (.tmp 34) (.tmp 37) 27 rfl (w.heap.size + 1) 5 i0 (.int .u8 0) 1 1 Try.underlying27 hi hz0 hz1 hz2 rfl (by decide) _ (5 + 6 * 3) _ rfl HP3.out ⟨_, 0, none⟩ 6 6 _ rfl rfl (HN3.out.news) (by intro u hu; simp at hu; rcases hu with rfl | rfl | rfl | rfl | rfl | rfl <;> rfl) (by decide) (by decide) (by have := HG3.out.b0.lt; omega) ?_; intro va3 wa3 hown hgr _; have HO5 := Lib.hid hown; have HH4 := Lib.hid (HG3.out.grownOwn HP3.out hgr (by omega) (by simp)); clear hown hgr; obtain ⟨p40_0, p40_1, p40_2, p40_3, p40_4, p40_5, p40_6, p40_7⟩ := (HH4.out).b0.cells8)
      | (go_at_call 19; (with_reducible refine (number6g lv HR.out.ok4.1 HR.out.ok4.2 _).mono ?_); rintro e wn4 ⟨g6, _, rfl, hn, hx⟩; have HN4 := Lib.hid hn; have HP4 := Lib.hid (own_keep HO5.out hx); have HG4 := Lib.hid (HH4.out.keep hx); clear hn hx)
      | (at_builtin; refine wpList_append_own _ rfl (.tmp 39) (.tmp 42) 27 rfl (w.heap.size + 1) 5 i0 (.int .u8 0) 1 1 Try.underlying27 hi hz0 hz1 hz2 rfl (by decide) _ (5 + 6 * 4) _ rfl HP4.out ⟨_, 0, none⟩ 6 6 _ rfl rfl (HN4.out.news) (by intro u hu; simp at hu; rcases hu with rfl | rfl | rfl | rfl | rfl | rfl <;> rfl) (by decide) (by decide) (by have := HG4.out.b0.lt; omega) ?_; intro va4 wa4 hown hgr _; have HO6 := Lib.hid hown; have HH5 := Lib.hid (HG4.out.grownOwn HP4.out hgr (by omega) (by simp)); clear hown hgr; obtain ⟨p50_0, p50_1, p50_2, p50_3, p50_4, p50_5, p50_6, p50_7⟩ := (HH5.out).b0.cells8)
      | (at_builtin; refine wpList_append_own _ rfl (.tmp 44) (.tmp 49) 27 rfl (w.heap.size + 1) 5 i0 (.int .u8 0) 1 1 Try.underlying27 hi hz0 hz1 hz2 rfl (by decide) _ (5 + 6 * 5) _ rfl (HO6.out.alloc (.cells #[.int .u8 ((lc.size : Int) % 256)] 5)) ⟨_, 0, none⟩ 1 1 [.int .u8 ((lc.size : Int) % 256)] rfl rfl (cell_one_new _ _ _) (by intro u hu; simp at hu; subst hu; rfl) (by decide) (by decide) (by have := HH5.out.b0.lt; simp; omega) ?_; intro va6 wa6 hown hgr _; have HO7 := Lib.hid hown; have HH6 := Lib.hid ((HH5.out.alloc (.cells #[.int .u8 ((lc.size : Int) % 256)] 5)).grownOwn (HO6.out.alloc (.cells #[.int .u8 ((lc.size : Int) % 256)] 5)) hgr (by omega) (by simp)); clear hown hgr; obtain ⟨p60_0, p60_1, p60_2, p60_3, p60_4, p60_5, p60_6, p60_7⟩ := (HH6.out).b0.cells8)
      | (refine Lib.wpList_append_own_string _ rfl (.tmp 51) (.tmp 53) 27 9 rfl (w.heap.size + 1) 5 i0 Try.underlying27 Try.underlying9 hi hz0 hz1 hz2 va6 (5 + 6 * 5 + 1) _ rfl HO7.out lc rfl (by have := H32.out; unfold maxLen; omega) (by have := H32.out; omega) (by have := HH6.out.b0.lt; omega) ?_; intro va7 wa7 hown hgr _; have HO8 := Lib.hid hown; have HH7 := Lib.hid (HH6.out.grownOwn HO7.out hgr (by omega) (by simp)); clear hown hgr))
    go_ret2
    exact ⟨_, rfl, enc_own HO8.out, HH7.out.2⟩
  refine AllReadyH.cons (o := { dst := some 17, op := Go.Op.buildSlice 27 1 #[(0, Go.Operand.tmp 16)], type := 27, pos := "ref.go:43", after := #[{ on := 6, ground := Go.Ground.data }], guard := none }) rfl (fun K hK => ?_) ?_
  · go_simp
    refine hK.out _ _ (hHeld.alloc (.cells #[.int .u8 (lb % 256)] 5)) (fun hHeld => ?_)
    clear hK K
    have HB := Lib.hid (Blk.new wr1.drew #[.int .u8 (lb % 256)] 5)
    try simp only [Act.put, List.setIfInBounds_toArray, List.set_cons_zero, List.set_cons_succ]
    refine wpAnyH_ready (rs := [3]) (by kernel_rfl) (by simp) ?_
    refine AllReadyH.cons (o := { dst := some 13, op := Go.Op.call { callee := Go.Callee.value (Go.Operand.func 19), args := #[Go.Operand.tmp 12, Go.Operand.const (Go.Value.int Go.IntKind.i64 4)], argTypes := #[3, 3] }, type := 27, pos := "ref.go:43", after := #[{ on := 2, ground := Go.Ground.data }], guard := none }) rfl (fun K hK => ?_) AllReadyH.nil
    go_simp
    (go_at_call 19; with_reducible refine (number4g la hla.1 hla2 _).mono ?_)
    rintro e w5 ⟨g5, hg, rfl, hn, hx⟩
    go_wp2_with fail
    have hz9 : w.heap.size + 1 ≤ g5 := Nat.le_trans hHeld.b0.lt hg
    refine hK.out _ _ (hHeld.keep hx) (fun hHeld => ?_)
    clear hK K
    have HB := Lib.hid (HB.out.keep hx)
    have HN := Lib.hid (hn.owns (base := w.heap.size + 1) (n := 4) hz9 rfl (by decide))
    clear hn hx hg
    try simp only [Act.put, List.setIfInBounds_toArray, List.set_cons_zero, List.set_cons_succ]
    refine wpAnyH_ready (rs := [8]) (by kernel_rfl) (by simp) ?_
    refine AllReadyH.cons (o := { dst := some 18, op := Go.Op.call { callee := Go.Callee.builtin Go.Builtin.append, args := #[Go.Operand.tmp 13, Go.Operand.tmp 17], argTypes := #[27, 27] }, type := 27, pos := "ref.go:43", after := #[{ on := 3, ground := Go.Ground.data }, { on := 7, ground := Go.Ground.data }, { on := 3, ground := Go.Ground.chain }], guard := none }) rfl (fun K hK => ?_) AllReadyH.nil
    rw [if_pos (by rfl)]
    refine wp_append_own _ (.tmp 13) (.tmp 17) 27 rfl (w.heap.size + 1) 5 i0 (.int .u8 0) 1 1 Try.underlying27 hi hz0 hz1 hz2 rfl (by decide) _ 4 _ rfl HN.out ⟨_, 0, none⟩ 1 1 [.int .u8 (lb % 256)] rfl rfl (news1 HB.out) (by intro u hu; simp at hu; subst hu; rfl) (by decide) (by decide) (by have := hHeld.b0.lt; omega) ?_
    intro v1 w6 hown1 hgr1 _
    refine hK.out _ _ (hHeld.grownOwn HN.out hgr1 (by omega) (by simp)) (fun hHeld => ?_)
    clear hK K
    have HO1 := Lib.hid hown1
    clear hown1 hgr1
    try simp only [Act.put, List.setIfInBounds_toArray, List.set_cons_zero, List.set_cons_succ]
    refine wpAnyH_take (i := 9) (oi := { dst := some 5, op := Go.Op.assign (Go.Operand.tmp 18), type := 27, pos := "ref.go:43", after := #[{ on := 8, ground := Go.Ground.data }, { on := 8, ground := Go.Ground.chain }, { on := 0, ground := Go.Ground.phase }, { on := 1, ground := Go.Ground.phase }, { on := 2, ground := Go.Ground.phase }, { on := 3, ground := Go.Ground.phase }, { on := 4, ground := Go.Ground.phase }, { on := 5, ground := Go.Ground.phase }, { on := 6, ground := Go.Ground.phase }, { on := 7, ground := Go.Ground.phase }, { on := 8, ground := Go.Ground.phase }], guard := none }) (v := ?vr9_7) rfl (by kernel_rfl) (by kernel_rfl) (by kernel_rfl) (fun _ _ _ h => h) (Or.inl ⟨by rfl, ?yr9_7⟩) (by assumption) ?rr9_7
    case yr9_7 => (intro wS hSw; go_simp; try (with_reducible rfl))
    try simp only [Act.put, List.setIfInBounds_toArray, List.set_cons_zero, List.set_cons_succ]
    refine wpAnyH_done (by kernel_rfl) ?_ _
    refine NoPanic.normal ?_
    have HH0 := Lib.hid hHeld
    obtain ⟨wx, hwx⟩ : ∃ wx : World, wx = w6 := ⟨_, rfl⟩
    subst hwx
    obtain ⟨p00_0, p00_1, p00_2, p00_3, p00_4, p00_5, p00_6, p00_7⟩ := (HH0.out).b0.cells8
    clear hHeld HN HB
    go_wp2_with (first
      | (go_at_call 19; (with_reducible refine (number6g lu HR.out.ok0.1 HR.out.ok0.2 _).mono ?_); rintro e wn0 ⟨g6, _, rfl, hn, hx⟩; have HN0 := Lib.hid hn; have HP0 := Lib.hid (own_keep HO1.out hx); have HG0 := Lib.hid (HH0.out.keep hx); clear hn hx)
      | (at_builtin; refine wpList_append_own _ rfl (.tmp 19) (.tmp 22) 27 rfl (w.heap.size + 1) 5 i0 (.int .u8 0) 1 1 Try.underlying27 hi hz0 hz1 hz2 rfl (by decide) _ (5 + 6 * 0) _ rfl HP0.out ⟨_, 0, none⟩ 6 6 _ rfl rfl (HN0.out.news) (by intro u hu; simp at hu; rcases hu with rfl | rfl | rfl | rfl | rfl | rfl <;> rfl) (by decide) (by decide) (by have := HG0.out.b0.lt; omega) ?_; intro va0 wa0 hown hgr _; have HO2 := Lib.hid hown; have HH1 := Lib.hid (HG0.out.grownOwn HP0.out hgr (by omega) (by simp)); clear hown hgr; obtain ⟨p10_0, p10_1, p10_2, p10_3, p10_4, p10_5, p10_6, p10_7⟩ := (HH1.out).b0.cells8)
      | (go_at_call 19; (with_reducible refine (number6g lk HR.out.ok1.1 HR.out.ok1.2 _).mono ?_); rintro e wn1 ⟨g6, _, rfl, hn, hx⟩; have HN1 := Lib.hid hn; have HP1 := Lib.hid (own_keep HO2.out hx); have HG1 := Lib.hid (HH1.out.keep hx); clear hn hx)
      | (at_builtin; refine wpList_append_own _ rfl (.tmp 24) (.tmp 27) 27 rfl (w.heap.size + 1) 5 i0 (.int .u8 0) 1 1 Try.underlying27 hi hz0 hz1 hz2 rfl (by decide) _ (5 + 6 * 1) _ rfl HP1.out ⟨_, 0, none⟩ 6 6 _ rfl rfl (HN1.out.news) (by intro u hu; simp at hu; rcases hu with rfl | rfl | rfl | rfl | rfl | rfl <;> rfl) (by decide) (by decide) (by have := HG1.out.b0.lt; omega) ?_; intro va1 wa1 hown hgr _; have HO3 := Lib.hid hown; have HH2 := Lib.hid (HG1.out.grownOwn HP1.out hgr (by omega) (by simp)); clear hown hgr; obtain ⟨p20_0, p20_1, p20_2, p20_3, p20_4, p20_5, p20_6, p20_7⟩ := (HH2.out).b0.cells8)
      | (go_at_call 19; (with_reducible refine (number6g lt HR.out.ok2.1 HR.out.ok2.2 _).mono ?_); rintro e wn2 ⟨g6, _, rfl, hn, hx⟩; have HN2 := Lib.hid hn; have HP2 := Lib.hid (own_keep HO3.out hx); have HG2 := Lib.hid (HH2.out.keep hx); clear hn hx)
      | (at_builtin; refine wpList_append_own _ rfl (.tmp 29) (.tmp 32) 27 rfl (w.heap.size + 1) 5 i0 (.int .u8 0) 1 1 Try.underlying27 hi hz0 hz1 hz2 rfl (by decide) _ (5 + 6 * 2) _ rfl HP2.out ⟨_, 0, none⟩ 6 6 _ rfl rfl (HN2.out.news) (by intro u hu; simp at hu; rcases hu with rfl | rfl | rfl | rfl | rfl | rfl <;> rfl) (by decide) (by decide) (by have := HG2.out.b0.lt; omega) ?_; intro va2 wa2 hown hgr _; have HO4 := Lib.hid hown; have HH3 := Lib.hid (HG2.out.grownOwn HP2.out hgr (by omega) (by simp)); clear hown hgr; obtain ⟨p30_0, p30_1, p30_2, p30_3, p30_4, p30_5, p30_6, p30_7⟩ := (HH3.out).b0.cells8)
      | (go_at_call 19; (with_reducible refine (number6g lz HR.out.ok3.1 HR.out.ok3.2 _).mono ?_); rintro e wn3 ⟨g6, _, rfl, hn, hx⟩; have HN3 := Lib.hid hn; have HP3 := Lib.hid (own_keep HO4.out hx); have HG3 := Lib.hid (HH3.out.keep hx); clear hn hx)
      | (at_builtin; refine wpList_append_own _ rfl (.tmp 34) (.tmp 37) 27 rfl (w.heap.size + 1) 5 i0 (.int .u8 0) 1 1 Try.underlying27 hi hz0 hz1 hz2 rfl (by decide) _ (5 + 6 * 3) _ rfl HP3.out ⟨_, 0, none⟩ 6 6 _ rfl rfl (HN3.out.news) (by intro u hu; simp at hu; rcases hu with rfl | rfl | rfl | rfl | rfl | rfl <;> rfl) (by decide) (by decide) (by have := HG3.out.b0.lt; omega) ?_; intro va3 wa3 hown hgr _; have HO5 := Lib.hid hown; have HH4 := Lib.hid (HG3.out.grownOwn HP3.out hgr (by omega) (by simp)); clear hown hgr; obtain ⟨p40_0, p40_1, p40_2, p40_3, p40_4, p40_5, p40_6, p40_7⟩ := (HH4.out).b0.cells8)
      | (go_at_call 19; (with_reducible refine (number6g lv HR.out.ok4.1 HR.out.ok4.2 _).mono ?_); rintro e wn4 ⟨g6, _, rfl, hn, hx⟩; have HN4 := Lib.hid hn; have HP4 := Lib.hid (own_keep HO5.out hx); have HG4 := Lib.hid (HH4.out.keep hx); clear hn hx)
      | (at_builtin; refine wpList_append_own _ rfl (.tmp 39) (.tmp 42) 27 rfl (w.heap.size + 1) 5 i0 (.int .u8 0) 1 1 Try.underlying27 hi hz0 hz1 hz2 rfl (by decide) _ (5 + 6 * 4) _ rfl HP4.out ⟨_, 0, none⟩ 6 6 _ rfl rfl (HN4.out.news) (by intro u hu; simp at hu; rcases hu with rfl | rfl | rfl | rfl | rfl | rfl <;> rfl) (by decide) (by decide) (by have := HG4.out.b0.lt; omega) ?_; intro va4 wa4 hown hgr _; have HO6 := Lib.hid hown; have HH5 := Lib.hid (HG4.out.grownOwn HP4.out hgr (by omega) (by simp)); clear hown hgr; obtain ⟨p50_0, p50_1, p50_2, p50_3, p50_4, p50_5, p50_6, p50_7⟩ := (HH5.out).b0.cells8)
      | (at_builtin; refine wpList_append_own _ rfl (.tmp 44) (.tmp 49) 27 rfl (w.heap.size + 1) 5 i0 (.int .u8 0) 1 1 Try.underlying27 hi hz0 hz1 hz2 rfl (by decide) _ (5 + 6 * 5) _ rfl (HO6.out.alloc (.cells #[.int .u8 ((lc.size : Int) % 256)] 5)) ⟨_, 0, none⟩ 1 1 [.int .u8 ((lc.size : Int) % 256)] rfl rfl (cell_one_new _ _ _) (by intro u hu; simp at hu; subst hu; rfl) (by decide) (by decide) (by have := HH5.out.b0.lt; simp; omega) ?_; intro va6 wa6 hown hgr _; have HO7 := Lib.hid hown; have HH6 := Lib.hid ((HH5.out.alloc (.cells #[.int .u8 ((lc.size : Int) % 256)] 5)).grownOwn (HO6.out.alloc (.cells #[.int .u8 ((lc.size : Int) % 256)] 5)) hgr (by omega) (by simp)); clear hown hgr; obtain ⟨p60_0, p60_1, p60_2, p60_3, p60_4, p60_5, p60_6, p60_7⟩ := (HH6.out).b0.cells8)
      | (refine Lib.wpList_append_own_string _ rfl (.tmp 51) (.tmp 53) 27 9 rfl (w.heap.size + 1) 5 i0 Try.underlying27 Try.underlying9 hi hz0 hz1 hz2 va6 (5 + 6 * 5 + 1) _ rfl HO7.out lc rfl (by have := H32.out; unfold maxLen; omega) (by have := H32.out; omega) (by have := HH6.out.b0.lt; omega) ?_; intro va7 wa7 hown hgr _; have HO8 := Lib.hid hown; have HH7 := Lib.hid (HH6.out.grownOwn HO7.out hgr (by omega) (by simp)); clear hown hgr))
    go_ret2
    exact ⟨_, rfl, enc_own HO8.out, HH7.out.2⟩
  exact AllReadyH.nil

end Go.Proofs.Ytihekjoeibljpaa
