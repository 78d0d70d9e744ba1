/- What is told. -/
import Derived.Test.YtkpgchhbeebgkaaTak
namespace Go.Proofs.Ytkpgchhbeebgkaa
open Go.ChangeShapes Go.WideShapes Go.ChangeAt Go.RowKit
set_option linter.unusedVariables false
set_option linter.unusedSimpArgs false

set_option maxRecDepth 100000 in
set_option maxHeartbeats 4000000 in
theorem told_any (m0 m1 m2 m3 m4 ma mb : Int) (mc : ByteArray) (mp mt : Int) (mo : Bool) (w : World) : Calls Try.prog 17 #[.agg #[.int .i64 m0, .int .i64 m1, .int .i64 m2, .int .i64 m3, .int .i64 m4, .int .u32 ma, .int .i64 mb, .string mc, .int .i64 mp, .int .i64 mt, .bool mo]] w fun e w' => e = .returned ((⟨mb, mc, 0, 0, 0, if mb = 4 then clkAdd mt 0 else 0, verV mb mp mt⟩ : Lz).val ma) ∧ Below w.heap.size w w' := by
  have H0 := Lib.hid (((HeldB.nil (lowA (low0 w (.cells #[.int .i64 m0, .int .i64 m1, .int .i64 m2, .int .i64 m3, .int .i64 m4, .int .u32 ma, .int .i64 mb, .string mc, .int .i64 mp, .int .i64 mt, .bool mo] 27)) (.cells #[.int .u32 0, .int .i64 0, .string { data := #[] }, .int .i64 0, .int .i64 0, .int .i64 0, .int .i64 0, .int .i64 0] 25))).cons (Blk.new2' w #[.int .i64 m0, .int .i64 m1, .int .i64 m2, .int .i64 m3, .int .i64 m4, .int .u32 ma, .int .i64 mb, .string mc, .int .i64 mp, .int .i64 mt, .bool mo] 27 (.cells #[.int .u32 0, .int .i64 0, .string { data := #[] }, .int .i64 0, .int .i64 0, .int .i64 0, .int .i64 0, .int .i64 0] 25))).cons (Blk.new2 w (.cells #[.int .i64 m0, .int .i64 m1, .int .i64 m2, .int .i64 m3, .int .i64 m4, .int .u32 ma, .int .i64 mb, .string mc, .int .i64 mp, .int .i64 mt, .bool mo] 27) #[.int .u32 0, .int .i64 0, .string { data := #[] }, .int .i64 0, .int .i64 0, .int .i64 0, .int .i64 0, .int .i64 0] 25))
  go_enter Try.func17, Try.ntmps17
  go_upto_region 1 with (fail)
  generalize (w.alloc (.cells #[.int .i64 m0, .int .i64 m1, .int .i64 m2, .int .i64 m3, .int .i64 m4, .int .u32 ma, .int .i64 mb, .string mc, .int .i64 mp, .int .i64 mt, .bool mo] 27)).alloc (.cells #[.int .u32 0, .int .i64 0, .string { data := #[] }, .int .i64 0, .int .i64 0, .int .i64 0, .int .i64 0, .int .i64 0] 25) = w1 at *
  go_cut [3] (fun p wx => ∃ g : Nat, p = .pointer (some ⟨g, 0, none⟩) ∧ w.heap.size + 1 < g ∧ HeldB w [(g, #[.int .u32 ma, .int .i64 mb, .string mc, .int .i64 0, .int .i64 0, .int .i64 0, .int .i64 0, .int .i64 (verV mb mp mt)], 25), ((w.heap.size + 1), #[.int .u32 0, .int .i64 0, .string { data := #[] }, .int .i64 0, .int .i64 0, .int .i64 0, .int .i64 0, .int .i64 0], 25), (w.heap.size, #[.int .i64 m0, .int .i64 m1, .int .i64 m2, .int .i64 m3, .int .i64 m4, .int .u32 ma, .int .i64 mb, .string mc, .int .i64 mp, .int .i64 mt, .bool mo], 27)] wx)
  case first =>
    refine wp_region_noPanic ?_
    refine wp_region_held_drew (S := HeldB w [((w.heap.size + 1), #[.int .u32 0, .int .i64 0, .string { data := #[] }, .int .i64 0, .int .i64 0, .int .i64 0, .int .i64 0, .int .i64 0], 25), (w.heap.size, #[.int .i64 m0, .int .i64 m1, .int .i64 m2, .int .i64 m3, .int .i64 m4, .int .u32 ma, .int .i64 mb, .string mc, .int .i64 mp, .int .i64 mt, .bool mo], 27)]) (by kernel_rfl) H0.out.drew (fun hHeld => ?_)
    refine wpAnyH_take (i := 0) (oi := { dst := some 4, op := Go.Op.fieldAddr 27 (Go.Operand.tmp 1) 5, type := 0, pos := "resolve.go:34", after := #[], guard := none }) (v := ?vt0_0) rfl (by kernel_rfl) (by kernel_rfl) (by kernel_rfl) (fun _ _ _ h => h) (Or.inl ⟨by rfl, ?yt0_0⟩) (by assumption) ?rt0_0
    case yt0_0 => (intro wS hSw; go_simp; try (with_reducible rfl))
    try simp only [Act.put, List.setIfInBounds_toArray, List.set_cons_zero, List.set_cons_succ]
    refine wpAnyH_take (i := 1) (oi := { dst := some 5, op := Go.Op.load 23 (Go.Operand.tmp 4), type := 23, pos := "resolve.go:34", after := #[{ on := 0, ground := Go.Ground.data }], guard := none }) (v := ?vt1_1) rfl (by kernel_rfl) (by kernel_rfl) (by kernel_rfl) (fun _ _ _ h => h) (Or.inl ⟨by rfl, ?yt1_1⟩) (by assumption) ?rt1_1
    case yt1_1 => (intro wS hSw; obtain ⟨q0_0, q0_1, q0_2, q0_3, q0_4, q0_5, q0_6, q0_7⟩ := (hSw).b0.cells8; obtain ⟨q1_0, q1_1, q1_2, q1_3, q1_4, q1_5, q1_6, q1_7, q1_8, q1_9, q1_10⟩ := (hSw).tl.b0.cells11; go_simp; try (with_reducible rfl))
    try simp only [Act.put, List.setIfInBounds_toArray, List.set_cons_zero, List.set_cons_succ]
    refine wpAnyH_take (i := 2) (oi := { dst := some 6, op := Go.Op.fieldAddr 27 (Go.Operand.tmp 1) 6, type := 0, pos := "resolve.go:34", after := #[], guard := none }) (v := ?vt2_2) rfl (by kernel_rfl) (by kernel_rfl) (by kernel_rfl) (fun _ _ _ h => h) (Or.inl ⟨by rfl, ?yt2_2⟩) (by assumption) ?rt2_2
    case yt2_2 => (intro wS hSw; go_simp; try (with_reducible rfl))
    try simp only [Act.put, List.setIfInBounds_toArray, List.set_cons_zero, List.set_cons_succ]
    refine wpAnyH_take (i := 3) (oi := { dst := some 7, op := Go.Op.load 3 (Go.Operand.tmp 6), type := 3, pos := "resolve.go:34", after := #[{ on := 2, ground := Go.Ground.data }], guard := none }) (v := ?vt3_3) rfl (by kernel_rfl) (by kernel_rfl) (by kernel_rfl) (fun _ _ _ h => h) (Or.inl ⟨by rfl, ?yt3_3⟩) (by assumption) ?rt3_3
    case yt3_3 => (intro wS hSw; obtain ⟨q0_0, q0_1, q0_2, q0_3, q0_4, q0_5, q0_6, q0_7⟩ := (hSw).b0.cells8; obtain ⟨q1_0, q1_1, q1_2, q1_3, q1_4, q1_5, q1_6, q1_7, q1_8, q1_9, q1_10⟩ := (hSw).tl.b0.cells11; go_simp; try (with_reducible rfl))
    try simp only [Act.put, List.setIfInBounds_toArray, List.set_cons_zero, List.set_cons_succ]
    refine wpAnyH_take (i := 4) (oi := { dst := some 8, op := Go.Op.fieldAddr 27 (Go.Operand.tmp 1) 7, type := 0, pos := "resolve.go:34", after := #[], guard := none }) (v := ?vt4_4) rfl (by kernel_rfl) (by kernel_rfl) (by kernel_rfl) (fun _ _ _ h => h) (Or.inl ⟨by rfl, ?yt4_4⟩) (by assumption) ?rt4_4
    case yt4_4 => (intro wS hSw; go_simp; try (with_reducible rfl))
    try simp only [Act.put, List.setIfInBounds_toArray, List.set_cons_zero, List.set_cons_succ]
    refine wpAnyH_take (i := 5) (oi := { dst := some 9, op := Go.Op.load 9 (Go.Operand.tmp 8), type := 9, pos := "resolve.go:34", after := #[{ on := 4, ground := Go.Ground.data }], guard := none }) (v := ?vt5_5) rfl (by kernel_rfl) (by kernel_rfl) (by kernel_rfl) (fun _ _ _ h => h) (Or.inl ⟨by rfl, ?yt5_5⟩) (by assumption) ?rt5_5
    case yt5_5 => (intro wS hSw; obtain ⟨q0_0, q0_1, q0_2, q0_3, q0_4, q0_5, q0_6, q0_7⟩ := (hSw).b0.cells8; obtain ⟨q1_0, q1_1, q1_2, q1_3, q1_4, q1_5, q1_6, q1_7, q1_8, q1_9, q1_10⟩ := (hSw).tl.b0.cells11; go_simp; try (with_reducible rfl))
    try simp only [Act.put, List.setIfInBounds_toArray, List.set_cons_zero, List.set_cons_succ]
    refine wpAnyH_take (i := 6) (oi := { dst := some 10, op := Go.Op.load 27 (Go.Operand.tmp 1), type := 27, pos := "resolve.go:34", after := #[], guard := none }) (v := ?vt6_6) rfl (by kernel_rfl) (by kernel_rfl) (by kernel_rfl) (fun _ _ _ h => h) (Or.inl ⟨by rfl, ?yt6_6⟩) (by assumption) ?rt6_6
    case yt6_6 => (intro wS hSw; obtain ⟨q0_0, q0_1, q0_2, q0_3, q0_4, q0_5, q0_6, q0_7⟩ := (hSw).b0.cells8; obtain ⟨q1_0, q1_1, q1_2, q1_3, q1_4, q1_5, q1_6, q1_7, q1_8, q1_9, q1_10⟩ := (hSw).tl.b0.cells11; go_simp; try (with_reducible rfl))
    try simp only [Act.put, List.setIfInBounds_toArray, List.set_cons_zero, List.set_cons_succ]
    refine wpAnyH_ready (rs := [7, 9]) (by kernel_rfl) (by simp) ?_
    refine AllReadyH.cons (o := { dst := some 11, op := Go.Op.call { callee := Go.Callee.value (Go.Operand.func 15), args := #[Go.Operand.tmp 10], argTypes := #[27] }, type := 3, pos := "resolve.go:34", after := #[{ on := 6, ground := Go.Ground.data }], guard := none }) rfl (fun K hK => ?_) ?_
    · go_simp
      (go_at_call 15; ((with_reducible refine (ver_any _ _ _ _ _ _ _ _ _ _ _ _).mono ?_)); rintro e w2 ⟨rfl, hx⟩)
      go_wp2_with fail
      refine hK.out _ _ (hHeld.keep hx) (fun hHeld => ?_)
      clear hK K
      have hgl := Lib.hid (show w.heap.size + 1 < w2.heap.size from hHeld.b0.lt)
      clear hx
      try simp only [Act.put, List.setIfInBounds_toArray, List.set_cons_zero, List.set_cons_succ]
      refine wpAnyH_take (i := 8) (oi := { dst := some 12, op := Go.Op.build 25 #[(0, Go.Operand.tmp 5), (1, Go.Operand.tmp 7), (2, Go.Operand.tmp 9), (7, Go.Operand.tmp 11)], type := 25, pos := "resolve.go:34", after := #[{ on := 1, ground := Go.Ground.data }, { on := 3, ground := Go.Ground.data }, { on := 5, ground := Go.Ground.data }, { on := 7, ground := Go.Ground.data }], guard := none }) (v := ?vt8_7) rfl (by kernel_rfl) (by kernel_rfl) (by kernel_rfl) (fun _ _ _ h => h) (Or.inl ⟨by rfl, ?yt8_7⟩) (by assumption) ?rt8_7
      case yt8_7 => (intro wS hSw; go_simp; try (with_reducible rfl))
      try simp only [Act.put, List.setIfInBounds_toArray, List.set_cons_zero, List.set_cons_succ]
      refine wpAnyH_ready (rs := [9]) (by kernel_rfl) (by simp) ?_
      refine AllReadyH.cons (o := { dst := some 3, op := Go.Op.alloc 25, type := 0, pos := "resolve.go:34", after := #[], guard := none }) rfl (fun K hK => ?_) AllReadyH.nil
      go_simp
      refine hK.out _ _ (hHeld.alloc (.cells #[.int .u32 0, .int .i64 0, .string { data := #[] }, .int .i64 0, .int .i64 0, .int .i64 0, .int .i64 0, .int .i64 0] 25)) (fun hHeld => ?_)
      clear hK K
      have HB := Lib.hid (show Blk (w2.alloc (.cells #[.int .u32 0, .int .i64 0, .string { data := #[] }, .int .i64 0, .int .i64 0, .int .i64 0, .int .i64 0, .int .i64 0] 25)) w2.heap.size #[.int .u32 0, .int .i64 0, .string { data := #[] }, .int .i64 0, .int .i64 0, .int .i64 0, .int .i64 0, .int .i64 0] 25 from Blk.new w2 #[.int .u32 0, .int .i64 0, .string { data := #[] }, .int .i64 0, .int .i64 0, .int .i64 0, .int .i64 0, .int .i64 0] 25)
      generalize (w2.alloc (.cells #[.int .u32 0, .int .i64 0, .string { data := #[] }, .int .i64 0, .int .i64 0, .int .i64 0, .int .i64 0, .int .i64 0] 25)) = w3 at *
      generalize w2.heap.size = g3 at *
      try simp only [Act.put, List.setIfInBounds_toArray, List.set_cons_zero, List.set_cons_succ]
      refine wpAnyH_ready (rs := [10]) (by kernel_rfl) (by simp) ?_
      refine AllReadyH.cons (o := { dst := none, op := Go.Op.store 25 (Go.Operand.tmp 3) (Go.Operand.tmp 12), type := 0, pos := "resolve.go:34", after := #[{ on := 9, ground := Go.Ground.data }, { on := 8, ground := Go.Ground.data }, { on := 7, ground := Go.Ground.chain }, { on := 0, ground := Go.Ground.phase }, { on := 1, ground := Go.Ground.phase }, { on := 2, ground := Go.Ground.phase }, { on := 3, ground := Go.Ground.phase }, { on := 4, ground := Go.Ground.phase }, { on := 5, ground := Go.Ground.phase }, { on := 6, ground := Go.Ground.phase }, { on := 7, ground := Go.Ground.phase }, { on := 8, ground := Go.Ground.phase }, { on := 9, ground := Go.Ground.phase }], guard := none }) rfl (fun K hK => ?_) AllReadyH.nil
      have HC := Lib.hid (hHeld.cons HB.out)
      have hgo := hgl.out
      obtain ⟨z0, z1, z2, z3, z4, z5, z6, z7⟩ := HB.out.cells8
      have zf := HB.out.free
      have HD := HC.out.set8 (by omega) (by intro p hp; simp at hp; rcases hp with rfl | rfl <;> (simp; omega)) (.int .u32 ma) (.int .i64 mb) (.string mc) (.int .i64 0) (.int .i64 0) (.int .i64 0) (.int .i64 0) (.int .i64 (verV mb mp mt))
      have HE := Lib.hid HD
      clear HD
      go_simp
      refine hK.out _ _ HE.out.tl (fun hHeld => ?_)
      clear hK K
      try simp only [Act.put, List.setIfInBounds_toArray, List.set_cons_zero, List.set_cons_succ]
      refine wpAnyH_done (by kernel_rfl) ?_ _
      refine NoPanic.normal ?_
      go_wp2_with fail
      go_meet
      exact ⟨g3, rfl, hgl.out, HE.out⟩
    refine AllReadyH.cons (o := { dst := some 3, op := Go.Op.alloc 25, type := 0, pos := "resolve.go:34", after := #[], guard := none }) rfl (fun K hK => ?_) ?_
    · go_simp
      refine hK.out _ _ (hHeld.alloc (.cells #[.int .u32 0, .int .i64 0, .string { data := #[] }, .int .i64 0, .int .i64 0, .int .i64 0, .int .i64 0, .int .i64 0] 25)) (fun hHeld => ?_)
      clear hK K
      have HB := Lib.hid (show Blk (w1.drew.alloc (.cells #[.int .u32 0, .int .i64 0, .string { data := #[] }, .int .i64 0, .int .i64 0, .int .i64 0, .int .i64 0, .int .i64 0] 25)) w1.heap.size #[.int .u32 0, .int .i64 0, .string { data := #[] }, .int .i64 0, .int .i64 0, .int .i64 0, .int .i64 0, .int .i64 0] 25 from Blk.new w1.drew #[.int .u32 0, .int .i64 0, .string { data := #[] }, .int .i64 0, .int .i64 0, .int .i64 0, .int .i64 0, .int .i64 0] 25)
      have hgl := Lib.hid (show w.heap.size + 1 < w1.heap.size from H0.out.b0.lt)
      generalize w1.heap.size = g3 at *
      try simp only [Act.put, List.setIfInBounds_toArray, List.set_cons_zero, List.set_cons_succ]
      refine wpAnyH_ready (rs := [7]) (by kernel_rfl) (by simp) ?_
      refine AllReadyH.cons (o := { dst := some 11, op := Go.Op.call { callee := Go.Callee.value (Go.Operand.func 15), args := #[Go.Operand.tmp 10], argTypes := #[27] }, type := 3, pos := "resolve.go:34", after := #[{ on := 6, ground := Go.Ground.data }], guard := none }) rfl (fun K hK => ?_) AllReadyH.nil
      go_simp
      (go_at_call 15; ((with_reducible refine (ver_any _ _ _ _ _ _ _ _ _ _ _ _).mono ?_)); rintro e w2 ⟨rfl, hx⟩)
      go_wp2_with fail
      refine hK.out _ _ (hHeld.keep hx) (fun hHeld => ?_)
      clear hK K
      have HB := Lib.hid (HB.out.keep hx)
      clear hx
      generalize w2 = w3 at *
      try simp only [Act.put, List.setIfInBounds_toArray, List.set_cons_zero, List.set_cons_succ]
      refine wpAnyH_take (i := 8) (oi := { dst := some 12, op := Go.Op.build 25 #[(0, Go.Operand.tmp 5), (1, Go.Operand.tmp 7), (2, Go.Operand.tmp 9), (7, Go.Operand.tmp 11)], type := 25, pos := "resolve.go:34", after := #[{ on := 1, ground := Go.Ground.data }, { on := 3, ground := Go.Ground.data }, { on := 5, ground := Go.Ground.data }, { on := 7, ground := Go.Ground.data }], guard := none }) (v := ?vt8_8) rfl (by kernel_rfl) (by kernel_rfl) (by kernel_rfl) (fun _ _ _ h => h) (Or.inl ⟨by rfl, ?yt8_8⟩) (by assumption) ?rt8_8
      case yt8_8 => (intro wS hSw; go_simp; try (with_reducible rfl))
      try simp only [Act.put, List.setIfInBounds_toArray, List.set_cons_zero, List.set_cons_succ]
      refine wpAnyH_ready (rs := [10]) (by kernel_rfl) (by simp) ?_
      refine AllReadyH.cons (o := { dst := none, op := Go.Op.store 25 (Go.Operand.tmp 3) (Go.Operand.tmp 12), type := 0, pos := "resolve.go:34", after := #[{ on := 9, ground := Go.Ground.data }, { on := 8, ground := Go.Ground.data }, { on := 7, ground := Go.Ground.chain }, { on := 0, ground := Go.Ground.phase }, { on := 1, ground := Go.Ground.phase }, { on := 2, ground := Go.Ground.phase }, { on := 3, ground := Go.Ground.phase }, { on := 4, ground := Go.Ground.phase }, { on := 5, ground := Go.Ground.phase }, { on := 6, ground := Go.Ground.phase }, { on := 7, ground := Go.Ground.phase }, { on := 8, ground := Go.Ground.phase }, { on := 9, ground := Go.Ground.phase }], guard := none }) rfl (fun K hK => ?_) AllReadyH.nil
      have HC := Lib.hid (hHeld.cons HB.out)
      have hgo := hgl.out
      obtain ⟨z0, z1, z2, z3, z4, z5, z6, z7⟩ := HB.out.cells8
      have zf := HB.out.free
      have HD := HC.out.set8 (by omega) (by intro p hp; simp at hp; rcases hp with rfl | rfl <;> (simp; omega)) (.int .u32 ma) (.int .i64 mb) (.string mc) (.int .i64 0) (.int .i64 0) (.int .i64 0) (.int .i64 0) (.int .i64 (verV mb mp mt))
      have HE := Lib.hid HD
      clear HD
      go_simp
      refine hK.out _ _ HE.out.tl (fun hHeld => ?_)
      clear hK K
      try simp only [Act.put, List.setIfInBounds_toArray, List.set_cons_zero, List.set_cons_succ]
      refine wpAnyH_done (by kernel_rfl) ?_ _
      refine NoPanic.normal ?_
      go_wp2_with fail
      go_meet
      exact ⟨g3, rfl, hgl.out, HE.out⟩
    exact AllReadyH.nil
  case rest =>
    obtain ⟨g, rfl, hgl, hh⟩ := hcut
    have H1 := Lib.hid hh
    clear hh H0
    obtain ⟨p0_0, p0_1, p0_2, p0_3, p0_4, p0_5, p0_6, p0_7⟩ := (H1.out).b0.cells8; have pf0 := (H1.out).b0.free; obtain ⟨p1_0, p1_1, p1_2, p1_3, p1_4, p1_5, p1_6, p1_7⟩ := (H1.out).tl.b0.cells8; have pf1 := (H1.out).tl.b0.free; obtain ⟨p2_0, p2_1, p2_2, p2_3, p2_4, p2_5, p2_6, p2_7, p2_8, p2_9, p2_10⟩ := (H1.out).tl.tl.b0.cells11; have pf2 := (H1.out).tl.tl.b0.free
    by_cases hb : mb = 4
    · subst hb
      have HV := Lib.hid (show (if (4 : Int) = 4 then clkAdd mt 0 else 0) = clkAdd mt 0 from if_pos rfl)
      go_wp2_with (go_at_call 16; with_reducible refine (add_any _ _ _).mono ?_; rintro e w1 ⟨rfl, rfl⟩)
      all_goals
        refine ret_by rfl ?_
        apply Exists.intro
        apply And.intro
        focus (simp [results, Try.results17, go_sem, p1_0, p1_1, p1_2, p1_3, p1_4, p1_5, p1_6, p1_7]; exact rfl)
        refine ⟨?_, ?_⟩
        · try rw [HV.out]
          first | rfl | (simp [Lz.val]; done) | exact ret_pair (by simp only [Lz.val]; congr <;> omega) rfl
        · repeat (with_reducible refine below_set ?_ (by omega) _)
          exact H1.out.2
    · have kb : (mb == 4) = false := beq_eq_false_iff_ne.2 hb
      have HV := Lib.hid (show (if mb = 4 then clkAdd mt 0 else 0) = 0 from if_neg hb)
      go_wp2
      all_goals
        refine ret_by rfl ?_
        apply Exists.intro
        apply And.intro
        focus (simp [results, Try.results17, go_sem, p1_0, p1_1, p1_2, p1_3, p1_4, p1_5, p1_6, p1_7]; exact rfl)
        refine ⟨?_, ?_⟩
        · try rw [HV.out]
          first | rfl | (simp [Lz.val]; done) | exact ret_pair (by simp only [Lz.val]; congr <;> omega) rfl
        · repeat (with_reducible refine below_set ?_ (by omega) _)
          exact H1.out.2

end Go.Proofs.Ytkpgchhbeebgkaa
