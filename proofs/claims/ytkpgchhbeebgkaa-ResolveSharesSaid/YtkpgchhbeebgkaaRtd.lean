/- What is known of an address behind what is told of it, by the reference. -/
import Derived.Test.YtkpgchhbeebgkaaTkd
import Derived.Test.YtkpgchhbeebgkaaEnd
import Derived.Test.YtkpgchhbeebgkaaEne
namespace Go.Proofs.Ytkpgchhbeebgkaa
open Go.ChangeShapes Go.WideShapes Go.ChangeAt Go.RowKit
set_option linter.unusedVariables false
set_option linter.unusedSimpArgs false

set_option maxRecDepth 100000 in
set_option maxHeartbeats 40000000 in
theorem rtake_fair0 (la lb : Int) (lc : ByteArray) (lu lk lt lz lv : Int) (m0 m1 m2 m3 m4 ma : Int) (mc : ByteArray) (mp mt : Int) (mo : Bool) (st now gd : Int) (w : World) (hf : FairP la lb lc lu lk lt lz lv m0 ma 0 mc mp mt) : Calls Try.prog 10 #[.agg #[.int .u32 la, .int .i64 lb, .string lc, .int .i64 lu, .int .i64 lk, .int .i64 lt, .int .i64 lz, .int .i64 lv], .agg #[.int .i64 m0, .int .i64 m1, .int .i64 m2, .int .i64 m3, .int .i64 m4, .int .u32 ma, .int .i64 0, .string mc, .int .i64 mp, .int .i64 mt, .bool mo], .int .i64 st, .int .i64 now, .int .i64 gd] w fun e w' => e = .returned (.tuple #[(takeV la ⟨lb, lc, lu, lk, lt, lz, lv⟩ m0 ma 0 mc mp mt st now gd).1.val la, .bool (takeV la ⟨lb, lc, lu, lk, lt, lz, lv⟩ m0 ma 0 mc mp mt st now gd).2]) ∧ Below w.heap.size w w' := by
  have H0 := Lib.hid ((((HeldB.nil (lowA (lowA (low0 w (.cells #[.int .u32 la, .int .i64 lb, .string lc, .int .i64 lu, .int .i64 lk, .int .i64 lt, .int .i64 lz, .int .i64 lv] 25)) (.cells #[.int .i64 m0, .int .i64 m1, .int .i64 m2, .int .i64 m3, .int .i64 m4, .int .u32 ma, .int .i64 0, .string mc, .int .i64 mp, .int .i64 mt, .bool mo] 27)) (.cells #[.int .u32 0, .int .i64 0, .string { data := #[] }, .int .i64 0, .int .i64 0, .int .i64 0, .int .i64 0, .int .i64 0] 25))).cons ((Blk.new2' w #[.int .u32 la, .int .i64 lb, .string lc, .int .i64 lu, .int .i64 lk, .int .i64 lt, .int .i64 lz, .int .i64 lv] 25 (.cells #[.int .i64 m0, .int .i64 m1, .int .i64 m2, .int .i64 m3, .int .i64 m4, .int .u32 ma, .int .i64 0, .string mc, .int .i64 mp, .int .i64 mt, .bool mo] 27)).alloc (.cells #[.int .u32 0, .int .i64 0, .string { data := #[] }, .int .i64 0, .int .i64 0, .int .i64 0, .int .i64 0, .int .i64 0] 25))).cons ((Blk.new2 w (.cells #[.int .u32 la, .int .i64 lb, .string lc, .int .i64 lu, .int .i64 lk, .int .i64 lt, .int .i64 lz, .int .i64 lv] 25) #[.int .i64 m0, .int .i64 m1, .int .i64 m2, .int .i64 m3, .int .i64 m4, .int .u32 ma, .int .i64 0, .string mc, .int .i64 mp, .int .i64 mt, .bool mo] 27).alloc (.cells #[.int .u32 0, .int .i64 0, .string { data := #[] }, .int .i64 0, .int .i64 0, .int .i64 0, .int .i64 0, .int .i64 0] 25))).cons (Blk.new3 w (.cells #[.int .u32 la, .int .i64 lb, .string lc, .int .i64 lu, .int .i64 lk, .int .i64 lt, .int .i64 lz, .int .i64 lv] 25) (.cells #[.int .i64 m0, .int .i64 m1, .int .i64 m2, .int .i64 m3, .int .i64 m4, .int .u32 ma, .int .i64 0, .string mc, .int .i64 mp, .int .i64 mt, .bool mo] 27) #[.int .u32 0, .int .i64 0, .string { data := #[] }, .int .i64 0, .int .i64 0, .int .i64 0, .int .i64 0, .int .i64 0] 25))
  have HF := Lib.hid (show decide (FairP la lb lc lu lk lt lz lv m0 ma 0 mc mp mt) = true from decide_eq_true hf)
  rw [show takeV la ⟨lb, lc, lu, lk, lt, lz, lv⟩ m0 ma 0 mc mp mt st now gd = takeF ⟨lb, lc, lu, lk, lt, lz, lv⟩ 0 mc mp mt (recV st) (clkPast now lu 0) gd from if_pos hf]
  clear hf
  generalize hrr : recV st = r
  generalize hoo : clkPast now lu 0 = o
  have HR := Lib.hid hrr
  have HO := Lib.hid hoo
  clear hrr hoo
  go_enter Try.func10, Try.ntmps10
  go_upto_region 5 with (first | (go_at_call 19; ((with_reducible refine (rfair_any _ _ _ _ _ _ _ _ _ _ _ _ _ _ _ _ _ _ _ _).mono ?_)); rintro e w1 ⟨he, hx⟩; rw [HF.out] at he; subst he; have H1 := Lib.hid (H0.out.keep hx); clear hx; obtain ⟨p0_0, p0_1, p0_2, p0_3, p0_4, p0_5, p0_6, p0_7⟩ := (H1.out).b0.cells8; have pf0 := (H1.out).b0.free; obtain ⟨p1_0, p1_1, p1_2, p1_3, p1_4, p1_5, p1_6, p1_7, p1_8, p1_9, p1_10⟩ := (H1.out).tl.b0.cells11; have pf1 := (H1.out).tl.b0.free; obtain ⟨p2_0, p2_1, p2_2, p2_3, p2_4, p2_5, p2_6, p2_7⟩ := (H1.out).tl.tl.b0.cells8; have pf2 := (H1.out).tl.tl.b0.free) | (go_at_call 11; (with_reducible refine (rpast_any _ _ _ _).mono ?_); rintro e w1 ⟨he, rfl⟩; rw [HO.out] at he; subst he))
  go_cut [2, 14] (fun y x wx => x = .bool r ∧ y = .int .i64 st ∧ wx = w1)
  case first =>
    go_wp2
    all_goals
      go_meet
      exact ⟨congrArg Value.bool (by rw [← HR.out]; first | exact recV_bool | exact recV_bool.symm | (unfold recV; simp_all; done) | (rename_i k1 k2; first | exact recV_8 k1 k2 | exact (recV_8 k1 k2).symm)), by simp_all, rfl⟩
  case rest =>
    obtain ⟨rfl, rfl, rfl⟩ := hcut
    by_cases h5 : lb = 5
    · have k5 : (lb == 5) = true := beq_iff_eq.2 h5
      have HV := Lib.hid (show takeF (⟨lb, lc, lu, lk, lt, lz, lv⟩ : Lz) 0 mc mp mt r o gd = ((⟨lb, lc, lu, lk, lt, lz, lv⟩ : Lz), false) from by simp [takeF, actV, endV, freeV, bareL, h5])
      clear h5
      go_wp2
      all_goals
        refine ret_by rfl ?_
        apply Exists.intro
        apply And.intro
        focus (simp [results, Try.results10, go_sem, p0_0, p0_1, p0_2, p0_3, p0_4, p0_5, p0_6, p0_7]; exact rfl)
        refine ⟨?_, ?_⟩
        · rw [HV.out]
          first | rfl | exact ret_pair (by simp only [Lz.val]; congr <;> omega) rfl
        · repeat (with_reducible refine below_set ?_ (by omega) _)
          exact H1.out.2
    · have k5 : (lb == 5) = false := beq_eq_false_iff_ne.2 h5
      by_cases h2 : lb = 2
      · have k2 : (lb == 2) = true := beq_iff_eq.2 h2
        have n2 : (lb != 2) = false := bne_eq_false_iff_eq.2 h2
        cases r <;> cases o
        · skip
          have HV := Lib.hid (show takeF (⟨lb, lc, lu, lk, lt, lz, lv⟩ : Lz) 0 mc mp mt false false gd = ((⟨lb, lc, lu, lk, lt, lz, lv⟩ : Lz), false) from by simp [takeF, actV, endV, freeV, bareL, h5, h2])
          clear h5 h2
          go_wp2
          all_goals
            refine ret_by rfl ?_
            apply Exists.intro
            apply And.intro
            focus (simp [results, Try.results10, go_sem, p0_0, p0_1, p0_2, p0_3, p0_4, p0_5, p0_6, p0_7]; exact rfl)
            refine ⟨?_, ?_⟩
            · rw [HV.out]
              first | rfl | exact ret_pair (by simp only [Lz.val]; congr <;> omega) rfl
            · repeat (with_reducible refine below_set ?_ (by omega) _)
              exact H1.out.2
        · skip
          have HV := Lib.hid (show takeF (⟨lb, lc, lu, lk, lt, lz, lv⟩ : Lz) 0 mc mp mt false true gd = ((⟨lb, lc, lu, lk, lt, lz, lv⟩ : Lz), false) from by simp [takeF, actV, endV, freeV, bareL, h5, h2])
          clear h5 h2
          go_wp2
          all_goals
            refine ret_by rfl ?_
            apply Exists.intro
            apply And.intro
            focus (simp [results, Try.results10, go_sem, p0_0, p0_1, p0_2, p0_3, p0_4, p0_5, p0_6, p0_7]; exact rfl)
            refine ⟨?_, ?_⟩
            · rw [HV.out]
              first | rfl | exact ret_pair (by simp only [Lz.val]; congr <;> omega) rfl
            · repeat (with_reducible refine below_set ?_ (by omega) _)
              exact H1.out.2
        · skip
          have HV := Lib.hid (show takeF (⟨lb, lc, lu, lk, lt, lz, lv⟩ : Lz) 0 mc mp mt true false gd = ((⟨lb, lc, lu, lk, lt, lz, lv⟩ : Lz), false) from by simp [takeF, actV, endV, freeV, bareL, h5, h2])
          clear h5 h2
          go_wp2
          all_goals
            refine ret_by rfl ?_
            apply Exists.intro
            apply And.intro
            focus (simp [results, Try.results10, go_sem, p0_0, p0_1, p0_2, p0_3, p0_4, p0_5, p0_6, p0_7]; exact rfl)
            refine ⟨?_, ?_⟩
            · rw [HV.out]
              first | rfl | exact ret_pair (by simp only [Lz.val]; congr <;> omega) rfl
            · repeat (with_reducible refine below_set ?_ (by omega) _)
              exact H1.out.2
        · skip
          by_cases hl : lv < mt
          · have kl : decide (lv < mt) = true := decide_eq_true hl
            have HV := Lib.hid (show takeF (⟨lb, lc, lu, lk, lt, lz, lv⟩ : Lz) 0 mc mp mt true true gd = (bareL 0 mt, true) from by simp [takeF, actV, endV, freeV, bareL, h5, h2, hl])
            clear h5 h2 hl
            go_wp2_with (go_at_call 22; ((with_reducible refine (rbare_any _ _ _ _).mono ?_)); rintro e w6 ⟨rfl, hx⟩; have H5 := Lib.hid (H1.out.keep hx); clear hx; obtain ⟨q0_0, q0_1, q0_2, q0_3, q0_4, q0_5, q0_6, q0_7⟩ := (H5.out).b0.cells8; have qf0 := (H5.out).b0.free; obtain ⟨q1_0, q1_1, q1_2, q1_3, q1_4, q1_5, q1_6, q1_7, q1_8, q1_9, q1_10⟩ := (H5.out).tl.b0.cells11; have qf1 := (H5.out).tl.b0.free; obtain ⟨q2_0, q2_1, q2_2, q2_3, q2_4, q2_5, q2_6, q2_7⟩ := (H5.out).tl.tl.b0.cells8; have qf2 := (H5.out).tl.tl.b0.free)
            all_goals
              refine ret_by rfl ?_
              apply Exists.intro
              apply And.intro
              focus (simp [results, Try.results10, go_sem, q0_0, q0_1, q0_2, q0_3, q0_4, q0_5, q0_6, q0_7]; exact rfl)
              refine ⟨?_, ?_⟩
              · rw [HV.out]
                first | rfl | exact ret_pair (by simp only [Lz.val]; congr <;> omega) rfl
              · repeat (with_reducible refine below_set ?_ (by omega) _)
                exact H5.out.2
          · have kl : decide (lv < mt) = false := decide_eq_false hl
            have HV := Lib.hid (show takeF (⟨lb, lc, lu, lk, lt, lz, lv⟩ : Lz) 0 mc mp mt true true gd = ((⟨lb, lc, lu, lk, lt, lz, lv⟩ : Lz), false) from by simp [takeF, actV, endV, freeV, bareL, h5, h2, hl])
            clear h5 h2 hl
            go_upto_region 19 with (fail)
            clear p0_0 p0_1 p0_2 p0_3 p0_4 p0_5 p0_6 p0_7 p1_0 p1_1 p1_2 p1_3 p1_4 p1_5 p1_6 p1_7 p1_8 p1_9 p1_10 p2_0 p2_1 p2_2 p2_3 p2_4 p2_5 p2_6 p2_7 pf0 pf1 pf2
            refine wp_region_noPanic ?_
            refine wp_region_held_drew (S := HeldB w [((w.heap.size + 1), #[.int .i64 m0, .int .i64 m1, .int .i64 m2, .int .i64 m3, .int .i64 m4, .int .u32 ma, .int .i64 0, .string mc, .int .i64 mp, .int .i64 mt, .bool mo], 27), (w.heap.size, #[.int .u32 la, .int .i64 lb, .string lc, .int .i64 lu, .int .i64 lk, .int .i64 lt, .int .i64 lz, .int .i64 lv], 25)]) (by kernel_rfl) H1.out.tl.drew (fun hHeld => ?_)
            have H2 := Lib.hid H1.out.drew
            clear H1
            generalize wc.drew = wd at *
            refine wpAnyH_take (i := 0) (oi := { dst := some 108, op := Go.Op.load 25 (Go.Operand.tmp 5), type := 25, pos := "ref.go:107", after := #[], guard := none }) (v := ?vmff0_0) rfl (by kernel_rfl) (by kernel_rfl) (by kernel_rfl) (fun _ _ _ h => h) (Or.inl ⟨by rfl, ?ymff0_0⟩) (by assumption) ?rmff0_0
            case ymff0_0 => (intro wS hSw; obtain ⟨q0_0, q0_1, q0_2, q0_3, q0_4, q0_5, q0_6, q0_7, q0_8, q0_9, q0_10⟩ := (hSw).b0.cells11; obtain ⟨q1_0, q1_1, q1_2, q1_3, q1_4, q1_5, q1_6, q1_7⟩ := (hSw).tl.b0.cells8; go_simp; try (with_reducible rfl))
            try simp only [Act.put, List.setIfInBounds_toArray, List.set_cons_zero, List.set_cons_succ]
            refine wpAnyH_take (i := 1) (oi := { dst := some 109, op := Go.Op.fieldAddr 25 (Go.Operand.tmp 5) 1, type := 0, pos := "ref.go:107", after := #[{ on := 4, ground := Go.Ground.gcOnly Go.Departure.lateStores }], guard := none }) (v := ?vmff1_1) rfl (by kernel_rfl) (by kernel_rfl) (by kernel_rfl) (fun _ _ _ h => h) (Or.inl ⟨by rfl, ?ymff1_1⟩) (by assumption) ?rmff1_1
            case ymff1_1 => (intro wS hSw; go_simp; try (with_reducible rfl))
            try simp only [Act.put, List.setIfInBounds_toArray, List.set_cons_zero, List.set_cons_succ]
            refine wpAnyH_take (i := 2) (oi := { dst := some 110, op := Go.Op.load 3 (Go.Operand.tmp 109), type := 3, pos := "ref.go:107", after := #[{ on := 1, ground := Go.Ground.data }, { on := 4, ground := Go.Ground.gcOnly Go.Departure.lateStores }], guard := none }) (v := ?vmff2_2) rfl (by kernel_rfl) (by kernel_rfl) (by kernel_rfl) (fun _ _ _ h => h) (Or.inl ⟨by rfl, ?ymff2_2⟩) (by assumption) ?rmff2_2
            case ymff2_2 => (intro wS hSw; obtain ⟨q0_0, q0_1, q0_2, q0_3, q0_4, q0_5, q0_6, q0_7, q0_8, q0_9, q0_10⟩ := (hSw).b0.cells11; obtain ⟨q1_0, q1_1, q1_2, q1_3, q1_4, q1_5, q1_6, q1_7⟩ := (hSw).tl.b0.cells8; go_simp; try (with_reducible rfl))
            try simp only [Act.put, List.setIfInBounds_toArray, List.set_cons_zero, List.set_cons_succ]
            refine wpAnyH_take (i := 3) (oi := { dst := some 111, op := Go.Op.binOp Go.BinOp.neq 3 (Go.Operand.tmp 110) (Go.Operand.const (Go.Value.int Go.IntKind.i64 2)) 3, type := 4, pos := "ref.go:107", after := #[{ on := 2, ground := Go.Ground.data }, { on := 4, ground := Go.Ground.gcOnly Go.Departure.lateStores }], guard := none }) (v := ?vmff3_3) rfl (by kernel_rfl) (by kernel_rfl) (by kernel_rfl) (fun _ _ _ h => h) (Or.inl ⟨by rfl, ?ymff3_3⟩) (by assumption) ?rmff3_3
            case ymff3_3 => (intro wS hSw; go_simp; try (with_reducible rfl))
            try simp only [Act.put, List.setIfInBounds_toArray, List.set_cons_zero, List.set_cons_succ]
            refine wpAnyH_ready (rs := [4]) (by kernel_rfl) (by simp) ?_
            refine AllReadyH.cons (o := { dst := none, op := Go.Op.store 25 (Go.Operand.tmp 10) (Go.Operand.tmp 108), type := 0, pos := "ref.go:107", after := #[{ on := 0, ground := Go.Ground.data }, { on := 0, ground := Go.Ground.phase }, { on := 1, ground := Go.Ground.textOnly Go.Departure.lateStores }, { on := 2, ground := Go.Ground.textOnly Go.Departure.lateStores }, { on := 3, ground := Go.Ground.textOnly Go.Departure.lateStores }], guard := none }) rfl (fun K hK => ?_) AllReadyH.nil
            obtain ⟨z0, z1, z2, z3, z4, z5, z6, z7⟩ := H2.out.b0.cells8
            have zf := H2.out.b0.free
            have HD := H2.out.set8 (by omega) (by intro p hp; simp at hp; rcases hp with rfl | rfl <;> simp <;> omega) (.int .u32 la) (.int .i64 lb) (.string lc) (.int .i64 lu) (.int .i64 lk) (.int .i64 lt) (.int .i64 lz) (.int .i64 lv)
            have HE := Lib.hid HD
            clear HD
            go_simp
            refine hK.out _ _ HE.out.tl (fun hHeld => ?_)
            clear hK K z0 z1 z2 z3 z4 z5 z6 z7 zf
            obtain ⟨q0_0, q0_1, q0_2, q0_3, q0_4, q0_5, q0_6, q0_7⟩ := (HE.out).b0.cells8; have qf0 := (HE.out).b0.free; obtain ⟨q1_0, q1_1, q1_2, q1_3, q1_4, q1_5, q1_6, q1_7, q1_8, q1_9, q1_10⟩ := (HE.out).tl.b0.cells11; have qf1 := (HE.out).tl.b0.free; obtain ⟨q2_0, q2_1, q2_2, q2_3, q2_4, q2_5, q2_6, q2_7⟩ := (HE.out).tl.tl.b0.cells8; have qf2 := (HE.out).tl.tl.b0.free
            try simp only [Act.put, List.setIfInBounds_toArray, List.set_cons_zero, List.set_cons_succ]
            refine wpAnyH_take (i := 5) (oi := { dst := some 11, op := Go.Op.assign (Go.Operand.tmp 111), type := 4, pos := "ref.go:107", after := #[{ on := 3, ground := Go.Ground.data }, { on := 4, ground := Go.Ground.chain }, { on := 0, ground := Go.Ground.phase }, { on := 1, ground := Go.Ground.phase }, { on := 2, ground := Go.Ground.phase }, { on := 3, ground := Go.Ground.phase }, { on := 4, ground := Go.Ground.phase }], guard := none }) (v := ?vmff5_4) rfl (by kernel_rfl) (by kernel_rfl) (by kernel_rfl) (fun _ _ _ h => h) (Or.inl ⟨by rfl, ?ymff5_4⟩) (by assumption) ?rmff5_4
            case ymff5_4 => (intro wS hSw; go_simp; try (with_reducible rfl))
            try simp only [Act.put, List.setIfInBounds_toArray, List.set_cons_zero, List.set_cons_succ]
            refine wpAnyH_done (by kernel_rfl) ?_ _
            refine NoPanic.normal ?_
            go_wp2
            all_goals
              refine ret_by rfl ?_
              apply Exists.intro
              apply And.intro
              focus (simp [results, Try.results10, go_sem, q0_0, q0_1, q0_2, q0_3, q0_4, q0_5, q0_6, q0_7]; exact rfl)
              refine ⟨?_, ?_⟩
              · rw [HV.out]
                first | rfl | exact ret_pair (by simp only [Lz.val]; congr <;> omega) rfl
              · repeat (with_reducible refine below_set ?_ (by omega) _)
                exact H2.out.2
      · have k2 : (lb == 2) = false := beq_eq_false_iff_ne.2 h2
        have n2 : (lb != 2) = true := bne_iff_ne.2 h2
        by_cases hl : lv < mt
        · have kl : decide (lv < mt) = true := decide_eq_true hl
          have HV := Lib.hid (show takeF (⟨lb, lc, lu, lk, lt, lz, lv⟩ : Lz) 0 mc mp mt r o gd = (bareL 0 mt, true) from by simp [takeF, actV, endV, freeV, bareL, h5, h2, hl])
          clear h5 h2 hl
          go_wp2_with (go_at_call 22; ((with_reducible refine (rbare_any _ _ _ _).mono ?_)); rintro e w6 ⟨rfl, hx⟩; have H5 := Lib.hid (H1.out.keep hx); clear hx; obtain ⟨q0_0, q0_1, q0_2, q0_3, q0_4, q0_5, q0_6, q0_7⟩ := (H5.out).b0.cells8; have qf0 := (H5.out).b0.free; obtain ⟨q1_0, q1_1, q1_2, q1_3, q1_4, q1_5, q1_6, q1_7, q1_8, q1_9, q1_10⟩ := (H5.out).tl.b0.cells11; have qf1 := (H5.out).tl.b0.free; obtain ⟨q2_0, q2_1, q2_2, q2_3, q2_4, q2_5, q2_6, q2_7⟩ := (H5.out).tl.tl.b0.cells8; have qf2 := (H5.out).tl.tl.b0.free)
          all_goals
            refine ret_by rfl ?_
            apply Exists.intro
            apply And.intro
            focus (simp [results, Try.results10, go_sem, q0_0, q0_1, q0_2, q0_3, q0_4, q0_5, q0_6, q0_7]; exact rfl)
            refine ⟨?_, ?_⟩
            · rw [HV.out]
              first | rfl | exact ret_pair (by simp only [Lz.val]; congr <;> omega) rfl
            · repeat (with_reducible refine below_set ?_ (by omega) _)
              exact H5.out.2
        · have kl : decide (lv < mt) = false := decide_eq_false hl
          have HV := Lib.hid (show takeF (⟨lb, lc, lu, lk, lt, lz, lv⟩ : Lz) 0 mc mp mt r o gd = ((⟨lb, lc, lu, lk, lt, lz, lv⟩ : Lz), true) from by simp [takeF, actV, endV, freeV, bareL, h5, h2, hl])
          clear h5 h2 hl
          go_upto_region 19 with (fail)
          clear p0_0 p0_1 p0_2 p0_3 p0_4 p0_5 p0_6 p0_7 p1_0 p1_1 p1_2 p1_3 p1_4 p1_5 p1_6 p1_7 p1_8 p1_9 p1_10 p2_0 p2_1 p2_2 p2_3 p2_4 p2_5 p2_6 p2_7 pf0 pf1 pf2
          refine wp_region_noPanic ?_
          refine wp_region_held_drew (S := HeldB w [((w.heap.size + 1), #[.int .i64 m0, .int .i64 m1, .int .i64 m2, .int .i64 m3, .int .i64 m4, .int .u32 ma, .int .i64 0, .string mc, .int .i64 mp, .int .i64 mt, .bool mo], 27), (w.heap.size, #[.int .u32 la, .int .i64 lb, .string lc, .int .i64 lu, .int .i64 lk, .int .i64 lt, .int .i64 lz, .int .i64 lv], 25)]) (by kernel_rfl) H1.out.tl.drew (fun hHeld => ?_)
          have H2 := Lib.hid H1.out.drew
          clear H1
          generalize wc.drew = wd at *
          refine wpAnyH_take (i := 0) (oi := { dst := some 108, op := Go.Op.load 25 (Go.Operand.tmp 5), type := 25, pos := "ref.go:107", after := #[], guard := none }) (v := ?vmft0_0) rfl (by kernel_rfl) (by kernel_rfl) (by kernel_rfl) (fun _ _ _ h => h) (Or.inl ⟨by rfl, ?ymft0_0⟩) (by assumption) ?rmft0_0
          case ymft0_0 => (intro wS hSw; obtain ⟨q0_0, q0_1, q0_2, q0_3, q0_4, q0_5, q0_6, q0_7, q0_8, q0_9, q0_10⟩ := (hSw).b0.cells11; obtain ⟨q1_0, q1_1, q1_2, q1_3, q1_4, q1_5, q1_6, q1_7⟩ := (hSw).tl.b0.cells8; go_simp; try (with_reducible rfl))
          try simp only [Act.put, List.setIfInBounds_toArray, List.set_cons_zero, List.set_cons_succ]
          refine wpAnyH_take (i := 1) (oi := { dst := some 109, op := Go.Op.fieldAddr 25 (Go.Operand.tmp 5) 1, type := 0, pos := "ref.go:107", after := #[{ on := 4, ground := Go.Ground.gcOnly Go.Departure.lateStores }], guard := none }) (v := ?vmft1_1) rfl (by kernel_rfl) (by kernel_rfl) (by kernel_rfl) (fun _ _ _ h => h) (Or.inl ⟨by rfl, ?ymft1_1⟩) (by assumption) ?rmft1_1
          case ymft1_1 => (intro wS hSw; go_simp; try (with_reducible rfl))
          try simp only [Act.put, List.setIfInBounds_toArray, List.set_cons_zero, List.set_cons_succ]
          refine wpAnyH_take (i := 2) (oi := { dst := some 110, op := Go.Op.load 3 (Go.Operand.tmp 109), type := 3, pos := "ref.go:107", after := #[{ on := 1, ground := Go.Ground.data }, { on := 4, ground := Go.Ground.gcOnly Go.Departure.lateStores }], guard := none }) (v := ?vmft2_2) rfl (by kernel_rfl) (by kernel_rfl) (by kernel_rfl) (fun _ _ _ h => h) (Or.inl ⟨by rfl, ?ymft2_2⟩) (by assumption) ?rmft2_2
          case ymft2_2 => (intro wS hSw; obtain ⟨q0_0, q0_1, q0_2, q0_3, q0_4, q0_5, q0_6, q0_7, q0_8, q0_9, q0_10⟩ := (hSw).b0.cells11; obtain ⟨q1_0, q1_1, q1_2, q1_3, q1_4, q1_5, q1_6, q1_7⟩ := (hSw).tl.b0.cells8; go_simp; try (with_reducible rfl))
          try simp only [Act.put, List.setIfInBounds_toArray, List.set_cons_zero, List.set_cons_succ]
          refine wpAnyH_take (i := 3) (oi := { dst := some 111, op := Go.Op.binOp Go.BinOp.neq 3 (Go.Operand.tmp 110) (Go.Operand.const (Go.Value.int Go.IntKind.i64 2)) 3, type := 4, pos := "ref.go:107", after := #[{ on := 2, ground := Go.Ground.data }, { on := 4, ground := Go.Ground.gcOnly Go.Departure.lateStores }], guard := none }) (v := ?vmft3_3) rfl (by kernel_rfl) (by kernel_rfl) (by kernel_rfl) (fun _ _ _ h => h) (Or.inl ⟨by rfl, ?ymft3_3⟩) (by assumption) ?rmft3_3
          case ymft3_3 => (intro wS hSw; go_simp; try (with_reducible rfl))
          try simp only [Act.put, List.setIfInBounds_toArray, List.set_cons_zero, List.set_cons_succ]
          refine wpAnyH_ready (rs := [4]) (by kernel_rfl) (by simp) ?_
          refine AllReadyH.cons (o := { dst := none, op := Go.Op.store 25 (Go.Operand.tmp 10) (Go.Operand.tmp 108), type := 0, pos := "ref.go:107", after := #[{ on := 0, ground := Go.Ground.data }, { on := 0, ground := Go.Ground.phase }, { on := 1, ground := Go.Ground.textOnly Go.Departure.lateStores }, { on := 2, ground := Go.Ground.textOnly Go.Departure.lateStores }, { on := 3, ground := Go.Ground.textOnly Go.Departure.lateStores }], guard := none }) rfl (fun K hK => ?_) AllReadyH.nil
          obtain ⟨z0, z1, z2, z3, z4, z5, z6, z7⟩ := H2.out.b0.cells8
          have zf := H2.out.b0.free
          have HD := H2.out.set8 (by omega) (by intro p hp; simp at hp; rcases hp with rfl | rfl <;> simp <;> omega) (.int .u32 la) (.int .i64 lb) (.string lc) (.int .i64 lu) (.int .i64 lk) (.int .i64 lt) (.int .i64 lz) (.int .i64 lv)
          have HE := Lib.hid HD
          clear HD
          go_simp
          refine hK.out _ _ HE.out.tl (fun hHeld => ?_)
          clear hK K z0 z1 z2 z3 z4 z5 z6 z7 zf
          obtain ⟨q0_0, q0_1, q0_2, q0_3, q0_4, q0_5, q0_6, q0_7⟩ := (HE.out).b0.cells8; have qf0 := (HE.out).b0.free; obtain ⟨q1_0, q1_1, q1_2, q1_3, q1_4, q1_5, q1_6, q1_7, q1_8, q1_9, q1_10⟩ := (HE.out).tl.b0.cells11; have qf1 := (HE.out).tl.b0.free; obtain ⟨q2_0, q2_1, q2_2, q2_3, q2_4, q2_5, q2_6, q2_7⟩ := (HE.out).tl.tl.b0.cells8; have qf2 := (HE.out).tl.tl.b0.free
          try simp only [Act.put, List.setIfInBounds_toArray, List.set_cons_zero, List.set_cons_succ]
          refine wpAnyH_take (i := 5) (oi := { dst := some 11, op := Go.Op.assign (Go.Operand.tmp 111), type := 4, pos := "ref.go:107", after := #[{ on := 3, ground := Go.Ground.data }, { on := 4, ground := Go.Ground.chain }, { on := 0, ground := Go.Ground.phase }, { on := 1, ground := Go.Ground.phase }, { on := 2, ground := Go.Ground.phase }, { on := 3, ground := Go.Ground.phase }, { on := 4, ground := Go.Ground.phase }], guard := none }) (v := ?vmft5_4) rfl (by kernel_rfl) (by kernel_rfl) (by kernel_rfl) (fun _ _ _ h => h) (Or.inl ⟨by rfl, ?ymft5_4⟩) (by assumption) ?rmft5_4
          case ymft5_4 => (intro wS hSw; go_simp; try (with_reducible rfl))
          try simp only [Act.put, List.setIfInBounds_toArray, List.set_cons_zero, List.set_cons_succ]
          refine wpAnyH_done (by kernel_rfl) ?_ _
          refine NoPanic.normal ?_
          go_wp2
          all_goals
            refine ret_by rfl ?_
            apply Exists.intro
            apply And.intro
            focus (simp [results, Try.results10, go_sem, q0_0, q0_1, q0_2, q0_3, q0_4, q0_5, q0_6, q0_7]; exact rfl)
            refine ⟨?_, ?_⟩
            · rw [HV.out]
              first | rfl | exact ret_pair (by simp only [Lz.val]; congr <;> omega) rfl
            · repeat (with_reducible refine below_set ?_ (by omega) _)
              exact H2.out.2

end Go.Proofs.Ytkpgchhbeebgkaa
