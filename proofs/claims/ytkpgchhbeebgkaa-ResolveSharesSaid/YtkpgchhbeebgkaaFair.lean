/- Whether what is told may be so. -/
import Derived.Test.YtkpgchhbeebgkaaTk
namespace Go.Proofs.Ytkpgchhbeebgkaa
open Go.ChangeShapes Go.WideShapes Go.ChangeAt Go.RowKit
set_option linter.unusedVariables false
set_option linter.unusedSimpArgs false

set_option maxRecDepth 100000 in
set_option maxHeartbeats 4000000 in
theorem fair_any (la lb : Int) (lc : ByteArray) (lu lk lt lz lv : Int) (m0 m1 m2 m3 m4 ma mb : Int) (mc : ByteArray) (mp mt : Int) (mo : Bool) (w : World) : Calls Try.prog 13 #[.agg #[.int .u32 la, .int .i64 lb, .string lc, .int .i64 lu, .int .i64 lk, .int .i64 lt, .int .i64 lz, .int .i64 lv], .agg #[.int .i64 m0, .int .i64 m1, .int .i64 m2, .int .i64 m3, .int .i64 m4, .int .u32 ma, .int .i64 mb, .string mc, .int .i64 mp, .int .i64 mt, .bool mo]] w fun e w' => e = .returned (.bool (decide (FairP la lb lc lu lk lt lz lv m0 ma mb mc mp mt))) ∧ Below w.heap.size w w' := by
  have H0 := Lib.hid (((HeldB.nil (lowA (low0 w (.cells #[.int .u32 la, .int .i64 lb, .string lc, .int .i64 lu, .int .i64 lk, .int .i64 lt, .int .i64 lz, .int .i64 lv] 25)) (.cells #[.int .i64 m0, .int .i64 m1, .int .i64 m2, .int .i64 m3, .int .i64 m4, .int .u32 ma, .int .i64 mb, .string mc, .int .i64 mp, .int .i64 mt, .bool mo] 27))).cons (Blk.new2' w #[.int .u32 la, .int .i64 lb, .string lc, .int .i64 lu, .int .i64 lk, .int .i64 lt, .int .i64 lz, .int .i64 lv] 25 (.cells #[.int .i64 m0, .int .i64 m1, .int .i64 m2, .int .i64 m3, .int .i64 m4, .int .u32 ma, .int .i64 mb, .string mc, .int .i64 mp, .int .i64 mt, .bool mo] 27))).cons (Blk.new2 w (.cells #[.int .u32 la, .int .i64 lb, .string lc, .int .i64 lu, .int .i64 lk, .int .i64 lt, .int .i64 lz, .int .i64 lv] 25) #[.int .i64 m0, .int .i64 m1, .int .i64 m2, .int .i64 m3, .int .i64 m4, .int .u32 ma, .int .i64 mb, .string mc, .int .i64 mp, .int .i64 mt, .bool mo] 27))
  by_cases hr : RightP lb lc lu lk lt lz lv
  · by_cases hk : m0 = 2
    · by_cases ha : ma = la
      · rcases (show verV mb mp mt < 0 ∨ 1099511627776 < verV mb mp mt ∨ (0 ≤ verV mb mp mt ∧ verV mb mp mt ≤ 1099511627776) by omega) with hv | hv | ⟨hv1, hv2⟩
        · skip
          first
              | have kr : decide (RightP lb lc lu lk lt lz lv) = true := decide_eq_true hr
              | have kr : decide (RightP lb lc lu lk lt lz lv) = false := decide_eq_false hr
          try first
              | (have ek : (m0 == 2) = true := beq_iff_eq.2 (by omega); have nk : (m0 != 2) = false := bne_eq_false_iff_eq.2 (by omega))
              | (have ek : (m0 == 2) = false := beq_eq_false_iff_ne.2 (by omega); have nk : (m0 != 2) = true := bne_iff_ne.2 (by omega))
          try first
              | (have ea : (ma == la) = true := beq_iff_eq.2 (by omega); have na : (ma != la) = false := bne_eq_false_iff_eq.2 (by omega))
              | (have ea : (ma == la) = false := beq_eq_false_iff_ne.2 (by omega); have na : (ma != la) = true := bne_iff_ne.2 (by omega))
          try first
              | (have eb0 : (mb == 0) = true := beq_iff_eq.2 (by omega); have nb0 : (mb != 0) = false := bne_eq_false_iff_eq.2 (by omega))
              | (have eb0 : (mb == 0) = false := beq_eq_false_iff_ne.2 (by omega); have nb0 : (mb != 0) = true := bne_iff_ne.2 (by omega))
          try first
              | (have eb1 : (mb == 1) = true := beq_iff_eq.2 (by omega); have nb1 : (mb != 1) = false := bne_eq_false_iff_eq.2 (by omega))
              | (have eb1 : (mb == 1) = false := beq_eq_false_iff_ne.2 (by omega); have nb1 : (mb != 1) = true := bne_iff_ne.2 (by omega))
          try first
              | (have eb2 : (mb == 2) = true := beq_iff_eq.2 (by omega); have nb2 : (mb != 2) = false := bne_eq_false_iff_eq.2 (by omega))
              | (have eb2 : (mb == 2) = false := beq_eq_false_iff_ne.2 (by omega); have nb2 : (mb != 2) = true := bne_iff_ne.2 (by omega))
          try first
              | (have eb3 : (mb == 3) = true := beq_iff_eq.2 (by omega); have nb3 : (mb != 3) = false := bne_eq_false_iff_eq.2 (by omega))
              | (have eb3 : (mb == 3) = false := beq_eq_false_iff_ne.2 (by omega); have nb3 : (mb != 3) = true := bne_iff_ne.2 (by omega))
          try first
              | (have eb4 : (mb == 4) = true := beq_iff_eq.2 (by omega); have nb4 : (mb != 4) = false := bne_eq_false_iff_eq.2 (by omega))
              | (have eb4 : (mb == 4) = false := beq_eq_false_iff_ne.2 (by omega); have nb4 : (mb != 4) = true := bne_iff_ne.2 (by omega))
          try first
              | (have eb5 : (mb == 5) = true := beq_iff_eq.2 (by omega); have nb5 : (mb != 5) = false := bne_eq_false_iff_eq.2 (by omega))
              | (have eb5 : (mb == 5) = false := beq_eq_false_iff_ne.2 (by omega); have nb5 : (mb != 5) = true := bne_iff_ne.2 (by omega))
          try first
              | have hz : mc.toList.isEmpty = true := str_empty (by omega)
              | have hz : mc.toList.isEmpty = false := str_nonempty (by omega)
          first
              | have HD := Lib.hid (show decide (FairP la lb lc lu lk lt lz lv m0 ma mb mc mp mt) = true from decide_eq_true ⟨hr, hk, ha, ⟨by omega, by omega⟩, by omega⟩)
              | have HD := Lib.hid (show decide (FairP la lb lc lu lk lt lz lv m0 ma mb mc mp mt) = false from decide_eq_false (fun h => by obtain ⟨h1, h2, h3, ⟨h4, h5⟩, h6⟩ := h; first | exact hr h1 | exact hk h2 | exact ha h3 | omega))
          try have hlo : 0 ≤ mb := by omega
          try have hhi : mb ≤ 5 := by omega
          try have hlt : mb < 0 := by omega
          try have hgt : 5 < mb := by omega
          try clear ha
          try clear hk
          try clear hb
          clear hr
          go_enter Try.func13, Try.ntmps13
          go_wp2_with (first | (go_at_call 15; ((with_reducible refine (ver_any _ _ _ _ _ _ _ _ _ _ _ _).mono ?_)); rintro e w1 ⟨rfl, hx⟩; have H1 := Lib.hid (H0.out.keep hx); clear hx; obtain ⟨p1_0_0, p1_0_1, p1_0_2, p1_0_3, p1_0_4, p1_0_5, p1_0_6, p1_0_7, p1_0_8, p1_0_9, p1_0_10⟩ := (H1.out).b0.cells11; obtain ⟨p1_1_0, p1_1_1, p1_1_2, p1_1_3, p1_1_4, p1_1_5, p1_1_6, p1_1_7⟩ := (H1.out).tl.b0.cells8) | (go_at_call 25; ((with_reducible refine (right_any _ _ _ _ _ _ _ _ _).mono ?_)); rintro e w2 ⟨rfl, hx⟩; have H2 := Lib.hid (H1.out.keep hx); clear hx; obtain ⟨p2_0_0, p2_0_1, p2_0_2, p2_0_3, p2_0_4, p2_0_5, p2_0_6, p2_0_7, p2_0_8, p2_0_9, p2_0_10⟩ := (H2.out).b0.cells11; obtain ⟨p2_1_0, p2_1_1, p2_1_2, p2_1_3, p2_1_4, p2_1_5, p2_1_6, p2_1_7⟩ := (H2.out).tl.b0.cells8))
          all_goals
            go_ret
            refine ⟨ret_bool ?_, by first | exact H2.out.2 | exact H1.out.2⟩
            first
              | exact HD.out.symm
              | (rw [HD.out]; simp; done)
              | (rw [HD.out]; simp; omega)
        · skip
          first
              | have kr : decide (RightP lb lc lu lk lt lz lv) = true := decide_eq_true hr
              | have kr : decide (RightP lb lc lu lk lt lz lv) = false := decide_eq_false hr
          try first
              | (have ek : (m0 == 2) = true := beq_iff_eq.2 (by omega); have nk : (m0 != 2) = false := bne_eq_false_iff_eq.2 (by omega))
              | (have ek : (m0 == 2) = false := beq_eq_false_iff_ne.2 (by omega); have nk : (m0 != 2) = true := bne_iff_ne.2 (by omega))
          try first
              | (have ea : (ma == la) = true := beq_iff_eq.2 (by omega); have na : (ma != la) = false := bne_eq_false_iff_eq.2 (by omega))
              | (have ea : (ma == la) = false := beq_eq_false_iff_ne.2 (by omega); have na : (ma != la) = true := bne_iff_ne.2 (by omega))
          try first
              | (have eb0 : (mb == 0) = true := beq_iff_eq.2 (by omega); have nb0 : (mb != 0) = false := bne_eq_false_iff_eq.2 (by omega))
              | (have eb0 : (mb == 0) = false := beq_eq_false_iff_ne.2 (by omega); have nb0 : (mb != 0) = true := bne_iff_ne.2 (by omega))
          try first
              | (have eb1 : (mb == 1) = true := beq_iff_eq.2 (by omega); have nb1 : (mb != 1) = false := bne_eq_false_iff_eq.2 (by omega))
              | (have eb1 : (mb == 1) = false := beq_eq_false_iff_ne.2 (by omega); have nb1 : (mb != 1) = true := bne_iff_ne.2 (by omega))
          try first
              | (have eb2 : (mb == 2) = true := beq_iff_eq.2 (by omega); have nb2 : (mb != 2) = false := bne_eq_false_iff_eq.2 (by omega))
              | (have eb2 : (mb == 2) = false := beq_eq_false_iff_ne.2 (by omega); have nb2 : (mb != 2) = true := bne_iff_ne.2 (by omega))
          try first
              | (have eb3 : (mb == 3) = true := beq_iff_eq.2 (by omega); have nb3 : (mb != 3) = false := bne_eq_false_iff_eq.2 (by omega))
              | (have eb3 : (mb == 3) = false := beq_eq_false_iff_ne.2 (by omega); have nb3 : (mb != 3) = true := bne_iff_ne.2 (by omega))
          try first
              | (have eb4 : (mb == 4) = true := beq_iff_eq.2 (by omega); have nb4 : (mb != 4) = false := bne_eq_false_iff_eq.2 (by omega))
              | (have eb4 : (mb == 4) = false := beq_eq_false_iff_ne.2 (by omega); have nb4 : (mb != 4) = true := bne_iff_ne.2 (by omega))
          try first
              | (have eb5 : (mb == 5) = true := beq_iff_eq.2 (by omega); have nb5 : (mb != 5) = false := bne_eq_false_iff_eq.2 (by omega))
              | (have eb5 : (mb == 5) = false := beq_eq_false_iff_ne.2 (by omega); have nb5 : (mb != 5) = true := bne_iff_ne.2 (by omega))
          try first
              | have hz : mc.toList.isEmpty = true := str_empty (by omega)
              | have hz : mc.toList.isEmpty = false := str_nonempty (by omega)
          first
              | have HD := Lib.hid (show decide (FairP la lb lc lu lk lt lz lv m0 ma mb mc mp mt) = true from decide_eq_true ⟨hr, hk, ha, ⟨by omega, by omega⟩, by omega⟩)
              | have HD := Lib.hid (show decide (FairP la lb lc lu lk lt lz lv m0 ma mb mc mp mt) = false from decide_eq_false (fun h => by obtain ⟨h1, h2, h3, ⟨h4, h5⟩, h6⟩ := h; first | exact hr h1 | exact hk h2 | exact ha h3 | omega))
          try have hlo : 0 ≤ mb := by omega
          try have hhi : mb ≤ 5 := by omega
          try have hlt : mb < 0 := by omega
          try have hgt : 5 < mb := by omega
          try clear ha
          try clear hk
          try clear hb
          clear hr
          go_enter Try.func13, Try.ntmps13
          go_wp2_with (first | (go_at_call 15; ((with_reducible refine (ver_any _ _ _ _ _ _ _ _ _ _ _ _).mono ?_)); rintro e w1 ⟨rfl, hx⟩; have H1 := Lib.hid (H0.out.keep hx); clear hx; obtain ⟨p1_0_0, p1_0_1, p1_0_2, p1_0_3, p1_0_4, p1_0_5, p1_0_6, p1_0_7, p1_0_8, p1_0_9, p1_0_10⟩ := (H1.out).b0.cells11; obtain ⟨p1_1_0, p1_1_1, p1_1_2, p1_1_3, p1_1_4, p1_1_5, p1_1_6, p1_1_7⟩ := (H1.out).tl.b0.cells8) | (go_at_call 25; ((with_reducible refine (right_any _ _ _ _ _ _ _ _ _).mono ?_)); rintro e w2 ⟨rfl, hx⟩; have H2 := Lib.hid (H1.out.keep hx); clear hx; obtain ⟨p2_0_0, p2_0_1, p2_0_2, p2_0_3, p2_0_4, p2_0_5, p2_0_6, p2_0_7, p2_0_8, p2_0_9, p2_0_10⟩ := (H2.out).b0.cells11; obtain ⟨p2_1_0, p2_1_1, p2_1_2, p2_1_3, p2_1_4, p2_1_5, p2_1_6, p2_1_7⟩ := (H2.out).tl.b0.cells8))
          all_goals
            go_ret
            refine ⟨ret_bool ?_, by first | exact H2.out.2 | exact H1.out.2⟩
            first
              | exact HD.out.symm
              | (rw [HD.out]; simp; done)
              | (rw [HD.out]; simp; omega)
        · rcases (show mb < 0 ∨ 5 < mb ∨ (mb = 0 ∨ mb = 1 ∨ mb = 5) ∨ (mb = 2 ∨ mb = 3 ∨ mb = 4) by omega) with hb | hb | hb | hb
          · skip
            first
                | have kr : decide (RightP lb lc lu lk lt lz lv) = true := decide_eq_true hr
                | have kr : decide (RightP lb lc lu lk lt lz lv) = false := decide_eq_false hr
            try first
                | (have ek : (m0 == 2) = true := beq_iff_eq.2 (by omega); have nk : (m0 != 2) = false := bne_eq_false_iff_eq.2 (by omega))
                | (have ek : (m0 == 2) = false := beq_eq_false_iff_ne.2 (by omega); have nk : (m0 != 2) = true := bne_iff_ne.2 (by omega))
            try first
                | (have ea : (ma == la) = true := beq_iff_eq.2 (by omega); have na : (ma != la) = false := bne_eq_false_iff_eq.2 (by omega))
                | (have ea : (ma == la) = false := beq_eq_false_iff_ne.2 (by omega); have na : (ma != la) = true := bne_iff_ne.2 (by omega))
            try first
                | (have eb0 : (mb == 0) = true := beq_iff_eq.2 (by omega); have nb0 : (mb != 0) = false := bne_eq_false_iff_eq.2 (by omega))
                | (have eb0 : (mb == 0) = false := beq_eq_false_iff_ne.2 (by omega); have nb0 : (mb != 0) = true := bne_iff_ne.2 (by omega))
            try first
                | (have eb1 : (mb == 1) = true := beq_iff_eq.2 (by omega); have nb1 : (mb != 1) = false := bne_eq_false_iff_eq.2 (by omega))
                | (have eb1 : (mb == 1) = false := beq_eq_false_iff_ne.2 (by omega); have nb1 : (mb != 1) = true := bne_iff_ne.2 (by omega))
            try first
                | (have eb2 : (mb == 2) = true := beq_iff_eq.2 (by omega); have nb2 : (mb != 2) = false := bne_eq_false_iff_eq.2 (by omega))
                | (have eb2 : (mb == 2) = false := beq_eq_false_iff_ne.2 (by omega); have nb2 : (mb != 2) = true := bne_iff_ne.2 (by omega))
            try first
                | (have eb3 : (mb == 3) = true := beq_iff_eq.2 (by omega); have nb3 : (mb != 3) = false := bne_eq_false_iff_eq.2 (by omega))
                | (have eb3 : (mb == 3) = false := beq_eq_false_iff_ne.2 (by omega); have nb3 : (mb != 3) = true := bne_iff_ne.2 (by omega))
            try first
                | (have eb4 : (mb == 4) = true := beq_iff_eq.2 (by omega); have nb4 : (mb != 4) = false := bne_eq_false_iff_eq.2 (by omega))
                | (have eb4 : (mb == 4) = false := beq_eq_false_iff_ne.2 (by omega); have nb4 : (mb != 4) = true := bne_iff_ne.2 (by omega))
            try first
                | (have eb5 : (mb == 5) = true := beq_iff_eq.2 (by omega); have nb5 : (mb != 5) = false := bne_eq_false_iff_eq.2 (by omega))
                | (have eb5 : (mb == 5) = false := beq_eq_false_iff_ne.2 (by omega); have nb5 : (mb != 5) = true := bne_iff_ne.2 (by omega))
            try first
                | have hz : mc.toList.isEmpty = true := str_empty (by omega)
                | have hz : mc.toList.isEmpty = false := str_nonempty (by omega)
            first
                | have HD := Lib.hid (show decide (FairP la lb lc lu lk lt lz lv m0 ma mb mc mp mt) = true from decide_eq_true ⟨hr, hk, ha, ⟨by omega, by omega⟩, by omega⟩)
                | have HD := Lib.hid (show decide (FairP la lb lc lu lk lt lz lv m0 ma mb mc mp mt) = false from decide_eq_false (fun h => by obtain ⟨h1, h2, h3, ⟨h4, h5⟩, h6⟩ := h; first | exact hr h1 | exact hk h2 | exact ha h3 | omega))
            try have hlo : 0 ≤ mb := by omega
            try have hhi : mb ≤ 5 := by omega
            try have hlt : mb < 0 := by omega
            try have hgt : 5 < mb := by omega
            try clear ha
            try clear hk
            try clear hb
            clear hr
            go_enter Try.func13, Try.ntmps13
            go_wp2_with (first | (go_at_call 15; ((with_reducible refine (ver_any _ _ _ _ _ _ _ _ _ _ _ _).mono ?_)); rintro e w1 ⟨rfl, hx⟩; have H1 := Lib.hid (H0.out.keep hx); clear hx; obtain ⟨p1_0_0, p1_0_1, p1_0_2, p1_0_3, p1_0_4, p1_0_5, p1_0_6, p1_0_7, p1_0_8, p1_0_9, p1_0_10⟩ := (H1.out).b0.cells11; obtain ⟨p1_1_0, p1_1_1, p1_1_2, p1_1_3, p1_1_4, p1_1_5, p1_1_6, p1_1_7⟩ := (H1.out).tl.b0.cells8) | (go_at_call 25; ((with_reducible refine (right_any _ _ _ _ _ _ _ _ _).mono ?_)); rintro e w2 ⟨rfl, hx⟩; have H2 := Lib.hid (H1.out.keep hx); clear hx; obtain ⟨p2_0_0, p2_0_1, p2_0_2, p2_0_3, p2_0_4, p2_0_5, p2_0_6, p2_0_7, p2_0_8, p2_0_9, p2_0_10⟩ := (H2.out).b0.cells11; obtain ⟨p2_1_0, p2_1_1, p2_1_2, p2_1_3, p2_1_4, p2_1_5, p2_1_6, p2_1_7⟩ := (H2.out).tl.b0.cells8))
            all_goals
              go_ret
              refine ⟨ret_bool ?_, by first | exact H2.out.2 | exact H1.out.2⟩
              first
                | exact HD.out.symm
                | (rw [HD.out]; simp; done)
                | (rw [HD.out]; simp; omega)
          · skip
            first
                | have kr : decide (RightP lb lc lu lk lt lz lv) = true := decide_eq_true hr
                | have kr : decide (RightP lb lc lu lk lt lz lv) = false := decide_eq_false hr
            try first
                | (have ek : (m0 == 2) = true := beq_iff_eq.2 (by omega); have nk : (m0 != 2) = false := bne_eq_false_iff_eq.2 (by omega))
                | (have ek : (m0 == 2) = false := beq_eq_false_iff_ne.2 (by omega); have nk : (m0 != 2) = true := bne_iff_ne.2 (by omega))
            try first
                | (have ea : (ma == la) = true := beq_iff_eq.2 (by omega); have na : (ma != la) = false := bne_eq_false_iff_eq.2 (by omega))
                | (have ea : (ma == la) = false := beq_eq_false_iff_ne.2 (by omega); have na : (ma != la) = true := bne_iff_ne.2 (by omega))
            try first
                | (have eb0 : (mb == 0) = true := beq_iff_eq.2 (by omega); have nb0 : (mb != 0) = false := bne_eq_false_iff_eq.2 (by omega))
                | (have eb0 : (mb == 0) = false := beq_eq_false_iff_ne.2 (by omega); have nb0 : (mb != 0) = true := bne_iff_ne.2 (by omega))
            try first
                | (have eb1 : (mb == 1) = true := beq_iff_eq.2 (by omega); have nb1 : (mb != 1) = false := bne_eq_false_iff_eq.2 (by omega))
                | (have eb1 : (mb == 1) = false := beq_eq_false_iff_ne.2 (by omega); have nb1 : (mb != 1) = true := bne_iff_ne.2 (by omega))
            try first
                | (have eb2 : (mb == 2) = true := beq_iff_eq.2 (by omega); have nb2 : (mb != 2) = false := bne_eq_false_iff_eq.2 (by omega))
                | (have eb2 : (mb == 2) = false := beq_eq_false_iff_ne.2 (by omega); have nb2 : (mb != 2) = true := bne_iff_ne.2 (by omega))
            try first
                | (have eb3 : (mb == 3) = true := beq_iff_eq.2 (by omega); have nb3 : (mb != 3) = false := bne_eq_false_iff_eq.2 (by omega))
                | (have eb3 : (mb == 3) = false := beq_eq_false_iff_ne.2 (by omega); have nb3 : (mb != 3) = true := bne_iff_ne.2 (by omega))
            try first
                | (have eb4 : (mb == 4) = true := beq_iff_eq.2 (by omega); have nb4 : (mb != 4) = false := bne_eq_false_iff_eq.2 (by omega))
                | (have eb4 : (mb == 4) = false := beq_eq_false_iff_ne.2 (by omega); have nb4 : (mb != 4) = true := bne_iff_ne.2 (by omega))
            try first
                | (have eb5 : (mb == 5) = true := beq_iff_eq.2 (by omega); have nb5 : (mb != 5) = false := bne_eq_false_iff_eq.2 (by omega))
                | (have eb5 : (mb == 5) = false := beq_eq_false_iff_ne.2 (by omega); have nb5 : (mb != 5) = true := bne_iff_ne.2 (by omega))
            try first
                | have hz : mc.toList.isEmpty = true := str_empty (by omega)
                | have hz : mc.toList.isEmpty = false := str_nonempty (by omega)
            first
                | have HD := Lib.hid (show decide (FairP la lb lc lu lk lt lz lv m0 ma mb mc mp mt) = true from decide_eq_true ⟨hr, hk, ha, ⟨by omega, by omega⟩, by omega⟩)
                | have HD := Lib.hid (show decide (FairP la lb lc lu lk lt lz lv m0 ma mb mc mp mt) = false from decide_eq_false (fun h => by obtain ⟨h1, h2, h3, ⟨h4, h5⟩, h6⟩ := h; first | exact hr h1 | exact hk h2 | exact ha h3 | omega))
            try have hlo : 0 ≤ mb := by omega
            try have hhi : mb ≤ 5 := by omega
            try have hlt : mb < 0 := by omega
            try have hgt : 5 < mb := by omega
            try clear ha
            try clear hk
            try clear hb
            clear hr
            go_enter Try.func13, Try.ntmps13
            go_wp2_with (first | (go_at_call 15; ((with_reducible refine (ver_any _ _ _ _ _ _ _ _ _ _ _ _).mono ?_)); rintro e w1 ⟨rfl, hx⟩; have H1 := Lib.hid (H0.out.keep hx); clear hx; obtain ⟨p1_0_0, p1_0_1, p1_0_2, p1_0_3, p1_0_4, p1_0_5, p1_0_6, p1_0_7, p1_0_8, p1_0_9, p1_0_10⟩ := (H1.out).b0.cells11; obtain ⟨p1_1_0, p1_1_1, p1_1_2, p1_1_3, p1_1_4, p1_1_5, p1_1_6, p1_1_7⟩ := (H1.out).tl.b0.cells8) | (go_at_call 25; ((with_reducible refine (right_any _ _ _ _ _ _ _ _ _).mono ?_)); rintro e w2 ⟨rfl, hx⟩; have H2 := Lib.hid (H1.out.keep hx); clear hx; obtain ⟨p2_0_0, p2_0_1, p2_0_2, p2_0_3, p2_0_4, p2_0_5, p2_0_6, p2_0_7, p2_0_8, p2_0_9, p2_0_10⟩ := (H2.out).b0.cells11; obtain ⟨p2_1_0, p2_1_1, p2_1_2, p2_1_3, p2_1_4, p2_1_5, p2_1_6, p2_1_7⟩ := (H2.out).tl.b0.cells8))
            all_goals
              go_ret
              refine ⟨ret_bool ?_, by first | exact H2.out.2 | exact H1.out.2⟩
              first
                | exact HD.out.symm
                | (rw [HD.out]; simp; done)
                | (rw [HD.out]; simp; omega)
          · rcases hb with hb | hb | hb
            all_goals
              first
                  | have kr : decide (RightP lb lc lu lk lt lz lv) = true := decide_eq_true hr
                  | have kr : decide (RightP lb lc lu lk lt lz lv) = false := decide_eq_false hr
              try first
                  | (have ek : (m0 == 2) = true := beq_iff_eq.2 (by omega); have nk : (m0 != 2) = false := bne_eq_false_iff_eq.2 (by omega))
                  | (have ek : (m0 == 2) = false := beq_eq_false_iff_ne.2 (by omega); have nk : (m0 != 2) = true := bne_iff_ne.2 (by omega))
              try first
                  | (have ea : (ma == la) = true := beq_iff_eq.2 (by omega); have na : (ma != la) = false := bne_eq_false_iff_eq.2 (by omega))
                  | (have ea : (ma == la) = false := beq_eq_false_iff_ne.2 (by omega); have na : (ma != la) = true := bne_iff_ne.2 (by omega))
              try first
                  | (have eb0 : (mb == 0) = true := beq_iff_eq.2 (by omega); have nb0 : (mb != 0) = false := bne_eq_false_iff_eq.2 (by omega))
                  | (have eb0 : (mb == 0) = false := beq_eq_false_iff_ne.2 (by omega); have nb0 : (mb != 0) = true := bne_iff_ne.2 (by omega))
              try first
                  | (have eb1 : (mb == 1) = true := beq_iff_eq.2 (by omega); have nb1 : (mb != 1) = false := bne_eq_false_iff_eq.2 (by omega))
                  | (have eb1 : (mb == 1) = false := beq_eq_false_iff_ne.2 (by omega); have nb1 : (mb != 1) = true := bne_iff_ne.2 (by omega))
              try first
                  | (have eb2 : (mb == 2) = true := beq_iff_eq.2 (by omega); have nb2 : (mb != 2) = false := bne_eq_false_iff_eq.2 (by omega))
                  | (have eb2 : (mb == 2) = false := beq_eq_false_iff_ne.2 (by omega); have nb2 : (mb != 2) = true := bne_iff_ne.2 (by omega))
              try first
                  | (have eb3 : (mb == 3) = true := beq_iff_eq.2 (by omega); have nb3 : (mb != 3) = false := bne_eq_false_iff_eq.2 (by omega))
                  | (have eb3 : (mb == 3) = false := beq_eq_false_iff_ne.2 (by omega); have nb3 : (mb != 3) = true := bne_iff_ne.2 (by omega))
              try first
                  | (have eb4 : (mb == 4) = true := beq_iff_eq.2 (by omega); have nb4 : (mb != 4) = false := bne_eq_false_iff_eq.2 (by omega))
                  | (have eb4 : (mb == 4) = false := beq_eq_false_iff_ne.2 (by omega); have nb4 : (mb != 4) = true := bne_iff_ne.2 (by omega))
              try first
                  | (have eb5 : (mb == 5) = true := beq_iff_eq.2 (by omega); have nb5 : (mb != 5) = false := bne_eq_false_iff_eq.2 (by omega))
                  | (have eb5 : (mb == 5) = false := beq_eq_false_iff_ne.2 (by omega); have nb5 : (mb != 5) = true := bne_iff_ne.2 (by omega))
              try first
                  | have hz : mc.toList.isEmpty = true := str_empty (by omega)
                  | have hz : mc.toList.isEmpty = false := str_nonempty (by omega)
              first
                  | have HD := Lib.hid (show decide (FairP la lb lc lu lk lt lz lv m0 ma mb mc mp mt) = true from decide_eq_true ⟨hr, hk, ha, ⟨by omega, by omega⟩, by omega⟩)
                  | have HD := Lib.hid (show decide (FairP la lb lc lu lk lt lz lv m0 ma mb mc mp mt) = false from decide_eq_false (fun h => by obtain ⟨h1, h2, h3, ⟨h4, h5⟩, h6⟩ := h; first | exact hr h1 | exact hk h2 | exact ha h3 | omega))
              try have hlo : 0 ≤ mb := by omega
              try have hhi : mb ≤ 5 := by omega
              try have hlt : mb < 0 := by omega
              try have hgt : 5 < mb := by omega
              try clear ha
              try clear hk
              try clear hb
              clear hr
              go_enter Try.func13, Try.ntmps13
              go_wp2_with (first | (go_at_call 15; ((with_reducible refine (ver_any _ _ _ _ _ _ _ _ _ _ _ _).mono ?_)); rintro e w1 ⟨rfl, hx⟩; have H1 := Lib.hid (H0.out.keep hx); clear hx; obtain ⟨p1_0_0, p1_0_1, p1_0_2, p1_0_3, p1_0_4, p1_0_5, p1_0_6, p1_0_7, p1_0_8, p1_0_9, p1_0_10⟩ := (H1.out).b0.cells11; obtain ⟨p1_1_0, p1_1_1, p1_1_2, p1_1_3, p1_1_4, p1_1_5, p1_1_6, p1_1_7⟩ := (H1.out).tl.b0.cells8) | (go_at_call 25; ((with_reducible refine (right_any _ _ _ _ _ _ _ _ _).mono ?_)); rintro e w2 ⟨rfl, hx⟩; have H2 := Lib.hid (H1.out.keep hx); clear hx; obtain ⟨p2_0_0, p2_0_1, p2_0_2, p2_0_3, p2_0_4, p2_0_5, p2_0_6, p2_0_7, p2_0_8, p2_0_9, p2_0_10⟩ := (H2.out).b0.cells11; obtain ⟨p2_1_0, p2_1_1, p2_1_2, p2_1_3, p2_1_4, p2_1_5, p2_1_6, p2_1_7⟩ := (H2.out).tl.b0.cells8))
              all_goals
                go_ret
                refine ⟨ret_bool ?_, by first | exact H2.out.2 | exact H1.out.2⟩
                first
                  | exact HD.out.symm
                  | (rw [HD.out]; simp; done)
                  | (rw [HD.out]; simp; omega)
          · rcases (show mc.size < 1 ∨ (1 ≤ mc.size ∧ mc.size ≤ 32) ∨ 32 < mc.size by omega) with hs | ⟨hs, hs2⟩ | hs
            all_goals
              rcases hb with hb | hb | hb
              all_goals
                first
                    | have kr : decide (RightP lb lc lu lk lt lz lv) = true := decide_eq_true hr
                    | have kr : decide (RightP lb lc lu lk lt lz lv) = false := decide_eq_false hr
                try first
                    | (have ek : (m0 == 2) = true := beq_iff_eq.2 (by omega); have nk : (m0 != 2) = false := bne_eq_false_iff_eq.2 (by omega))
                    | (have ek : (m0 == 2) = false := beq_eq_false_iff_ne.2 (by omega); have nk : (m0 != 2) = true := bne_iff_ne.2 (by omega))
                try first
                    | (have ea : (ma == la) = true := beq_iff_eq.2 (by omega); have na : (ma != la) = false := bne_eq_false_iff_eq.2 (by omega))
                    | (have ea : (ma == la) = false := beq_eq_false_iff_ne.2 (by omega); have na : (ma != la) = true := bne_iff_ne.2 (by omega))
                try first
                    | (have eb0 : (mb == 0) = true := beq_iff_eq.2 (by omega); have nb0 : (mb != 0) = false := bne_eq_false_iff_eq.2 (by omega))
                    | (have eb0 : (mb == 0) = false := beq_eq_false_iff_ne.2 (by omega); have nb0 : (mb != 0) = true := bne_iff_ne.2 (by omega))
                try first
                    | (have eb1 : (mb == 1) = true := beq_iff_eq.2 (by omega); have nb1 : (mb != 1) = false := bne_eq_false_iff_eq.2 (by omega))
                    | (have eb1 : (mb == 1) = false := beq_eq_false_iff_ne.2 (by omega); have nb1 : (mb != 1) = true := bne_iff_ne.2 (by omega))
                try first
                    | (have eb2 : (mb == 2) = true := beq_iff_eq.2 (by omega); have nb2 : (mb != 2) = false := bne_eq_false_iff_eq.2 (by omega))
                    | (have eb2 : (mb == 2) = false := beq_eq_false_iff_ne.2 (by omega); have nb2 : (mb != 2) = true := bne_iff_ne.2 (by omega))
                try first
                    | (have eb3 : (mb == 3) = true := beq_iff_eq.2 (by omega); have nb3 : (mb != 3) = false := bne_eq_false_iff_eq.2 (by omega))
                    | (have eb3 : (mb == 3) = false := beq_eq_false_iff_ne.2 (by omega); have nb3 : (mb != 3) = true := bne_iff_ne.2 (by omega))
                try first
                    | (have eb4 : (mb == 4) = true := beq_iff_eq.2 (by omega); have nb4 : (mb != 4) = false := bne_eq_false_iff_eq.2 (by omega))
                    | (have eb4 : (mb == 4) = false := beq_eq_false_iff_ne.2 (by omega); have nb4 : (mb != 4) = true := bne_iff_ne.2 (by omega))
                try first
                    | (have eb5 : (mb == 5) = true := beq_iff_eq.2 (by omega); have nb5 : (mb != 5) = false := bne_eq_false_iff_eq.2 (by omega))
                    | (have eb5 : (mb == 5) = false := beq_eq_false_iff_ne.2 (by omega); have nb5 : (mb != 5) = true := bne_iff_ne.2 (by omega))
                try first
                    | have hz : mc.toList.isEmpty = true := str_empty (by omega)
                    | have hz : mc.toList.isEmpty = false := str_nonempty (by omega)
                first
                    | have HD := Lib.hid (show decide (FairP la lb lc lu lk lt lz lv m0 ma mb mc mp mt) = true from decide_eq_true ⟨hr, hk, ha, ⟨by omega, by omega⟩, by omega⟩)
                    | have HD := Lib.hid (show decide (FairP la lb lc lu lk lt lz lv m0 ma mb mc mp mt) = false from decide_eq_false (fun h => by obtain ⟨h1, h2, h3, ⟨h4, h5⟩, h6⟩ := h; first | exact hr h1 | exact hk h2 | exact ha h3 | omega))
                try have hlo : 0 ≤ mb := by omega
                try have hhi : mb ≤ 5 := by omega
                try have hlt : mb < 0 := by omega
                try have hgt : 5 < mb := by omega
                try clear ha
                try clear hk
                try clear hb
                clear hr
                go_enter Try.func13, Try.ntmps13
                go_wp2_with (first | (go_at_call 15; ((with_reducible refine (ver_any _ _ _ _ _ _ _ _ _ _ _ _).mono ?_)); rintro e w1 ⟨rfl, hx⟩; have H1 := Lib.hid (H0.out.keep hx); clear hx; obtain ⟨p1_0_0, p1_0_1, p1_0_2, p1_0_3, p1_0_4, p1_0_5, p1_0_6, p1_0_7, p1_0_8, p1_0_9, p1_0_10⟩ := (H1.out).b0.cells11; obtain ⟨p1_1_0, p1_1_1, p1_1_2, p1_1_3, p1_1_4, p1_1_5, p1_1_6, p1_1_7⟩ := (H1.out).tl.b0.cells8) | (go_at_call 25; ((with_reducible refine (right_any _ _ _ _ _ _ _ _ _).mono ?_)); rintro e w2 ⟨rfl, hx⟩; have H2 := Lib.hid (H1.out.keep hx); clear hx; obtain ⟨p2_0_0, p2_0_1, p2_0_2, p2_0_3, p2_0_4, p2_0_5, p2_0_6, p2_0_7, p2_0_8, p2_0_9, p2_0_10⟩ := (H2.out).b0.cells11; obtain ⟨p2_1_0, p2_1_1, p2_1_2, p2_1_3, p2_1_4, p2_1_5, p2_1_6, p2_1_7⟩ := (H2.out).tl.b0.cells8))
                all_goals
                  go_ret
                  refine ⟨ret_bool ?_, by first | exact H2.out.2 | exact H1.out.2⟩
                  first
                    | exact HD.out.symm
                    | (rw [HD.out]; simp; done)
                    | (rw [HD.out]; simp; omega)
      · skip
        first
            | have kr : decide (RightP lb lc lu lk lt lz lv) = true := decide_eq_true hr
            | have kr : decide (RightP lb lc lu lk lt lz lv) = false := decide_eq_false hr
        try first
            | (have ek : (m0 == 2) = true := beq_iff_eq.2 (by omega); have nk : (m0 != 2) = false := bne_eq_false_iff_eq.2 (by omega))
            | (have ek : (m0 == 2) = false := beq_eq_false_iff_ne.2 (by omega); have nk : (m0 != 2) = true := bne_iff_ne.2 (by omega))
        try first
            | (have ea : (ma == la) = true := beq_iff_eq.2 (by omega); have na : (ma != la) = false := bne_eq_false_iff_eq.2 (by omega))
            | (have ea : (ma == la) = false := beq_eq_false_iff_ne.2 (by omega); have na : (ma != la) = true := bne_iff_ne.2 (by omega))
        try first
            | (have eb0 : (mb == 0) = true := beq_iff_eq.2 (by omega); have nb0 : (mb != 0) = false := bne_eq_false_iff_eq.2 (by omega))
            | (have eb0 : (mb == 0) = false := beq_eq_false_iff_ne.2 (by omega); have nb0 : (mb != 0) = true := bne_iff_ne.2 (by omega))
        try first
            | (have eb1 : (mb == 1) = true := beq_iff_eq.2 (by omega); have nb1 : (mb != 1) = false := bne_eq_false_iff_eq.2 (by omega))
            | (have eb1 : (mb == 1) = false := beq_eq_false_iff_ne.2 (by omega); have nb1 : (mb != 1) = true := bne_iff_ne.2 (by omega))
        try first
            | (have eb2 : (mb == 2) = true := beq_iff_eq.2 (by omega); have nb2 : (mb != 2) = false := bne_eq_false_iff_eq.2 (by omega))
            | (have eb2 : (mb == 2) = false := beq_eq_false_iff_ne.2 (by omega); have nb2 : (mb != 2) = true := bne_iff_ne.2 (by omega))
        try first
            | (have eb3 : (mb == 3) = true := beq_iff_eq.2 (by omega); have nb3 : (mb != 3) = false := bne_eq_false_iff_eq.2 (by omega))
            | (have eb3 : (mb == 3) = false := beq_eq_false_iff_ne.2 (by omega); have nb3 : (mb != 3) = true := bne_iff_ne.2 (by omega))
        try first
            | (have eb4 : (mb == 4) = true := beq_iff_eq.2 (by omega); have nb4 : (mb != 4) = false := bne_eq_false_iff_eq.2 (by omega))
            | (have eb4 : (mb == 4) = false := beq_eq_false_iff_ne.2 (by omega); have nb4 : (mb != 4) = true := bne_iff_ne.2 (by omega))
        try first
            | (have eb5 : (mb == 5) = true := beq_iff_eq.2 (by omega); have nb5 : (mb != 5) = false := bne_eq_false_iff_eq.2 (by omega))
            | (have eb5 : (mb == 5) = false := beq_eq_false_iff_ne.2 (by omega); have nb5 : (mb != 5) = true := bne_iff_ne.2 (by omega))
        try first
            | have hz : mc.toList.isEmpty = true := str_empty (by omega)
            | have hz : mc.toList.isEmpty = false := str_nonempty (by omega)
        first
            | have HD := Lib.hid (show decide (FairP la lb lc lu lk lt lz lv m0 ma mb mc mp mt) = true from decide_eq_true ⟨hr, hk, ha, ⟨by omega, by omega⟩, by omega⟩)
            | have HD := Lib.hid (show decide (FairP la lb lc lu lk lt lz lv m0 ma mb mc mp mt) = false from decide_eq_false (fun h => by obtain ⟨h1, h2, h3, ⟨h4, h5⟩, h6⟩ := h; first | exact hr h1 | exact hk h2 | exact ha h3 | omega))
        try have hlo : 0 ≤ mb := by omega
        try have hhi : mb ≤ 5 := by omega
        try have hlt : mb < 0 := by omega
        try have hgt : 5 < mb := by omega
        try clear ha
        try clear hk
        try clear hb
        clear hr
        go_enter Try.func13, Try.ntmps13
        go_wp2_with (first | (go_at_call 15; ((with_reducible refine (ver_any _ _ _ _ _ _ _ _ _ _ _ _).mono ?_)); rintro e w1 ⟨rfl, hx⟩; have H1 := Lib.hid (H0.out.keep hx); clear hx; obtain ⟨p1_0_0, p1_0_1, p1_0_2, p1_0_3, p1_0_4, p1_0_5, p1_0_6, p1_0_7, p1_0_8, p1_0_9, p1_0_10⟩ := (H1.out).b0.cells11; obtain ⟨p1_1_0, p1_1_1, p1_1_2, p1_1_3, p1_1_4, p1_1_5, p1_1_6, p1_1_7⟩ := (H1.out).tl.b0.cells8) | (go_at_call 25; ((with_reducible refine (right_any _ _ _ _ _ _ _ _ _).mono ?_)); rintro e w2 ⟨rfl, hx⟩; have H2 := Lib.hid (H1.out.keep hx); clear hx; obtain ⟨p2_0_0, p2_0_1, p2_0_2, p2_0_3, p2_0_4, p2_0_5, p2_0_6, p2_0_7, p2_0_8, p2_0_9, p2_0_10⟩ := (H2.out).b0.cells11; obtain ⟨p2_1_0, p2_1_1, p2_1_2, p2_1_3, p2_1_4, p2_1_5, p2_1_6, p2_1_7⟩ := (H2.out).tl.b0.cells8))
        all_goals
          go_ret
          refine ⟨ret_bool ?_, by first | exact H2.out.2 | exact H1.out.2⟩
          first
            | exact HD.out.symm
            | (rw [HD.out]; simp; done)
            | (rw [HD.out]; simp; omega)
    · skip
      first
          | have kr : decide (RightP lb lc lu lk lt lz lv) = true := decide_eq_true hr
          | have kr : decide (RightP lb lc lu lk lt lz lv) = false := decide_eq_false hr
      try first
          | (have ek : (m0 == 2) = true := beq_iff_eq.2 (by omega); have nk : (m0 != 2) = false := bne_eq_false_iff_eq.2 (by omega))
          | (have ek : (m0 == 2) = false := beq_eq_false_iff_ne.2 (by omega); have nk : (m0 != 2) = true := bne_iff_ne.2 (by omega))
      try first
          | (have ea : (ma == la) = true := beq_iff_eq.2 (by omega); have na : (ma != la) = false := bne_eq_false_iff_eq.2 (by omega))
          | (have ea : (ma == la) = false := beq_eq_false_iff_ne.2 (by omega); have na : (ma != la) = true := bne_iff_ne.2 (by omega))
      try first
          | (have eb0 : (mb == 0) = true := beq_iff_eq.2 (by omega); have nb0 : (mb != 0) = false := bne_eq_false_iff_eq.2 (by omega))
          | (have eb0 : (mb == 0) = false := beq_eq_false_iff_ne.2 (by omega); have nb0 : (mb != 0) = true := bne_iff_ne.2 (by omega))
      try first
          | (have eb1 : (mb == 1) = true := beq_iff_eq.2 (by omega); have nb1 : (mb != 1) = false := bne_eq_false_iff_eq.2 (by omega))
          | (have eb1 : (mb == 1) = false := beq_eq_false_iff_ne.2 (by omega); have nb1 : (mb != 1) = true := bne_iff_ne.2 (by omega))
      try first
          | (have eb2 : (mb == 2) = true := beq_iff_eq.2 (by omega); have nb2 : (mb != 2) = false := bne_eq_false_iff_eq.2 (by omega))
          | (have eb2 : (mb == 2) = false := beq_eq_false_iff_ne.2 (by omega); have nb2 : (mb != 2) = true := bne_iff_ne.2 (by omega))
      try first
          | (have eb3 : (mb == 3) = true := beq_iff_eq.2 (by omega); have nb3 : (mb != 3) = false := bne_eq_false_iff_eq.2 (by omega))
          | (have eb3 : (mb == 3) = false := beq_eq_false_iff_ne.2 (by omega); have nb3 : (mb != 3) = true := bne_iff_ne.2 (by omega))
      try first
          | (have eb4 : (mb == 4) = true := beq_iff_eq.2 (by omega); have nb4 : (mb != 4) = false := bne_eq_false_iff_eq.2 (by omega))
          | (have eb4 : (mb == 4) = false := beq_eq_false_iff_ne.2 (by omega); have nb4 : (mb != 4) = true := bne_iff_ne.2 (by omega))
      try first
          | (have eb5 : (mb == 5) = true := beq_iff_eq.2 (by omega); have nb5 : (mb != 5) = false := bne_eq_false_iff_eq.2 (by omega))
          | (have eb5 : (mb == 5) = false := beq_eq_false_iff_ne.2 (by omega); have nb5 : (mb != 5) = true := bne_iff_ne.2 (by omega))
      try first
          | have hz : mc.toList.isEmpty = true := str_empty (by omega)
          | have hz : mc.toList.isEmpty = false := str_nonempty (by omega)
      first
          | have HD := Lib.hid (show decide (FairP la lb lc lu lk lt lz lv m0 ma mb mc mp mt) = true from decide_eq_true ⟨hr, hk, ha, ⟨by omega, by omega⟩, by omega⟩)
          | have HD := Lib.hid (show decide (FairP la lb lc lu lk lt lz lv m0 ma mb mc mp mt) = false from decide_eq_false (fun h => by obtain ⟨h1, h2, h3, ⟨h4, h5⟩, h6⟩ := h; first | exact hr h1 | exact hk h2 | exact ha h3 | omega))
      try have hlo : 0 ≤ mb := by omega
      try have hhi : mb ≤ 5 := by omega
      try have hlt : mb < 0 := by omega
      try have hgt : 5 < mb := by omega
      try clear ha
      try clear hk
      try clear hb
      clear hr
      go_enter Try.func13, Try.ntmps13
      go_wp2_with (first | (go_at_call 15; ((with_reducible refine (ver_any _ _ _ _ _ _ _ _ _ _ _ _).mono ?_)); rintro e w1 ⟨rfl, hx⟩; have H1 := Lib.hid (H0.out.keep hx); clear hx; obtain ⟨p1_0_0, p1_0_1, p1_0_2, p1_0_3, p1_0_4, p1_0_5, p1_0_6, p1_0_7, p1_0_8, p1_0_9, p1_0_10⟩ := (H1.out).b0.cells11; obtain ⟨p1_1_0, p1_1_1, p1_1_2, p1_1_3, p1_1_4, p1_1_5, p1_1_6, p1_1_7⟩ := (H1.out).tl.b0.cells8) | (go_at_call 25; ((with_reducible refine (right_any _ _ _ _ _ _ _ _ _).mono ?_)); rintro e w2 ⟨rfl, hx⟩; have H2 := Lib.hid (H1.out.keep hx); clear hx; obtain ⟨p2_0_0, p2_0_1, p2_0_2, p2_0_3, p2_0_4, p2_0_5, p2_0_6, p2_0_7, p2_0_8, p2_0_9, p2_0_10⟩ := (H2.out).b0.cells11; obtain ⟨p2_1_0, p2_1_1, p2_1_2, p2_1_3, p2_1_4, p2_1_5, p2_1_6, p2_1_7⟩ := (H2.out).tl.b0.cells8))
      all_goals
        go_ret
        refine ⟨ret_bool ?_, by first | exact H2.out.2 | exact H1.out.2⟩
        first
          | exact HD.out.symm
          | (rw [HD.out]; simp; done)
          | (rw [HD.out]; simp; omega)
  · skip
    first
        | have kr : decide (RightP lb lc lu lk lt lz lv) = true := decide_eq_true hr
        | have kr : decide (RightP lb lc lu lk lt lz lv) = false := decide_eq_false hr
    try first
        | (have ek : (m0 == 2) = true := beq_iff_eq.2 (by omega); have nk : (m0 != 2) = false := bne_eq_false_iff_eq.2 (by omega))
        | (have ek : (m0 == 2) = false := beq_eq_false_iff_ne.2 (by omega); have nk : (m0 != 2) = true := bne_iff_ne.2 (by omega))
    try first
        | (have ea : (ma == la) = true := beq_iff_eq.2 (by omega); have na : (ma != la) = false := bne_eq_false_iff_eq.2 (by omega))
        | (have ea : (ma == la) = false := beq_eq_false_iff_ne.2 (by omega); have na : (ma != la) = true := bne_iff_ne.2 (by omega))
    try first
        | (have eb0 : (mb == 0) = true := beq_iff_eq.2 (by omega); have nb0 : (mb != 0) = false := bne_eq_false_iff_eq.2 (by omega))
        | (have eb0 : (mb == 0) = false := beq_eq_false_iff_ne.2 (by omega); have nb0 : (mb != 0) = true := bne_iff_ne.2 (by omega))
    try first
        | (have eb1 : (mb == 1) = true := beq_iff_eq.2 (by omega); have nb1 : (mb != 1) = false := bne_eq_false_iff_eq.2 (by omega))
        | (have eb1 : (mb == 1) = false := beq_eq_false_iff_ne.2 (by omega); have nb1 : (mb != 1) = true := bne_iff_ne.2 (by omega))
    try first
        | (have eb2 : (mb == 2) = true := beq_iff_eq.2 (by omega); have nb2 : (mb != 2) = false := bne_eq_false_iff_eq.2 (by omega))
        | (have eb2 : (mb == 2) = false := beq_eq_false_iff_ne.2 (by omega); have nb2 : (mb != 2) = true := bne_iff_ne.2 (by omega))
    try first
        | (have eb3 : (mb == 3) = true := beq_iff_eq.2 (by omega); have nb3 : (mb != 3) = false := bne_eq_false_iff_eq.2 (by omega))
        | (have eb3 : (mb == 3) = false := beq_eq_false_iff_ne.2 (by omega); have nb3 : (mb != 3) = true := bne_iff_ne.2 (by omega))
    try first
        | (have eb4 : (mb == 4) = true := beq_iff_eq.2 (by omega); have nb4 : (mb != 4) = false := bne_eq_false_iff_eq.2 (by omega))
        | (have eb4 : (mb == 4) = false := beq_eq_false_iff_ne.2 (by omega); have nb4 : (mb != 4) = true := bne_iff_ne.2 (by omega))
    try first
        | (have eb5 : (mb == 5) = true := beq_iff_eq.2 (by omega); have nb5 : (mb != 5) = false := bne_eq_false_iff_eq.2 (by omega))
        | (have eb5 : (mb == 5) = false := beq_eq_false_iff_ne.2 (by omega); have nb5 : (mb != 5) = true := bne_iff_ne.2 (by omega))
    try first
        | have hz : mc.toList.isEmpty = true := str_empty (by omega)
        | have hz : mc.toList.isEmpty = false := str_nonempty (by omega)
    first
        | have HD := Lib.hid (show decide (FairP la lb lc lu lk lt lz lv m0 ma mb mc mp mt) = true from decide_eq_true ⟨hr, hk, ha, ⟨by omega, by omega⟩, by omega⟩)
        | have HD := Lib.hid (show decide (FairP la lb lc lu lk lt lz lv m0 ma mb mc mp mt) = false from decide_eq_false (fun h => by obtain ⟨h1, h2, h3, ⟨h4, h5⟩, h6⟩ := h; first | exact hr h1 | exact hk h2 | exact ha h3 | omega))
    try have hlo : 0 ≤ mb := by omega
    try have hhi : mb ≤ 5 := by omega
    try have hlt : mb < 0 := by omega
    try have hgt : 5 < mb := by omega
    try clear ha
    try clear hk
    try clear hb
    clear hr
    go_enter Try.func13, Try.ntmps13
    go_wp2_with (first | (go_at_call 15; ((with_reducible refine (ver_any _ _ _ _ _ _ _ _ _ _ _ _).mono ?_)); rintro e w1 ⟨rfl, hx⟩; have H1 := Lib.hid (H0.out.keep hx); clear hx; obtain ⟨p1_0_0, p1_0_1, p1_0_2, p1_0_3, p1_0_4, p1_0_5, p1_0_6, p1_0_7, p1_0_8, p1_0_9, p1_0_10⟩ := (H1.out).b0.cells11; obtain ⟨p1_1_0, p1_1_1, p1_1_2, p1_1_3, p1_1_4, p1_1_5, p1_1_6, p1_1_7⟩ := (H1.out).tl.b0.cells8) | (go_at_call 25; ((with_reducible refine (right_any _ _ _ _ _ _ _ _ _).mono ?_)); rintro e w2 ⟨rfl, hx⟩; have H2 := Lib.hid (H1.out.keep hx); clear hx; obtain ⟨p2_0_0, p2_0_1, p2_0_2, p2_0_3, p2_0_4, p2_0_5, p2_0_6, p2_0_7, p2_0_8, p2_0_9, p2_0_10⟩ := (H2.out).b0.cells11; obtain ⟨p2_1_0, p2_1_1, p2_1_2, p2_1_3, p2_1_4, p2_1_5, p2_1_6, p2_1_7⟩ := (H2.out).tl.b0.cells8))
    all_goals
      go_ret
      refine ⟨ret_bool ?_, by first | exact H2.out.2 | exact H1.out.2⟩
      first
        | exact HD.out.symm
        | (rw [HD.out]; simp; done)
        | (rw [HD.out]; simp; omega)

set_option maxRecDepth 100000 in
set_option maxHeartbeats 4000000 in
theorem rfair_any (la lb : Int) (lc : ByteArray) (lu lk lt lz lv : Int) (m0 m1 m2 m3 m4 ma mb : Int) (mc : ByteArray) (mp mt : Int) (mo : Bool) (w : World) : Calls Try.prog 19 #[.agg #[.int .u32 la, .int .i64 lb, .string lc, .int .i64 lu, .int .i64 lk, .int .i64 lt, .int .i64 lz, .int .i64 lv], .agg #[.int .i64 m0, .int .i64 m1, .int .i64 m2, .int .i64 m3, .int .i64 m4, .int .u32 ma, .int .i64 mb, .string mc, .int .i64 mp, .int .i64 mt, .bool mo]] w fun e w' => e = .returned (.bool (decide (FairP la lb lc lu lk lt lz lv m0 ma mb mc mp mt))) ∧ Below w.heap.size w w' := by
  have H0 := Lib.hid (((HeldB.nil (lowA (low0 w (.cells #[.int .u32 la, .int .i64 lb, .string lc, .int .i64 lu, .int .i64 lk, .int .i64 lt, .int .i64 lz, .int .i64 lv] 25)) (.cells #[.int .i64 m0, .int .i64 m1, .int .i64 m2, .int .i64 m3, .int .i64 m4, .int .u32 ma, .int .i64 mb, .string mc, .int .i64 mp, .int .i64 mt, .bool mo] 27))).cons (Blk.new2' w #[.int .u32 la, .int .i64 lb, .string lc, .int .i64 lu, .int .i64 lk, .int .i64 lt, .int .i64 lz, .int .i64 lv] 25 (.cells #[.int .i64 m0, .int .i64 m1, .int .i64 m2, .int .i64 m3, .int .i64 m4, .int .u32 ma, .int .i64 mb, .string mc, .int .i64 mp, .int .i64 mt, .bool mo] 27))).cons (Blk.new2 w (.cells #[.int .u32 la, .int .i64 lb, .string lc, .int .i64 lu, .int .i64 lk, .int .i64 lt, .int .i64 lz, .int .i64 lv] 25) #[.int .i64 m0, .int .i64 m1, .int .i64 m2, .int .i64 m3, .int .i64 m4, .int .u32 ma, .int .i64 mb, .string mc, .int .i64 mp, .int .i64 mt, .bool mo] 27))
  by_cases hr : RightP lb lc lu lk lt lz lv
  · by_cases hk : m0 = 2
    · by_cases ha : ma = la
      · rcases (show verV mb mp mt < 0 ∨ 1099511627776 < verV mb mp mt ∨ (0 ≤ verV mb mp mt ∧ verV mb mp mt ≤ 1099511627776) by omega) with hv | hv | ⟨hv1, hv2⟩
        · skip
          first
              | have kr : decide (RightP lb lc lu lk lt lz lv) = true := decide_eq_true hr
              | have kr : decide (RightP lb lc lu lk lt lz lv) = false := decide_eq_false hr
          try first
              | (have ek : (m0 == 2) = true := beq_iff_eq.2 (by omega); have nk : (m0 != 2) = false := bne_eq_false_iff_eq.2 (by omega))
              | (have ek : (m0 == 2) = false := beq_eq_false_iff_ne.2 (by omega); have nk : (m0 != 2) = true := bne_iff_ne.2 (by omega))
          try first
              | (have ea : (ma == la) = true := beq_iff_eq.2 (by omega); have na : (ma != la) = false := bne_eq_false_iff_eq.2 (by omega))
              | (have ea : (ma == la) = false := beq_eq_false_iff_ne.2 (by omega); have na : (ma != la) = true := bne_iff_ne.2 (by omega))
          try first
              | (have eb0 : (mb == 0) = true := beq_iff_eq.2 (by omega); have nb0 : (mb != 0) = false := bne_eq_false_iff_eq.2 (by omega))
              | (have eb0 : (mb == 0) = false := beq_eq_false_iff_ne.2 (by omega); have nb0 : (mb != 0) = true := bne_iff_ne.2 (by omega))
          try first
              | (have eb1 : (mb == 1) = true := beq_iff_eq.2 (by omega); have nb1 : (mb != 1) = false := bne_eq_false_iff_eq.2 (by omega))
              | (have eb1 : (mb == 1) = false := beq_eq_false_iff_ne.2 (by omega); have nb1 : (mb != 1) = true := bne_iff_ne.2 (by omega))
          try first
              | (have eb2 : (mb == 2) = true := beq_iff_eq.2 (by omega); have nb2 : (mb != 2) = false := bne_eq_false_iff_eq.2 (by omega))
              | (have eb2 : (mb == 2) = false := beq_eq_false_iff_ne.2 (by omega); have nb2 : (mb != 2) = true := bne_iff_ne.2 (by omega))
          try first
              | (have eb3 : (mb == 3) = true := beq_iff_eq.2 (by omega); have nb3 : (mb != 3) = false := bne_eq_false_iff_eq.2 (by omega))
              | (have eb3 : (mb == 3) = false := beq_eq_false_iff_ne.2 (by omega); have nb3 : (mb != 3) = true := bne_iff_ne.2 (by omega))
          try first
              | (have eb4 : (mb == 4) = true := beq_iff_eq.2 (by omega); have nb4 : (mb != 4) = false := bne_eq_false_iff_eq.2 (by omega))
              | (have eb4 : (mb == 4) = false := beq_eq_false_iff_ne.2 (by omega); have nb4 : (mb != 4) = true := bne_iff_ne.2 (by omega))
          try first
              | (have eb5 : (mb == 5) = true := beq_iff_eq.2 (by omega); have nb5 : (mb != 5) = false := bne_eq_false_iff_eq.2 (by omega))
              | (have eb5 : (mb == 5) = false := beq_eq_false_iff_ne.2 (by omega); have nb5 : (mb != 5) = true := bne_iff_ne.2 (by omega))
          try first
              | have kh : decide (2 ≤ mb ∧ mb ≤ 4) = true := decide_eq_true (by omega)
              | have kh : decide (2 ≤ mb ∧ mb ≤ 4) = false := decide_eq_false (by omega)
          try first
              | have hz : mc.toList.isEmpty = true := str_empty (by omega)
              | have hz : mc.toList.isEmpty = false := str_nonempty (by omega)
          first
              | have HD := Lib.hid (show decide (FairP la lb lc lu lk lt lz lv m0 ma mb mc mp mt) = true from decide_eq_true ⟨hr, hk, ha, ⟨by omega, by omega⟩, by omega⟩)
              | have HD := Lib.hid (show decide (FairP la lb lc lu lk lt lz lv m0 ma mb mc mp mt) = false from decide_eq_false (fun h => by obtain ⟨h1, h2, h3, ⟨h4, h5⟩, h6⟩ := h; first | exact hr h1 | exact hk h2 | exact ha h3 | omega))
          try have hlo : 0 ≤ mb := by omega
          try have hhi : mb ≤ 5 := by omega
          try have hlt : mb < 0 := by omega
          try have hgt : 5 < mb := by omega
          try clear ha
          try clear hk
          try clear hb
          clear hr
          go_enter Try.func19, Try.ntmps19
          go_wp2_with (first | (go_at_call 28; ((with_reducible refine (rver_any _ _ _ _ _ _ _ _ _ _ _ _).mono ?_)); rintro e w2 ⟨rfl, hx⟩; have H2 := Lib.hid (H1.out.keep hx); clear hx; obtain ⟨p2_0_0, p2_0_1, p2_0_2, p2_0_3, p2_0_4, p2_0_5, p2_0_6, p2_0_7, p2_0_8, p2_0_9, p2_0_10⟩ := (H2.out).b0.cells11; obtain ⟨p2_1_0, p2_1_1, p2_1_2, p2_1_3, p2_1_4, p2_1_5, p2_1_6, p2_1_7⟩ := (H2.out).tl.b0.cells8) | (go_at_call 12; ((with_reducible refine (rright_any _ _ _ _ _ _ _ _ _).mono ?_)); rintro e w1 ⟨rfl, hx⟩; have H1 := Lib.hid (H0.out.keep hx); clear hx; obtain ⟨p1_0_0, p1_0_1, p1_0_2, p1_0_3, p1_0_4, p1_0_5, p1_0_6, p1_0_7, p1_0_8, p1_0_9, p1_0_10⟩ := (H1.out).b0.cells11; obtain ⟨p1_1_0, p1_1_1, p1_1_2, p1_1_3, p1_1_4, p1_1_5, p1_1_6, p1_1_7⟩ := (H1.out).tl.b0.cells8) | (go_at_call 29; ((with_reducible refine (rheld_any _ _).mono ?_)); rintro e w5 ⟨rfl, rfl⟩))
          all_goals
            go_ret
            refine ⟨ret_bool ?_, by first | exact H2.out.2 | exact H1.out.2⟩
            first
              | exact HD.out.symm
              | (rw [HD.out]; simp; done)
              | (rw [HD.out]; simp; omega)
        · skip
          first
              | have kr : decide (RightP lb lc lu lk lt lz lv) = true := decide_eq_true hr
              | have kr : decide (RightP lb lc lu lk lt lz lv) = false := decide_eq_false hr
          try first
              | (have ek : (m0 == 2) = true := beq_iff_eq.2 (by omega); have nk : (m0 != 2) = false := bne_eq_false_iff_eq.2 (by omega))
              | (have ek : (m0 == 2) = false := beq_eq_false_iff_ne.2 (by omega); have nk : (m0 != 2) = true := bne_iff_ne.2 (by omega))
          try first
              | (have ea : (ma == la) = true := beq_iff_eq.2 (by omega); have na : (ma != la) = false := bne_eq_false_iff_eq.2 (by omega))
              | (have ea : (ma == la) = false := beq_eq_false_iff_ne.2 (by omega); have na : (ma != la) = true := bne_iff_ne.2 (by omega))
          try first
              | (have eb0 : (mb == 0) = true := beq_iff_eq.2 (by omega); have nb0 : (mb != 0) = false := bne_eq_false_iff_eq.2 (by omega))
              | (have eb0 : (mb == 0) = false := beq_eq_false_iff_ne.2 (by omega); have nb0 : (mb != 0) = true := bne_iff_ne.2 (by omega))
          try first
              | (have eb1 : (mb == 1) = true := beq_iff_eq.2 (by omega); have nb1 : (mb != 1) = false := bne_eq_false_iff_eq.2 (by omega))
              | (have eb1 : (mb == 1) = false := beq_eq_false_iff_ne.2 (by omega); have nb1 : (mb != 1) = true := bne_iff_ne.2 (by omega))
          try first
              | (have eb2 : (mb == 2) = true := beq_iff_eq.2 (by omega); have nb2 : (mb != 2) = false := bne_eq_false_iff_eq.2 (by omega))
              | (have eb2 : (mb == 2) = false := beq_eq_false_iff_ne.2 (by omega); have nb2 : (mb != 2) = true := bne_iff_ne.2 (by omega))
          try first
              | (have eb3 : (mb == 3) = true := beq_iff_eq.2 (by omega); have nb3 : (mb != 3) = false := bne_eq_false_iff_eq.2 (by omega))
              | (have eb3 : (mb == 3) = false := beq_eq_false_iff_ne.2 (by omega); have nb3 : (mb != 3) = true := bne_iff_ne.2 (by omega))
          try first
              | (have eb4 : (mb == 4) = true := beq_iff_eq.2 (by omega); have nb4 : (mb != 4) = false := bne_eq_false_iff_eq.2 (by omega))
              | (have eb4 : (mb == 4) = false := beq_eq_false_iff_ne.2 (by omega); have nb4 : (mb != 4) = true := bne_iff_ne.2 (by omega))
          try first
              | (have eb5 : (mb == 5) = true := beq_iff_eq.2 (by omega); have nb5 : (mb != 5) = false := bne_eq_false_iff_eq.2 (by omega))
              | (have eb5 : (mb == 5) = false := beq_eq_false_iff_ne.2 (by omega); have nb5 : (mb != 5) = true := bne_iff_ne.2 (by omega))
          try first
              | have kh : decide (2 ≤ mb ∧ mb ≤ 4) = true := decide_eq_true (by omega)
              | have kh : decide (2 ≤ mb ∧ mb ≤ 4) = false := decide_eq_false (by omega)
          try first
              | have hz : mc.toList.isEmpty = true := str_empty (by omega)
              | have hz : mc.toList.isEmpty = false := str_nonempty (by omega)
          first
              | have HD := Lib.hid (show decide (FairP la lb lc lu lk lt lz lv m0 ma mb mc mp mt) = true from decide_eq_true ⟨hr, hk, ha, ⟨by omega, by omega⟩, by omega⟩)
              | have HD := Lib.hid (show decide (FairP la lb lc lu lk lt lz lv m0 ma mb mc mp mt) = false from decide_eq_false (fun h => by obtain ⟨h1, h2, h3, ⟨h4, h5⟩, h6⟩ := h; first | exact hr h1 | exact hk h2 | exact ha h3 | omega))
          try have hlo : 0 ≤ mb := by omega
          try have hhi : mb ≤ 5 := by omega
          try have hlt : mb < 0 := by omega
          try have hgt : 5 < mb := by omega
          try clear ha
          try clear hk
          try clear hb
          clear hr
          go_enter Try.func19, Try.ntmps19
          go_wp2_with (first | (go_at_call 28; ((with_reducible refine (rver_any _ _ _ _ _ _ _ _ _ _ _ _).mono ?_)); rintro e w2 ⟨rfl, hx⟩; have H2 := Lib.hid (H1.out.keep hx); clear hx; obtain ⟨p2_0_0, p2_0_1, p2_0_2, p2_0_3, p2_0_4, p2_0_5, p2_0_6, p2_0_7, p2_0_8, p2_0_9, p2_0_10⟩ := (H2.out).b0.cells11; obtain ⟨p2_1_0, p2_1_1, p2_1_2, p2_1_3, p2_1_4, p2_1_5, p2_1_6, p2_1_7⟩ := (H2.out).tl.b0.cells8) | (go_at_call 12; ((with_reducible refine (rright_any _ _ _ _ _ _ _ _ _).mono ?_)); rintro e w1 ⟨rfl, hx⟩; have H1 := Lib.hid (H0.out.keep hx); clear hx; obtain ⟨p1_0_0, p1_0_1, p1_0_2, p1_0_3, p1_0_4, p1_0_5, p1_0_6, p1_0_7, p1_0_8, p1_0_9, p1_0_10⟩ := (H1.out).b0.cells11; obtain ⟨p1_1_0, p1_1_1, p1_1_2, p1_1_3, p1_1_4, p1_1_5, p1_1_6, p1_1_7⟩ := (H1.out).tl.b0.cells8) | (go_at_call 29; ((with_reducible refine (rheld_any _ _).mono ?_)); rintro e w5 ⟨rfl, rfl⟩))
          all_goals
            go_ret
            refine ⟨ret_bool ?_, by first | exact H2.out.2 | exact H1.out.2⟩
            first
              | exact HD.out.symm
              | (rw [HD.out]; simp; done)
              | (rw [HD.out]; simp; omega)
        · rcases (show mb < 0 ∨ 5 < mb ∨ (mb = 0 ∨ mb = 1 ∨ mb = 5) ∨ (mb = 2 ∨ mb = 3 ∨ mb = 4) by omega) with hb | hb | hb | hb
          · skip
            first
                | have kr : decide (RightP lb lc lu lk lt lz lv) = true := decide_eq_true hr
                | have kr : decide (RightP lb lc lu lk lt lz lv) = false := decide_eq_false hr
            try first
                | (have ek : (m0 == 2) = true := beq_iff_eq.2 (by omega); have nk : (m0 != 2) = false := bne_eq_false_iff_eq.2 (by omega))
                | (have ek : (m0 == 2) = false := beq_eq_false_iff_ne.2 (by omega); have nk : (m0 != 2) = true := bne_iff_ne.2 (by omega))
            try first
                | (have ea : (ma == la) = true := beq_iff_eq.2 (by omega); have na : (ma != la) = false := bne_eq_false_iff_eq.2 (by omega))
                | (have ea : (ma == la) = false := beq_eq_false_iff_ne.2 (by omega); have na : (ma != la) = true := bne_iff_ne.2 (by omega))
            try first
                | (have eb0 : (mb == 0) = true := beq_iff_eq.2 (by omega); have nb0 : (mb != 0) = false := bne_eq_false_iff_eq.2 (by omega))
                | (have eb0 : (mb == 0) = false := beq_eq_false_iff_ne.2 (by omega); have nb0 : (mb != 0) = true := bne_iff_ne.2 (by omega))
            try first
                | (have eb1 : (mb == 1) = true := beq_iff_eq.2 (by omega); have nb1 : (mb != 1) = false := bne_eq_false_iff_eq.2 (by omega))
                | (have eb1 : (mb == 1) = false := beq_eq_false_iff_ne.2 (by omega); have nb1 : (mb != 1) = true := bne_iff_ne.2 (by omega))
            try first
                | (have eb2 : (mb == 2) = true := beq_iff_eq.2 (by omega); have nb2 : (mb != 2) = false := bne_eq_false_iff_eq.2 (by omega))
                | (have eb2 : (mb == 2) = false := beq_eq_false_iff_ne.2 (by omega); have nb2 : (mb != 2) = true := bne_iff_ne.2 (by omega))
            try first
                | (have eb3 : (mb == 3) = true := beq_iff_eq.2 (by omega); have nb3 : (mb != 3) = false := bne_eq_false_iff_eq.2 (by omega))
                | (have eb3 : (mb == 3) = false := beq_eq_false_iff_ne.2 (by omega); have nb3 : (mb != 3) = true := bne_iff_ne.2 (by omega))
            try first
                | (have eb4 : (mb == 4) = true := beq_iff_eq.2 (by omega); have nb4 : (mb != 4) = false := bne_eq_false_iff_eq.2 (by omega))
                | (have eb4 : (mb == 4) = false := beq_eq_false_iff_ne.2 (by omega); have nb4 : (mb != 4) = true := bne_iff_ne.2 (by omega))
            try first
                | (have eb5 : (mb == 5) = true := beq_iff_eq.2 (by omega); have nb5 : (mb != 5) = false := bne_eq_false_iff_eq.2 (by omega))
                | (have eb5 : (mb == 5) = false := beq_eq_false_iff_ne.2 (by omega); have nb5 : (mb != 5) = true := bne_iff_ne.2 (by omega))
            try first
                | have kh : decide (2 ≤ mb ∧ mb ≤ 4) = true := decide_eq_true (by omega)
                | have kh : decide (2 ≤ mb ∧ mb ≤ 4) = false := decide_eq_false (by omega)
            try first
                | have hz : mc.toList.isEmpty = true := str_empty (by omega)
                | have hz : mc.toList.isEmpty = false := str_nonempty (by omega)
            first
                | have HD := Lib.hid (show decide (FairP la lb lc lu lk lt lz lv m0 ma mb mc mp mt) = true from decide_eq_true ⟨hr, hk, ha, ⟨by omega, by omega⟩, by omega⟩)
                | have HD := Lib.hid (show decide (FairP la lb lc lu lk lt lz lv m0 ma mb mc mp mt) = false from decide_eq_false (fun h => by obtain ⟨h1, h2, h3, ⟨h4, h5⟩, h6⟩ := h; first | exact hr h1 | exact hk h2 | exact ha h3 | omega))
            try have hlo : 0 ≤ mb := by omega
            try have hhi : mb ≤ 5 := by omega
            try have hlt : mb < 0 := by omega
            try have hgt : 5 < mb := by omega
            try clear ha
            try clear hk
            try clear hb
            clear hr
            go_enter Try.func19, Try.ntmps19
            go_wp2_with (first | (go_at_call 28; ((with_reducible refine (rver_any _ _ _ _ _ _ _ _ _ _ _ _).mono ?_)); rintro e w2 ⟨rfl, hx⟩; have H2 := Lib.hid (H1.out.keep hx); clear hx; obtain ⟨p2_0_0, p2_0_1, p2_0_2, p2_0_3, p2_0_4, p2_0_5, p2_0_6, p2_0_7, p2_0_8, p2_0_9, p2_0_10⟩ := (H2.out).b0.cells11; obtain ⟨p2_1_0, p2_1_1, p2_1_2, p2_1_3, p2_1_4, p2_1_5, p2_1_6, p2_1_7⟩ := (H2.out).tl.b0.cells8) | (go_at_call 12; ((with_reducible refine (rright_any _ _ _ _ _ _ _ _ _).mono ?_)); rintro e w1 ⟨rfl, hx⟩; have H1 := Lib.hid (H0.out.keep hx); clear hx; obtain ⟨p1_0_0, p1_0_1, p1_0_2, p1_0_3, p1_0_4, p1_0_5, p1_0_6, p1_0_7, p1_0_8, p1_0_9, p1_0_10⟩ := (H1.out).b0.cells11; obtain ⟨p1_1_0, p1_1_1, p1_1_2, p1_1_3, p1_1_4, p1_1_5, p1_1_6, p1_1_7⟩ := (H1.out).tl.b0.cells8) | (go_at_call 29; ((with_reducible refine (rheld_any _ _).mono ?_)); rintro e w5 ⟨rfl, rfl⟩))
            all_goals
              go_ret
              refine ⟨ret_bool ?_, by first | exact H2.out.2 | exact H1.out.2⟩
              first
                | exact HD.out.symm
                | (rw [HD.out]; simp; done)
                | (rw [HD.out]; simp; omega)
          · skip
            first
                | have kr : decide (RightP lb lc lu lk lt lz lv) = true := decide_eq_true hr
                | have kr : decide (RightP lb lc lu lk lt lz lv) = false := decide_eq_false hr
            try first
                | (have ek : (m0 == 2) = true := beq_iff_eq.2 (by omega); have nk : (m0 != 2) = false := bne_eq_false_iff_eq.2 (by omega))
                | (have ek : (m0 == 2) = false := beq_eq_false_iff_ne.2 (by omega); have nk : (m0 != 2) = true := bne_iff_ne.2 (by omega))
            try first
                | (have ea : (ma == la) = true := beq_iff_eq.2 (by omega); have na : (ma != la) = false := bne_eq_false_iff_eq.2 (by omega))
                | (have ea : (ma == la) = false := beq_eq_false_iff_ne.2 (by omega); have na : (ma != la) = true := bne_iff_ne.2 (by omega))
            try first
                | (have eb0 : (mb == 0) = true := beq_iff_eq.2 (by omega); have nb0 : (mb != 0) = false := bne_eq_false_iff_eq.2 (by omega))
                | (have eb0 : (mb == 0) = false := beq_eq_false_iff_ne.2 (by omega); have nb0 : (mb != 0) = true := bne_iff_ne.2 (by omega))
            try first
                | (have eb1 : (mb == 1) = true := beq_iff_eq.2 (by omega); have nb1 : (mb != 1) = false := bne_eq_false_iff_eq.2 (by omega))
                | (have eb1 : (mb == 1) = false := beq_eq_false_iff_ne.2 (by omega); have nb1 : (mb != 1) = true := bne_iff_ne.2 (by omega))
            try first
                | (have eb2 : (mb == 2) = true := beq_iff_eq.2 (by omega); have nb2 : (mb != 2) = false := bne_eq_false_iff_eq.2 (by omega))
                | (have eb2 : (mb == 2) = false := beq_eq_false_iff_ne.2 (by omega); have nb2 : (mb != 2) = true := bne_iff_ne.2 (by omega))
            try first
                | (have eb3 : (mb == 3) = true := beq_iff_eq.2 (by omega); have nb3 : (mb != 3) = false := bne_eq_false_iff_eq.2 (by omega))
                | (have eb3 : (mb == 3) = false := beq_eq_false_iff_ne.2 (by omega); have nb3 : (mb != 3) = true := bne_iff_ne.2 (by omega))
            try first
                | (have eb4 : (mb == 4) = true := beq_iff_eq.2 (by omega); have nb4 : (mb != 4) = false := bne_eq_false_iff_eq.2 (by omega))
                | (have eb4 : (mb == 4) = false := beq_eq_false_iff_ne.2 (by omega); have nb4 : (mb != 4) = true := bne_iff_ne.2 (by omega))
            try first
                | (have eb5 : (mb == 5) = true := beq_iff_eq.2 (by omega); have nb5 : (mb != 5) = false := bne_eq_false_iff_eq.2 (by omega))
                | (have eb5 : (mb == 5) = false := beq_eq_false_iff_ne.2 (by omega); have nb5 : (mb != 5) = true := bne_iff_ne.2 (by omega))
            try first
                | have kh : decide (2 ≤ mb ∧ mb ≤ 4) = true := decide_eq_true (by omega)
                | have kh : decide (2 ≤ mb ∧ mb ≤ 4) = false := decide_eq_false (by omega)
            try first
                | have hz : mc.toList.isEmpty = true := str_empty (by omega)
                | have hz : mc.toList.isEmpty = false := str_nonempty (by omega)
            first
                | have HD := Lib.hid (show decide (FairP la lb lc lu lk lt lz lv m0 ma mb mc mp mt) = true from decide_eq_true ⟨hr, hk, ha, ⟨by omega, by omega⟩, by omega⟩)
                | have HD := Lib.hid (show decide (FairP la lb lc lu lk lt lz lv m0 ma mb mc mp mt) = false from decide_eq_false (fun h => by obtain ⟨h1, h2, h3, ⟨h4, h5⟩, h6⟩ := h; first | exact hr h1 | exact hk h2 | exact ha h3 | omega))
            try have hlo : 0 ≤ mb := by omega
            try have hhi : mb ≤ 5 := by omega
            try have hlt : mb < 0 := by omega
            try have hgt : 5 < mb := by omega
            try clear ha
            try clear hk
            try clear hb
            clear hr
            go_enter Try.func19, Try.ntmps19
            go_wp2_with (first | (go_at_call 28; ((with_reducible refine (rver_any _ _ _ _ _ _ _ _ _ _ _ _).mono ?_)); rintro e w2 ⟨rfl, hx⟩; have H2 := Lib.hid (H1.out.keep hx); clear hx; obtain ⟨p2_0_0, p2_0_1, p2_0_2, p2_0_3, p2_0_4, p2_0_5, p2_0_6, p2_0_7, p2_0_8, p2_0_9, p2_0_10⟩ := (H2.out).b0.cells11; obtain ⟨p2_1_0, p2_1_1, p2_1_2, p2_1_3, p2_1_4, p2_1_5, p2_1_6, p2_1_7⟩ := (H2.out).tl.b0.cells8) | (go_at_call 12; ((with_reducible refine (rright_any _ _ _ _ _ _ _ _ _).mono ?_)); rintro e w1 ⟨rfl, hx⟩; have H1 := Lib.hid (H0.out.keep hx); clear hx; obtain ⟨p1_0_0, p1_0_1, p1_0_2, p1_0_3, p1_0_4, p1_0_5, p1_0_6, p1_0_7, p1_0_8, p1_0_9, p1_0_10⟩ := (H1.out).b0.cells11; obtain ⟨p1_1_0, p1_1_1, p1_1_2, p1_1_3, p1_1_4, p1_1_5, p1_1_6, p1_1_7⟩ := (H1.out).tl.b0.cells8) | (go_at_call 29; ((with_reducible refine (rheld_any _ _).mono ?_)); rintro e w5 ⟨rfl, rfl⟩))
            all_goals
              go_ret
              refine ⟨ret_bool ?_, by first | exact H2.out.2 | exact H1.out.2⟩
              first
                | exact HD.out.symm
                | (rw [HD.out]; simp; done)
                | (rw [HD.out]; simp; omega)
          · rcases hb with hb | hb | hb
            all_goals
              first
                  | have kr : decide (RightP lb lc lu lk lt lz lv) = true := decide_eq_true hr
                  | have kr : decide (RightP lb lc lu lk lt lz lv) = false := decide_eq_false hr
              try first
                  | (have ek : (m0 == 2) = true := beq_iff_eq.2 (by omega); have nk : (m0 != 2) = false := bne_eq_false_iff_eq.2 (by omega))
                  | (have ek : (m0 == 2) = false := beq_eq_false_iff_ne.2 (by omega); have nk : (m0 != 2) = true := bne_iff_ne.2 (by omega))
              try first
                  | (have ea : (ma == la) = true := beq_iff_eq.2 (by omega); have na : (ma != la) = false := bne_eq_false_iff_eq.2 (by omega))
                  | (have ea : (ma == la) = false := beq_eq_false_iff_ne.2 (by omega); have na : (ma != la) = true := bne_iff_ne.2 (by omega))
              try first
                  | (have eb0 : (mb == 0) = true := beq_iff_eq.2 (by omega); have nb0 : (mb != 0) = false := bne_eq_false_iff_eq.2 (by omega))
                  | (have eb0 : (mb == 0) = false := beq_eq_false_iff_ne.2 (by omega); have nb0 : (mb != 0) = true := bne_iff_ne.2 (by omega))
              try first
                  | (have eb1 : (mb == 1) = true := beq_iff_eq.2 (by omega); have nb1 : (mb != 1) = false := bne_eq_false_iff_eq.2 (by omega))
                  | (have eb1 : (mb == 1) = false := beq_eq_false_iff_ne.2 (by omega); have nb1 : (mb != 1) = true := bne_iff_ne.2 (by omega))
              try first
                  | (have eb2 : (mb == 2) = true := beq_iff_eq.2 (by omega); have nb2 : (mb != 2) = false := bne_eq_false_iff_eq.2 (by omega))
                  | (have eb2 : (mb == 2) = false := beq_eq_false_iff_ne.2 (by omega); have nb2 : (mb != 2) = true := bne_iff_ne.2 (by omega))
              try first
                  | (have eb3 : (mb == 3) = true := beq_iff_eq.2 (by omega); have nb3 : (mb != 3) = false := bne_eq_false_iff_eq.2 (by omega))
                  | (have eb3 : (mb == 3) = false := beq_eq_false_iff_ne.2 (by omega); have nb3 : (mb != 3) = true := bne_iff_ne.2 (by omega))
              try first
                  | (have eb4 : (mb == 4) = true := beq_iff_eq.2 (by omega); have nb4 : (mb != 4) = false := bne_eq_false_iff_eq.2 (by omega))
                  | (have eb4 : (mb == 4) = false := beq_eq_false_iff_ne.2 (by omega); have nb4 : (mb != 4) = true := bne_iff_ne.2 (by omega))
              try first
                  | (have eb5 : (mb == 5) = true := beq_iff_eq.2 (by omega); have nb5 : (mb != 5) = false := bne_eq_false_iff_eq.2 (by omega))
                  | (have eb5 : (mb == 5) = false := beq_eq_false_iff_ne.2 (by omega); have nb5 : (mb != 5) = true := bne_iff_ne.2 (by omega))
              try first
                  | have kh : decide (2 ≤ mb ∧ mb ≤ 4) = true := decide_eq_true (by omega)
                  | have kh : decide (2 ≤ mb ∧ mb ≤ 4) = false := decide_eq_false (by omega)
              try first
                  | have hz : mc.toList.isEmpty = true := str_empty (by omega)
                  | have hz : mc.toList.isEmpty = false := str_nonempty (by omega)
              first
                  | have HD := Lib.hid (show decide (FairP la lb lc lu lk lt lz lv m0 ma mb mc mp mt) = true from decide_eq_true ⟨hr, hk, ha, ⟨by omega, by omega⟩, by omega⟩)
                  | have HD := Lib.hid (show decide (FairP la lb lc lu lk lt lz lv m0 ma mb mc mp mt) = false from decide_eq_false (fun h => by obtain ⟨h1, h2, h3, ⟨h4, h5⟩, h6⟩ := h; first | exact hr h1 | exact hk h2 | exact ha h3 | omega))
              try have hlo : 0 ≤ mb := by omega
              try have hhi : mb ≤ 5 := by omega
              try have hlt : mb < 0 := by omega
              try have hgt : 5 < mb := by omega
              try clear ha
              try clear hk
              try clear hb
              clear hr
              go_enter Try.func19, Try.ntmps19
              go_wp2_with (first | (go_at_call 28; ((with_reducible refine (rver_any _ _ _ _ _ _ _ _ _ _ _ _).mono ?_)); rintro e w2 ⟨rfl, hx⟩; have H2 := Lib.hid (H1.out.keep hx); clear hx; obtain ⟨p2_0_0, p2_0_1, p2_0_2, p2_0_3, p2_0_4, p2_0_5, p2_0_6, p2_0_7, p2_0_8, p2_0_9, p2_0_10⟩ := (H2.out).b0.cells11; obtain ⟨p2_1_0, p2_1_1, p2_1_2, p2_1_3, p2_1_4, p2_1_5, p2_1_6, p2_1_7⟩ := (H2.out).tl.b0.cells8) | (go_at_call 12; ((with_reducible refine (rright_any _ _ _ _ _ _ _ _ _).mono ?_)); rintro e w1 ⟨rfl, hx⟩; have H1 := Lib.hid (H0.out.keep hx); clear hx; obtain ⟨p1_0_0, p1_0_1, p1_0_2, p1_0_3, p1_0_4, p1_0_5, p1_0_6, p1_0_7, p1_0_8, p1_0_9, p1_0_10⟩ := (H1.out).b0.cells11; obtain ⟨p1_1_0, p1_1_1, p1_1_2, p1_1_3, p1_1_4, p1_1_5, p1_1_6, p1_1_7⟩ := (H1.out).tl.b0.cells8) | (go_at_call 29; ((with_reducible refine (rheld_any _ _).mono ?_)); rintro e w5 ⟨rfl, rfl⟩))
              all_goals
                go_ret
                refine ⟨ret_bool ?_, by first | exact H2.out.2 | exact H1.out.2⟩
                first
                  | exact HD.out.symm
                  | (rw [HD.out]; simp; done)
                  | (rw [HD.out]; simp; omega)
          · rcases (show mc.size < 1 ∨ (1 ≤ mc.size ∧ mc.size ≤ 32) ∨ 32 < mc.size by omega) with hs | ⟨hs, hs2⟩ | hs
            all_goals
              rcases hb with hb | hb | hb
              all_goals
                first
                    | have kr : decide (RightP lb lc lu lk lt lz lv) = true := decide_eq_true hr
                    | have kr : decide (RightP lb lc lu lk lt lz lv) = false := decide_eq_false hr
                try first
                    | (have ek : (m0 == 2) = true := beq_iff_eq.2 (by omega); have nk : (m0 != 2) = false := bne_eq_false_iff_eq.2 (by omega))
                    | (have ek : (m0 == 2) = false := beq_eq_false_iff_ne.2 (by omega); have nk : (m0 != 2) = true := bne_iff_ne.2 (by omega))
                try first
                    | (have ea : (ma == la) = true := beq_iff_eq.2 (by omega); have na : (ma != la) = false := bne_eq_false_iff_eq.2 (by omega))
                    | (have ea : (ma == la) = false := beq_eq_false_iff_ne.2 (by omega); have na : (ma != la) = true := bne_iff_ne.2 (by omega))
                try first
                    | (have eb0 : (mb == 0) = true := beq_iff_eq.2 (by omega); have nb0 : (mb != 0) = false := bne_eq_false_iff_eq.2 (by omega))
                    | (have eb0 : (mb == 0) = false := beq_eq_false_iff_ne.2 (by omega); have nb0 : (mb != 0) = true := bne_iff_ne.2 (by omega))
                try first
                    | (have eb1 : (mb == 1) = true := beq_iff_eq.2 (by omega); have nb1 : (mb != 1) = false := bne_eq_false_iff_eq.2 (by omega))
                    | (have eb1 : (mb == 1) = false := beq_eq_false_iff_ne.2 (by omega); have nb1 : (mb != 1) = true := bne_iff_ne.2 (by omega))
                try first
                    | (have eb2 : (mb == 2) = true := beq_iff_eq.2 (by omega); have nb2 : (mb != 2) = false := bne_eq_false_iff_eq.2 (by omega))
                    | (have eb2 : (mb == 2) = false := beq_eq_false_iff_ne.2 (by omega); have nb2 : (mb != 2) = true := bne_iff_ne.2 (by omega))
                try first
                    | (have eb3 : (mb == 3) = true := beq_iff_eq.2 (by omega); have nb3 : (mb != 3) = false := bne_eq_false_iff_eq.2 (by omega))
                    | (have eb3 : (mb == 3) = false := beq_eq_false_iff_ne.2 (by omega); have nb3 : (mb != 3) = true := bne_iff_ne.2 (by omega))
                try first
                    | (have eb4 : (mb == 4) = true := beq_iff_eq.2 (by omega); have nb4 : (mb != 4) = false := bne_eq_false_iff_eq.2 (by omega))
                    | (have eb4 : (mb == 4) = false := beq_eq_false_iff_ne.2 (by omega); have nb4 : (mb != 4) = true := bne_iff_ne.2 (by omega))
                try first
                    | (have eb5 : (mb == 5) = true := beq_iff_eq.2 (by omega); have nb5 : (mb != 5) = false := bne_eq_false_iff_eq.2 (by omega))
                    | (have eb5 : (mb == 5) = false := beq_eq_false_iff_ne.2 (by omega); have nb5 : (mb != 5) = true := bne_iff_ne.2 (by omega))
                try first
                    | have kh : decide (2 ≤ mb ∧ mb ≤ 4) = true := decide_eq_true (by omega)
                    | have kh : decide (2 ≤ mb ∧ mb ≤ 4) = false := decide_eq_false (by omega)
                try first
                    | have hz : mc.toList.isEmpty = true := str_empty (by omega)
                    | have hz : mc.toList.isEmpty = false := str_nonempty (by omega)
                first
                    | have HD := Lib.hid (show decide (FairP la lb lc lu lk lt lz lv m0 ma mb mc mp mt) = true from decide_eq_true ⟨hr, hk, ha, ⟨by omega, by omega⟩, by omega⟩)
                    | have HD := Lib.hid (show decide (FairP la lb lc lu lk lt lz lv m0 ma mb mc mp mt) = false from decide_eq_false (fun h => by obtain ⟨h1, h2, h3, ⟨h4, h5⟩, h6⟩ := h; first | exact hr h1 | exact hk h2 | exact ha h3 | omega))
                try have hlo : 0 ≤ mb := by omega
                try have hhi : mb ≤ 5 := by omega
                try have hlt : mb < 0 := by omega
                try have hgt : 5 < mb := by omega
                try clear ha
                try clear hk
                try clear hb
                clear hr
                go_enter Try.func19, Try.ntmps19
                go_wp2_with (first | (go_at_call 28; ((with_reducible refine (rver_any _ _ _ _ _ _ _ _ _ _ _ _).mono ?_)); rintro e w2 ⟨rfl, hx⟩; have H2 := Lib.hid (H1.out.keep hx); clear hx; obtain ⟨p2_0_0, p2_0_1, p2_0_2, p2_0_3, p2_0_4, p2_0_5, p2_0_6, p2_0_7, p2_0_8, p2_0_9, p2_0_10⟩ := (H2.out).b0.cells11; obtain ⟨p2_1_0, p2_1_1, p2_1_2, p2_1_3, p2_1_4, p2_1_5, p2_1_6, p2_1_7⟩ := (H2.out).tl.b0.cells8) | (go_at_call 12; ((with_reducible refine (rright_any _ _ _ _ _ _ _ _ _).mono ?_)); rintro e w1 ⟨rfl, hx⟩; have H1 := Lib.hid (H0.out.keep hx); clear hx; obtain ⟨p1_0_0, p1_0_1, p1_0_2, p1_0_3, p1_0_4, p1_0_5, p1_0_6, p1_0_7, p1_0_8, p1_0_9, p1_0_10⟩ := (H1.out).b0.cells11; obtain ⟨p1_1_0, p1_1_1, p1_1_2, p1_1_3, p1_1_4, p1_1_5, p1_1_6, p1_1_7⟩ := (H1.out).tl.b0.cells8) | (go_at_call 29; ((with_reducible refine (rheld_any _ _).mono ?_)); rintro e w5 ⟨rfl, rfl⟩))
                all_goals
                  go_ret
                  refine ⟨ret_bool ?_, by first | exact H2.out.2 | exact H1.out.2⟩
                  first
                    | exact HD.out.symm
                    | (rw [HD.out]; simp; done)
                    | (rw [HD.out]; simp; omega)
      · skip
        first
            | have kr : decide (RightP lb lc lu lk lt lz lv) = true := decide_eq_true hr
            | have kr : decide (RightP lb lc lu lk lt lz lv) = false := decide_eq_false hr
        try first
            | (have ek : (m0 == 2) = true := beq_iff_eq.2 (by omega); have nk : (m0 != 2) = false := bne_eq_false_iff_eq.2 (by omega))
            | (have ek : (m0 == 2) = false := beq_eq_false_iff_ne.2 (by omega); have nk : (m0 != 2) = true := bne_iff_ne.2 (by omega))
        try first
            | (have ea : (ma == la) = true := beq_iff_eq.2 (by omega); have na : (ma != la) = false := bne_eq_false_iff_eq.2 (by omega))
            | (have ea : (ma == la) = false := beq_eq_false_iff_ne.2 (by omega); have na : (ma != la) = true := bne_iff_ne.2 (by omega))
        try first
            | (have eb0 : (mb == 0) = true := beq_iff_eq.2 (by omega); have nb0 : (mb != 0) = false := bne_eq_false_iff_eq.2 (by omega))
            | (have eb0 : (mb == 0) = false := beq_eq_false_iff_ne.2 (by omega); have nb0 : (mb != 0) = true := bne_iff_ne.2 (by omega))
        try first
            | (have eb1 : (mb == 1) = true := beq_iff_eq.2 (by omega); have nb1 : (mb != 1) = false := bne_eq_false_iff_eq.2 (by omega))
            | (have eb1 : (mb == 1) = false := beq_eq_false_iff_ne.2 (by omega); have nb1 : (mb != 1) = true := bne_iff_ne.2 (by omega))
        try first
            | (have eb2 : (mb == 2) = true := beq_iff_eq.2 (by omega); have nb2 : (mb != 2) = false := bne_eq_false_iff_eq.2 (by omega))
            | (have eb2 : (mb == 2) = false := beq_eq_false_iff_ne.2 (by omega); have nb2 : (mb != 2) = true := bne_iff_ne.2 (by omega))
        try first
            | (have eb3 : (mb == 3) = true := beq_iff_eq.2 (by omega); have nb3 : (mb != 3) = false := bne_eq_false_iff_eq.2 (by omega))
            | (have eb3 : (mb == 3) = false := beq_eq_false_iff_ne.2 (by omega); have nb3 : (mb != 3) = true := bne_iff_ne.2 (by omega))
        try first
            | (have eb4 : (mb == 4) = true := beq_iff_eq.2 (by omega); have nb4 : (mb != 4) = false := bne_eq_false_iff_eq.2 (by omega))
            | (have eb4 : (mb == 4) = false := beq_eq_false_iff_ne.2 (by omega); have nb4 : (mb != 4) = true := bne_iff_ne.2 (by omega))
        try first
            | (have eb5 : (mb == 5) = true := beq_iff_eq.2 (by omega); have nb5 : (mb != 5) = false := bne_eq_false_iff_eq.2 (by omega))
            | (have eb5 : (mb == 5) = false := beq_eq_false_iff_ne.2 (by omega); have nb5 : (mb != 5) = true := bne_iff_ne.2 (by omega))
        try first
            | have kh : decide (2 ≤ mb ∧ mb ≤ 4) = true := decide_eq_true (by omega)
            | have kh : decide (2 ≤ mb ∧ mb ≤ 4) = false := decide_eq_false (by omega)
        try first
            | have hz : mc.toList.isEmpty = true := str_empty (by omega)
            | have hz : mc.toList.isEmpty = false := str_nonempty (by omega)
        first
            | have HD := Lib.hid (show decide (FairP la lb lc lu lk lt lz lv m0 ma mb mc mp mt) = true from decide_eq_true ⟨hr, hk, ha, ⟨by omega, by omega⟩, by omega⟩)
            | have HD := Lib.hid (show decide (FairP la lb lc lu lk lt lz lv m0 ma mb mc mp mt) = false from decide_eq_false (fun h => by obtain ⟨h1, h2, h3, ⟨h4, h5⟩, h6⟩ := h; first | exact hr h1 | exact hk h2 | exact ha h3 | omega))
        try have hlo : 0 ≤ mb := by omega
        try have hhi : mb ≤ 5 := by omega
        try have hlt : mb < 0 := by omega
        try have hgt : 5 < mb := by omega
        try clear ha
        try clear hk
        try clear hb
        clear hr
        go_enter Try.func19, Try.ntmps19
        go_wp2_with (first | (go_at_call 28; ((with_reducible refine (rver_any _ _ _ _ _ _ _ _ _ _ _ _).mono ?_)); rintro e w2 ⟨rfl, hx⟩; have H2 := Lib.hid (H1.out.keep hx); clear hx; obtain ⟨p2_0_0, p2_0_1, p2_0_2, p2_0_3, p2_0_4, p2_0_5, p2_0_6, p2_0_7, p2_0_8, p2_0_9, p2_0_10⟩ := (H2.out).b0.cells11; obtain ⟨p2_1_0, p2_1_1, p2_1_2, p2_1_3, p2_1_4, p2_1_5, p2_1_6, p2_1_7⟩ := (H2.out).tl.b0.cells8) | (go_at_call 12; ((with_reducible refine (rright_any _ _ _ _ _ _ _ _ _).mono ?_)); rintro e w1 ⟨rfl, hx⟩; have H1 := Lib.hid (H0.out.keep hx); clear hx; obtain ⟨p1_0_0, p1_0_1, p1_0_2, p1_0_3, p1_0_4, p1_0_5, p1_0_6, p1_0_7, p1_0_8, p1_0_9, p1_0_10⟩ := (H1.out).b0.cells11; obtain ⟨p1_1_0, p1_1_1, p1_1_2, p1_1_3, p1_1_4, p1_1_5, p1_1_6, p1_1_7⟩ := (H1.out).tl.b0.cells8) | (go_at_call 29; ((with_reducible refine (rheld_any _ _).mono ?_)); rintro e w5 ⟨rfl, rfl⟩))
        all_goals
          go_ret
          refine ⟨ret_bool ?_, by first | exact H2.out.2 | exact H1.out.2⟩
          first
            | exact HD.out.symm
            | (rw [HD.out]; simp; done)
            | (rw [HD.out]; simp; omega)
    · skip
      first
          | have kr : decide (RightP lb lc lu lk lt lz lv) = true := decide_eq_true hr
          | have kr : decide (RightP lb lc lu lk lt lz lv) = false := decide_eq_false hr
      try first
          | (have ek : (m0 == 2) = true := beq_iff_eq.2 (by omega); have nk : (m0 != 2) = false := bne_eq_false_iff_eq.2 (by omega))
          | (have ek : (m0 == 2) = false := beq_eq_false_iff_ne.2 (by omega); have nk : (m0 != 2) = true := bne_iff_ne.2 (by omega))
      try first
          | (have ea : (ma == la) = true := beq_iff_eq.2 (by omega); have na : (ma != la) = false := bne_eq_false_iff_eq.2 (by omega))
          | (have ea : (ma == la) = false := beq_eq_false_iff_ne.2 (by omega); have na : (ma != la) = true := bne_iff_ne.2 (by omega))
      try first
          | (have eb0 : (mb == 0) = true := beq_iff_eq.2 (by omega); have nb0 : (mb != 0) = false := bne_eq_false_iff_eq.2 (by omega))
          | (have eb0 : (mb == 0) = false := beq_eq_false_iff_ne.2 (by omega); have nb0 : (mb != 0) = true := bne_iff_ne.2 (by omega))
      try first
          | (have eb1 : (mb == 1) = true := beq_iff_eq.2 (by omega); have nb1 : (mb != 1) = false := bne_eq_false_iff_eq.2 (by omega))
          | (have eb1 : (mb == 1) = false := beq_eq_false_iff_ne.2 (by omega); have nb1 : (mb != 1) = true := bne_iff_ne.2 (by omega))
      try first
          | (have eb2 : (mb == 2) = true := beq_iff_eq.2 (by omega); have nb2 : (mb != 2) = false := bne_eq_false_iff_eq.2 (by omega))
          | (have eb2 : (mb == 2) = false := beq_eq_false_iff_ne.2 (by omega); have nb2 : (mb != 2) = true := bne_iff_ne.2 (by omega))
      try first
          | (have eb3 : (mb == 3) = true := beq_iff_eq.2 (by omega); have nb3 : (mb != 3) = false := bne_eq_false_iff_eq.2 (by omega))
          | (have eb3 : (mb == 3) = false := beq_eq_false_iff_ne.2 (by omega); have nb3 : (mb != 3) = true := bne_iff_ne.2 (by omega))
      try first
          | (have eb4 : (mb == 4) = true := beq_iff_eq.2 (by omega); have nb4 : (mb != 4) = false := bne_eq_false_iff_eq.2 (by omega))
          | (have eb4 : (mb == 4) = false := beq_eq_false_iff_ne.2 (by omega); have nb4 : (mb != 4) = true := bne_iff_ne.2 (by omega))
      try first
          | (have eb5 : (mb == 5) = true := beq_iff_eq.2 (by omega); have nb5 : (mb != 5) = false := bne_eq_false_iff_eq.2 (by omega))
          | (have eb5 : (mb == 5) = false := beq_eq_false_iff_ne.2 (by omega); have nb5 : (mb != 5) = true := bne_iff_ne.2 (by omega))
      try first
          | have kh : decide (2 ≤ mb ∧ mb ≤ 4) = true := decide_eq_true (by omega)
          | have kh : decide (2 ≤ mb ∧ mb ≤ 4) = false := decide_eq_false (by omega)
      try first
          | have hz : mc.toList.isEmpty = true := str_empty (by omega)
          | have hz : mc.toList.isEmpty = false := str_nonempty (by omega)
      first
          | have HD := Lib.hid (show decide (FairP la lb lc lu lk lt lz lv m0 ma mb mc mp mt) = true from decide_eq_true ⟨hr, hk, ha, ⟨by omega, by omega⟩, by omega⟩)
          | have HD := Lib.hid (show decide (FairP la lb lc lu lk lt lz lv m0 ma mb mc mp mt) = false from decide_eq_false (fun h => by obtain ⟨h1, h2, h3, ⟨h4, h5⟩, h6⟩ := h; first | exact hr h1 | exact hk h2 | exact ha h3 | omega))
      try have hlo : 0 ≤ mb := by omega
      try have hhi : mb ≤ 5 := by omega
      try have hlt : mb < 0 := by omega
      try have hgt : 5 < mb := by omega
      try clear ha
      try clear hk
      try clear hb
      clear hr
      go_enter Try.func19, Try.ntmps19
      go_wp2_with (first | (go_at_call 28; ((with_reducible refine (rver_any _ _ _ _ _ _ _ _ _ _ _ _).mono ?_)); rintro e w2 ⟨rfl, hx⟩; have H2 := Lib.hid (H1.out.keep hx); clear hx; obtain ⟨p2_0_0, p2_0_1, p2_0_2, p2_0_3, p2_0_4, p2_0_5, p2_0_6, p2_0_7, p2_0_8, p2_0_9, p2_0_10⟩ := (H2.out).b0.cells11; obtain ⟨p2_1_0, p2_1_1, p2_1_2, p2_1_3, p2_1_4, p2_1_5, p2_1_6, p2_1_7⟩ := (H2.out).tl.b0.cells8) | (go_at_call 12; ((with_reducible refine (rright_any _ _ _ _ _ _ _ _ _).mono ?_)); rintro e w1 ⟨rfl, hx⟩; have H1 := Lib.hid (H0.out.keep hx); clear hx; obtain ⟨p1_0_0, p1_0_1, p1_0_2, p1_0_3, p1_0_4, p1_0_5, p1_0_6, p1_0_7, p1_0_8, p1_0_9, p1_0_10⟩ := (H1.out).b0.cells11; obtain ⟨p1_1_0, p1_1_1, p1_1_2, p1_1_3, p1_1_4, p1_1_5, p1_1_6, p1_1_7⟩ := (H1.out).tl.b0.cells8) | (go_at_call 29; ((with_reducible refine (rheld_any _ _).mono ?_)); rintro e w5 ⟨rfl, rfl⟩))
      all_goals
        go_ret
        refine ⟨ret_bool ?_, by first | exact H2.out.2 | exact H1.out.2⟩
        first
          | exact HD.out.symm
          | (rw [HD.out]; simp; done)
          | (rw [HD.out]; simp; omega)
  · skip
    first
        | have kr : decide (RightP lb lc lu lk lt lz lv) = true := decide_eq_true hr
        | have kr : decide (RightP lb lc lu lk lt lz lv) = false := decide_eq_false hr
    try first
        | (have ek : (m0 == 2) = true := beq_iff_eq.2 (by omega); have nk : (m0 != 2) = false := bne_eq_false_iff_eq.2 (by omega))
        | (have ek : (m0 == 2) = false := beq_eq_false_iff_ne.2 (by omega); have nk : (m0 != 2) = true := bne_iff_ne.2 (by omega))
    try first
        | (have ea : (ma == la) = true := beq_iff_eq.2 (by omega); have na : (ma != la) = false := bne_eq_false_iff_eq.2 (by omega))
        | (have ea : (ma == la) = false := beq_eq_false_iff_ne.2 (by omega); have na : (ma != la) = true := bne_iff_ne.2 (by omega))
    try first
        | (have eb0 : (mb == 0) = true := beq_iff_eq.2 (by omega); have nb0 : (mb != 0) = false := bne_eq_false_iff_eq.2 (by omega))
        | (have eb0 : (mb == 0) = false := beq_eq_false_iff_ne.2 (by omega); have nb0 : (mb != 0) = true := bne_iff_ne.2 (by omega))
    try first
        | (have eb1 : (mb == 1) = true := beq_iff_eq.2 (by omega); have nb1 : (mb != 1) = false := bne_eq_false_iff_eq.2 (by omega))
        | (have eb1 : (mb == 1) = false := beq_eq_false_iff_ne.2 (by omega); have nb1 : (mb != 1) = true := bne_iff_ne.2 (by omega))
    try first
        | (have eb2 : (mb == 2) = true := beq_iff_eq.2 (by omega); have nb2 : (mb != 2) = false := bne_eq_false_iff_eq.2 (by omega))
        | (have eb2 : (mb == 2) = false := beq_eq_false_iff_ne.2 (by omega); have nb2 : (mb != 2) = true := bne_iff_ne.2 (by omega))
    try first
        | (have eb3 : (mb == 3) = true := beq_iff_eq.2 (by omega); have nb3 : (mb != 3) = false := bne_eq_false_iff_eq.2 (by omega))
        | (have eb3 : (mb == 3) = false := beq_eq_false_iff_ne.2 (by omega); have nb3 : (mb != 3) = true := bne_iff_ne.2 (by omega))
    try first
        | (have eb4 : (mb == 4) = true := beq_iff_eq.2 (by omega); have nb4 : (mb != 4) = false := bne_eq_false_iff_eq.2 (by omega))
        | (have eb4 : (mb == 4) = false := beq_eq_false_iff_ne.2 (by omega); have nb4 : (mb != 4) = true := bne_iff_ne.2 (by omega))
    try first
        | (have eb5 : (mb == 5) = true := beq_iff_eq.2 (by omega); have nb5 : (mb != 5) = false := bne_eq_false_iff_eq.2 (by omega))
        | (have eb5 : (mb == 5) = false := beq_eq_false_iff_ne.2 (by omega); have nb5 : (mb != 5) = true := bne_iff_ne.2 (by omega))
    try first
        | have kh : decide (2 ≤ mb ∧ mb ≤ 4) = true := decide_eq_true (by omega)
        | have kh : decide (2 ≤ mb ∧ mb ≤ 4) = false := decide_eq_false (by omega)
    try first
        | have hz : mc.toList.isEmpty = true := str_empty (by omega)
        | have hz : mc.toList.isEmpty = false := str_nonempty (by omega)
    first
        | have HD := Lib.hid (show decide (FairP la lb lc lu lk lt lz lv m0 ma mb mc mp mt) = true from decide_eq_true ⟨hr, hk, ha, ⟨by omega, by omega⟩, by omega⟩)
        | have HD := Lib.hid (show decide (FairP la lb lc lu lk lt lz lv m0 ma mb mc mp mt) = false from decide_eq_false (fun h => by obtain ⟨h1, h2, h3, ⟨h4, h5⟩, h6⟩ := h; first | exact hr h1 | exact hk h2 | exact ha h3 | omega))
    try have hlo : 0 ≤ mb := by omega
    try have hhi : mb ≤ 5 := by omega
    try have hlt : mb < 0 := by omega
    try have hgt : 5 < mb := by omega
    try clear ha
    try clear hk
    try clear hb
    clear hr
    go_enter Try.func19, Try.ntmps19
    go_wp2_with (first | (go_at_call 28; ((with_reducible refine (rver_any _ _ _ _ _ _ _ _ _ _ _ _).mono ?_)); rintro e w2 ⟨rfl, hx⟩; have H2 := Lib.hid (H1.out.keep hx); clear hx; obtain ⟨p2_0_0, p2_0_1, p2_0_2, p2_0_3, p2_0_4, p2_0_5, p2_0_6, p2_0_7, p2_0_8, p2_0_9, p2_0_10⟩ := (H2.out).b0.cells11; obtain ⟨p2_1_0, p2_1_1, p2_1_2, p2_1_3, p2_1_4, p2_1_5, p2_1_6, p2_1_7⟩ := (H2.out).tl.b0.cells8) | (go_at_call 12; ((with_reducible refine (rright_any _ _ _ _ _ _ _ _ _).mono ?_)); rintro e w1 ⟨rfl, hx⟩; have H1 := Lib.hid (H0.out.keep hx); clear hx; obtain ⟨p1_0_0, p1_0_1, p1_0_2, p1_0_3, p1_0_4, p1_0_5, p1_0_6, p1_0_7, p1_0_8, p1_0_9, p1_0_10⟩ := (H1.out).b0.cells11; obtain ⟨p1_1_0, p1_1_1, p1_1_2, p1_1_3, p1_1_4, p1_1_5, p1_1_6, p1_1_7⟩ := (H1.out).tl.b0.cells8) | (go_at_call 29; ((with_reducible refine (rheld_any _ _).mono ?_)); rintro e w5 ⟨rfl, rfl⟩))
    all_goals
      go_ret
      refine ⟨ret_bool ?_, by first | exact H2.out.2 | exact H1.out.2⟩
      first
        | exact HD.out.symm
        | (rw [HD.out]; simp; done)
        | (rw [HD.out]; simp; omega)

end Go.Proofs.Ytkpgchhbeebgkaa
