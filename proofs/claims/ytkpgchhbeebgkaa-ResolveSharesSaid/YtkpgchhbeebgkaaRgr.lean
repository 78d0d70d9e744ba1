/- Which leases may be, by the reference. -/
import Derived.Test.YtkpgchhbeebgkaaRgt
namespace Go.Proofs.Ytkpgchhbeebgkaa
open Go.ChangeShapes Go.WideShapes Go.ChangeAt Go.RowKit
set_option linter.unusedVariables false
set_option linter.unusedSimpArgs false

set_option maxRecDepth 100000 in
set_option maxHeartbeats 4000000 in
theorem rright_any (la lb : Int) (lc : ByteArray) (lu lk lt lz lv : Int) (w : World) : Calls Try.prog 12 #[.agg #[.int .u32 la, .int .i64 lb, .string lc, .int .i64 lu, .int .i64 lk, .int .i64 lt, .int .i64 lz, .int .i64 lv]] w fun e w' => e = .returned (.bool (decide (RightP lb lc lu lk lt lz lv))) ∧ Below w.heap.size w w' := by
  by_cases hb1 : lb < 0
  · have HD := Lib.hid (show decide (RightP lb lc lu lk lt lz lv) = false from decide_eq_false (fun h => by unfold RightP at h; omega))
    go_enter Try.func12, Try.ntmps12
    go_wp2_with (go_at_call 24; with_reducible refine (time_any _ _).mono ?_; rintro e w5 ⟨rfl, rfl⟩)
    go_ret
    exact ⟨ret_bool HD.out.symm, low0 w _⟩
  · by_cases hb2 : 5 < lb
    · have HD := Lib.hid (show decide (RightP lb lc lu lk lt lz lv) = false from decide_eq_false (fun h => by unfold RightP at h; omega))
      go_enter Try.func12, Try.ntmps12
      go_wp2_with (go_at_call 24; with_reducible refine (time_any _ _).mono ?_; rintro e w5 ⟨rfl, rfl⟩)
      go_ret
      exact ⟨ret_bool HD.out.symm, low0 w _⟩
    · have hb3 : 0 ≤ lb := by omega
      have hb4 : lb ≤ 5 := by omega
      clear hb1 hb2
      by_cases t0 : okT lu
      · have d0 : decide (okT lu) = true := decide_eq_true t0
        by_cases t1 : okT lk
        · have d1 : decide (okT lk) = true := decide_eq_true t1
          by_cases t2 : okT lt
          · have d2 : decide (okT lt) = true := decide_eq_true t2
            by_cases t3 : okT lz
            · have d3 : decide (okT lz) = true := decide_eq_true t3
              by_cases t4 : okT lv
              · have d4 : decide (okT lv) = true := decide_eq_true t4
                have hall := Lib.hid (show okT lu ∧ okT lk ∧ okT lt ∧ okT lz ∧ okT lv from ⟨t0, t1, t2, t3, t4⟩)
                clear t0 t1 t2 t3 t4
                rcases (show (lb = 2 ∨ lb = 3 ∨ lb = 4) ∨ (lb = 0 ∨ lb = 1 ∨ lb = 5) by omega) with hb | hb
                · by_cases hz : lc.size = 0
                  · have HD := Lib.hid (show decide (RightP lb lc lu lk lt lz lv) = false from decide_eq_false (fun h => by unfold RightP at h; omega))
                    rcases hb with rfl | rfl | rfl
                    all_goals
                      go_enter Try.func12, Try.ntmps12
                      go_wp2_with (go_at_call 24; with_reducible refine (time_any _ _).mono ?_; rintro e w5 ⟨rfl, rfl⟩)
                      go_ret
                      exact ⟨ret_bool HD.out.symm, low0 w _⟩
                  · have hz1 : 1 ≤ lc.size := by omega
                    clear hz
                    by_cases h32 : lc.size ≤ 32
                    · have HD := Lib.hid (show decide (RightP lb lc lu lk lt lz lv) = true from decide_eq_true ⟨hall.out, .inl ⟨by omega, by omega, by omega, h32⟩⟩)
                      rcases hb with rfl | rfl | rfl
                      all_goals
                        go_enter Try.func12, Try.ntmps12
                        go_wp2_with (go_at_call 24; with_reducible refine (time_any _ _).mono ?_; rintro e w5 ⟨rfl, rfl⟩)
                        go_ret
                        exact ⟨ret_bool (HD.out ▸ (by simp; omega)), low0 w _⟩
                    · have HD := Lib.hid (show decide (RightP lb lc lu lk lt lz lv) = false from decide_eq_false (fun h => by unfold RightP at h; omega))
                      rcases hb with rfl | rfl | rfl
                      all_goals
                        go_enter Try.func12, Try.ntmps12
                        go_wp2_with (go_at_call 24; with_reducible refine (time_any _ _).mono ?_; rintro e w5 ⟨rfl, rfl⟩)
                        go_ret
                        exact ⟨ret_bool (HD.out ▸ (by simp; omega)), low0 w _⟩
                · have HD := Lib.hid (show decide (EmptyP lc lu lk lt lz) = decide (RightP lb lc lu lk lt lz lv) from decide_eq_decide.2 (empty_right hb hall.out))
                  rcases hb with rfl | rfl | rfl
                  all_goals
                    go_enter Try.func12, Try.ntmps12
                    go_wp2_with (go_at_call 24; with_reducible refine (time_any _ _).mono ?_; rintro e w5 ⟨rfl, rfl⟩)
                    all_goals
                      go_ret
                      exact ⟨ret_bool (by rw [← HD.out]; unfold EmptyP; have hs := str_nil_iff (s := lc); grind), low0 w _⟩
              · have d4 : decide (okT lv) = false := decide_eq_false t4
                have HD := Lib.hid (show decide (RightP lb lc lu lk lt lz lv) = false from decide_eq_false (fun h => by unfold RightP okT at *; omega))
                clear t0 t1 t2 t3 t4
                go_enter Try.func12, Try.ntmps12
                go_wp2_with (go_at_call 24; with_reducible refine (time_any _ _).mono ?_; rintro e w5 ⟨rfl, rfl⟩)
                go_ret
                exact ⟨ret_bool HD.out.symm, low0 w _⟩
            · have d3 : decide (okT lz) = false := decide_eq_false t3
              have HD := Lib.hid (show decide (RightP lb lc lu lk lt lz lv) = false from decide_eq_false (fun h => by unfold RightP okT at *; omega))
              clear t0 t1 t2 t3
              go_enter Try.func12, Try.ntmps12
              go_wp2_with (go_at_call 24; with_reducible refine (time_any _ _).mono ?_; rintro e w5 ⟨rfl, rfl⟩)
              go_ret
              exact ⟨ret_bool HD.out.symm, low0 w _⟩
          · have d2 : decide (okT lt) = false := decide_eq_false t2
            have HD := Lib.hid (show decide (RightP lb lc lu lk lt lz lv) = false from decide_eq_false (fun h => by unfold RightP okT at *; omega))
            clear t0 t1 t2
            go_enter Try.func12, Try.ntmps12
            go_wp2_with (go_at_call 24; with_reducible refine (time_any _ _).mono ?_; rintro e w5 ⟨rfl, rfl⟩)
            go_ret
            exact ⟨ret_bool HD.out.symm, low0 w _⟩
        · have d1 : decide (okT lk) = false := decide_eq_false t1
          have HD := Lib.hid (show decide (RightP lb lc lu lk lt lz lv) = false from decide_eq_false (fun h => by unfold RightP okT at *; omega))
          clear t0 t1
          go_enter Try.func12, Try.ntmps12
          go_wp2_with (go_at_call 24; with_reducible refine (time_any _ _).mono ?_; rintro e w5 ⟨rfl, rfl⟩)
          go_ret
          exact ⟨ret_bool HD.out.symm, low0 w _⟩
      · have d0 : decide (okT lu) = false := decide_eq_false t0
        have HD := Lib.hid (show decide (RightP lb lc lu lk lt lz lv) = false from decide_eq_false (fun h => by unfold RightP okT at *; omega))
        clear t0
        go_enter Try.func12, Try.ntmps12
        go_wp2_with (go_at_call 24; with_reducible refine (time_any _ _).mono ?_; rintro e w5 ⟨rfl, rfl⟩)
        go_ret
        exact ⟨ret_bool HD.out.symm, low0 w _⟩

end Go.Proofs.Ytkpgchhbeebgkaa
