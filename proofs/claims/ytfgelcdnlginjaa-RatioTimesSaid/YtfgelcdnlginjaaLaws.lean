/- The walks of the laws of ratio. -/
import Derived.Test.YtfgelcdnlginjaaUne
namespace Go.Proofs.Ytfgelcdnlginjaa
open Go.ChangeShapes Go.WideShapes Go.ChangeAt Go.RowKit
set_option linter.unusedVariables false

open Flo (partV nan key SC)
theorem word_of {p : Nat} (h : (Lit.float .f64 p).wf = true) : p < 2 ^ 64 := by simpa [Lit.wf] using h
theorem awake_any (w : World) : Calls Try.prog 8 #[] w fun e w' => e = .returned (.bool true) ∧ w = w' := by
  have h : 4602678819172646912 < 2 ^ 64 := by decide
  have e1 := part7
  have e2 := share10
  go_enter Try.func8, Try.ntmps8
  go_wp2_with (first | (go_at_call 10; refine (part_any _ _ (by assumption) _).mono ?_; rintro e w' ⟨rfl, rfl⟩) | (go_at_call 9; refine (share_any _ _ _ (by assumption) _).mono ?_; rintro e w' ⟨rfl, rfl⟩))
  go_ret
  exact ⟨rfl, rfl⟩

theorem walk_RatioParts (a0 : Int) (a1 : Nat) (a2 : Nat) (W : World) (w0 : (Lit.int .i64 a0).wf = true) (w1 : (Lit.float .f64 a1).wf = true) (w2 : (Lit.float .f64 a2).wf = true) :
    Calls Try.prog 5 #[.int .i64 a0, .float .f64 a1, .float .f64 a2] W fun e w' => e = .returned (.bool true) ∧ Below W.heap.size W w' := by
  have h1 := word_of w1
  have h2 := word_of w2
  go_enter Try.func5, Try.ntmps5
  go_wp2_with (first | (go_at_call 8; refine (awake_any _).mono ?_; rintro e w' ⟨rfl, rfl⟩) | (go_at_call 12; refine (times_any _ _ _ (by assumption) (by assumption) _).mono ?_; rintro e w' ⟨rfl, rfl⟩) | (go_at_call 13; refine (rtimes_any _ _ _ (by assumption) (by assumption) _).mono ?_; rintro e w' ⟨rfl, rfl⟩) | (go_at_call 10; refine (part_any _ _ (by assumption) _).mono ?_; rintro e w' ⟨rfl, rfl⟩) | (go_at_call 14; refine (rpart_any _ _ (by assumption) _).mono ?_; rintro e w' ⟨rfl, rfl⟩))
  go_ret
  exact ⟨rfl, (by repeat (first | exact Below.refl _ _ | refine Below.drew ?_ | refine Below.alloc ?_ (by simp) _ | refine Below.setCell ?_ (by simp) _))⟩

theorem walk_RatioShares (a0 : Int) (a1 : Int) (a2 : Nat) (W : World) (w0 : (Lit.int .i64 a0).wf = true) (w1 : (Lit.int .i64 a1).wf = true) (w2 : (Lit.float .f64 a2).wf = true) :
    Calls Try.prog 7 #[.int .i64 a0, .int .i64 a1, .float .f64 a2] W fun e w' => e = .returned (.bool true) ∧ Below W.heap.size W w' := by
  have h2 := word_of w2
  obtain ⟨x, y, r, hx, hy, h3, h4⟩ := uneven_same a0 a1 a2
  have X1 := fun w => run_float_arith (P := Try.prog) w .add 22 .f64 x 0 r h3
  have X2 := fun w => run_float_arith (P := Try.prog) w .add 22 .f64 y 0 r h4
  have T := to_bits
  clear h3 h4 w0 w1
  go_enter Try.func7, Try.ntmps7
  go_wp2_with (first | (go_at_call 8; refine (awake_any _).mono ?_; rintro e w' ⟨rfl, rfl⟩) | (go_at_call 18; refine (uneven_any _ _ _ _).mono ?_; rintro e w' ⟨rfl, rfl⟩) | (go_at_call 19; refine (runeven_any _ _ _ _).mono ?_; rintro e w' ⟨rfl, rfl⟩) | (go_at_call 9; refine (share_any _ _ _ (by assumption) _).mono ?_; rintro e w' ⟨rfl, rfl⟩) | (go_at_call 20; refine (rshare_any _ _ _ (by assumption) _).mono ?_; rintro e w' ⟨rfl, rfl⟩))
  go_ret
  exact ⟨rfl, (by repeat (first | exact Below.refl _ _ | refine Below.drew ?_ | refine Below.alloc ?_ (by simp) _ | refine Below.setCell ?_ (by simp) _))⟩

/-- What goes to the other one, plainly. -/
theorem share_ways {a b : Int} {p : Nat} (hp : p < 2 ^ 64) (h1 : 0 ≤ a) (h2 : a ≤ 1073741824) (h3 : 0 ≤ b) (h4 : b ≤ 1073741824) :
    (0 ≤ shareV a b p ∧ shareV a b p ≤ 0 ∧ shareV a b p ≤ a ∧ partV (a + b) p ≤ b + shareV a b p) ∨ (0 < shareV a b p ∧ shareV a b p ≤ a ∧ a ≤ shareV a b p ∧ b + shareV a b p ≤ partV (a + b) p) ∨
    (0 < shareV a b p ∧ shareV a b p < a ∧ b + shareV a b p ≤ partV (a + b) p ∧ partV (a + b) p ≤ b + shareV a b p) := by
  have e1 : bn a = a := by unfold bn; omega
  have e2 : bn b = b := by unfold bn; omega
  have h5 := Flo.part_range (a + b) hp
  unfold shareV
  rw [e1, e2]
  omega

theorem walk_RatioGives (a0 : Int) (a1 : Int) (a2 : Nat) (W : World) (w0 : (Lit.int .i64 a0).wf = true) (w1 : (Lit.int .i64 a1).wf = true) (w2 : (Lit.float .f64 a2).wf = true) :
    Calls Try.prog 3 #[.int .i64 a0, .int .i64 a1, .float .f64 a2] W fun e w' => e = .returned (.bool true) ∧ Below W.heap.size W w' := by
  have hw := word_of w2
  clear w0 w1 w2
  by_cases g : ((0 ≤ a0 ∧ a0 ≤ 1073741824) ∧ 0 ≤ a1) ∧ a1 ≤ 1073741824
  · have r1 := Flo.part_range (a0 + a1) hw
    rcases share_ways hw g.1.1.1 g.1.1.2 g.1.2 g.2 with h | h | h
    all_goals
      obtain ⟨h1, h2, h3, h4⟩ := h
      obtain ⟨⟨⟨g1, g2⟩, g3⟩, g4⟩ := g
      go_enter Try.func3, Try.ntmps3
      go_wp2_with (first | (go_at_call 8; refine (awake_any _).mono ?_; rintro e w' ⟨rfl, rfl⟩) | (go_at_call 9; refine (share_any _ _ _ (by assumption) _).mono ?_; rintro e w' ⟨rfl, rfl⟩) | (go_at_call 10; refine (part_any _ _ (by assumption) _).mono ?_; rintro e w' ⟨rfl, rfl⟩))
      all_goals
        go_ret
        first | exact ⟨rfl, (by repeat (first | exact Below.refl _ _ | refine Below.drew ?_ | refine Below.alloc ?_ (by simp) _ | refine Below.setCell ?_ (by simp) _))⟩ | exact ⟨ret_bool (by grind), (by repeat (first | exact Below.refl _ _ | refine Below.drew ?_ | refine Below.alloc ?_ (by simp) _ | refine Below.setCell ?_ (by simp) _))⟩
  ·
    go_enter Try.func3, Try.ntmps3
    go_wp2_with (first | (go_at_call 8; refine (awake_any _).mono ?_; rintro e w' ⟨rfl, rfl⟩) | (go_at_call 9; refine (share_any _ _ _ (by assumption) _).mono ?_; rintro e w' ⟨rfl, rfl⟩) | (go_at_call 10; refine (part_any _ _ (by assumption) _).mono ?_; rintro e w' ⟨rfl, rfl⟩))
    all_goals
      go_ret
      first | exact ⟨rfl, (by repeat (first | exact Below.refl _ _ | refine Below.drew ?_ | refine Below.alloc ?_ (by simp) _ | refine Below.setCell ?_ (by simp) _))⟩ | exact ⟨ret_bool (by grind), (by repeat (first | exact Below.refl _ _ | refine Below.drew ?_ | refine Below.alloc ?_ (by simp) _ | refine Below.setCell ?_ (by simp) _))⟩

theorem walk_RatioRises (a0_0 : Int) (a0_1 : Int) (a1 : Nat) (a2 : Nat) (W : World) (w0_0 : (Lit.int .i64 a0_0).wf = true) (w0_1 : (Lit.int .i64 a0_1).wf = true) (w1 : (Lit.float .f64 a1).wf = true) (w2 : (Lit.float .f64 a2).wf = true) :
    Calls Try.prog 4 #[.agg #[.int .i64 a0_0, .int .i64 a0_1], .float .f64 a1, .float .f64 a2] W fun e w' => e = .returned (.bool true) ∧ Below W.heap.size W w' := by
  have h1 := word_of w1
  have h2 := word_of w2
  clear w0_0 w0_1 w1 w2
  cases n1 : nan a1
  · cases n2 : nan a2
    · have O : FloatKind.f64.format.order a1 a2 = some (compare (key a1) (key a2)) := Flo.order_key n1 n2
      by_cases hk : key a2 < key a1
      · rw [Flo.compare_gt hk] at O
        clear hk
        go_enter Try.func4, Try.ntmps4
        go_wp2_with (first | (go_at_call 8; refine (awake_any _).mono ?_; rintro e w' ⟨rfl, rfl⟩) | (go_at_call 11; refine (nan_any _ _).mono ?_; rintro e w' ⟨rfl, rfl⟩) | (go_at_call 10; refine (part_any _ _ (by assumption) _).mono ?_; rintro e w' ⟨rfl, rfl⟩))
        all_goals
          go_ret
          first | exact ⟨rfl, (by repeat (first | exact Below.refl _ _ | refine Below.drew ?_ | refine Below.alloc ?_ (by simp) _ | refine Below.setCell ?_ (by simp) _))⟩ | exact ⟨ret_bool (by grind), (by repeat (first | exact Below.refl _ _ | refine Below.drew ?_ | refine Below.alloc ?_ (by simp) _ | refine Below.setCell ?_ (by simp) _))⟩
      · by_cases hx : a0_0 ≤ a0_1
        · have f1 := Flo.part_range a0_0 h1
          have f2 := Flo.part_range a0_0 h2
          have f3 := Flo.part_mono_p a0_0 h1 h2 n1 n2 (by omega)
          have f4 := Flo.part_mono_n hx h1
          have hc : compare (key a1) (key a2) = .lt ∨ compare (key a1) (key a2) = .eq := by
            rcases Int.lt_trichotomy (key a1) (key a2) with a | a | a
            · exact .inl (Flo.compare_lt a)
            · rw [a]; exact .inr (Flo.compare_eq _)
            · omega
          clear hk
          rcases hc with hc | hc
          all_goals
            rw [hc] at O
            clear hc
            go_enter Try.func4, Try.ntmps4
            go_wp2_with (first | (go_at_call 8; refine (awake_any _).mono ?_; rintro e w' ⟨rfl, rfl⟩) | (go_at_call 11; refine (nan_any _ _).mono ?_; rintro e w' ⟨rfl, rfl⟩) | (go_at_call 10; refine (part_any _ _ (by assumption) _).mono ?_; rintro e w' ⟨rfl, rfl⟩))
            all_goals
              go_ret
              first | exact ⟨rfl, (by repeat (first | exact Below.refl _ _ | refine Below.drew ?_ | refine Below.alloc ?_ (by simp) _ | refine Below.setCell ?_ (by simp) _))⟩ | exact ⟨ret_bool (by grind), (by repeat (first | exact Below.refl _ _ | refine Below.drew ?_ | refine Below.alloc ?_ (by simp) _ | refine Below.setCell ?_ (by simp) _))⟩
        · have hc : compare (key a1) (key a2) = .lt ∨ compare (key a1) (key a2) = .eq := by
            rcases Int.lt_trichotomy (key a1) (key a2) with a | a | a
            · exact .inl (Flo.compare_lt a)
            · rw [a]; exact .inr (Flo.compare_eq _)
            · omega
          clear hk
          rcases hc with hc | hc
          all_goals
            rw [hc] at O
            clear hc
            go_enter Try.func4, Try.ntmps4
            go_wp2_with (first | (go_at_call 8; refine (awake_any _).mono ?_; rintro e w' ⟨rfl, rfl⟩) | (go_at_call 11; refine (nan_any _ _).mono ?_; rintro e w' ⟨rfl, rfl⟩) | (go_at_call 10; refine (part_any _ _ (by assumption) _).mono ?_; rintro e w' ⟨rfl, rfl⟩))
            all_goals
              go_ret
              first | exact ⟨rfl, (by repeat (first | exact Below.refl _ _ | refine Below.drew ?_ | refine Below.alloc ?_ (by simp) _ | refine Below.setCell ?_ (by simp) _))⟩ | exact ⟨ret_bool (by grind), (by repeat (first | exact Below.refl _ _ | refine Below.drew ?_ | refine Below.alloc ?_ (by simp) _ | refine Below.setCell ?_ (by simp) _))⟩
    ·
      go_enter Try.func4, Try.ntmps4
      go_wp2_with (first | (go_at_call 8; refine (awake_any _).mono ?_; rintro e w' ⟨rfl, rfl⟩) | (go_at_call 11; refine (nan_any _ _).mono ?_; rintro e w' ⟨rfl, rfl⟩) | (go_at_call 10; refine (part_any _ _ (by assumption) _).mono ?_; rintro e w' ⟨rfl, rfl⟩))
      all_goals
        go_ret
        first | exact ⟨rfl, (by repeat (first | exact Below.refl _ _ | refine Below.drew ?_ | refine Below.alloc ?_ (by simp) _ | refine Below.setCell ?_ (by simp) _))⟩ | exact ⟨ret_bool (by grind), (by repeat (first | exact Below.refl _ _ | refine Below.drew ?_ | refine Below.alloc ?_ (by simp) _ | refine Below.setCell ?_ (by simp) _))⟩
  ·
    go_enter Try.func4, Try.ntmps4
    go_wp2_with (first | (go_at_call 8; refine (awake_any _).mono ?_; rintro e w' ⟨rfl, rfl⟩) | (go_at_call 11; refine (nan_any _ _).mono ?_; rintro e w' ⟨rfl, rfl⟩) | (go_at_call 10; refine (part_any _ _ (by assumption) _).mono ?_; rintro e w' ⟨rfl, rfl⟩))
    all_goals
      go_ret
      first | exact ⟨rfl, (by repeat (first | exact Below.refl _ _ | refine Below.drew ?_ | refine Below.alloc ?_ (by simp) _ | refine Below.setCell ?_ (by simp) _))⟩ | exact ⟨ret_bool (by grind), (by repeat (first | exact Below.refl _ _ | refine Below.drew ?_ | refine Below.alloc ?_ (by simp) _ | refine Below.setCell ?_ (by simp) _))⟩

theorem part_is {n v : Int} {p : Nat} (hp : p < 2 ^ 64) (h : partV n p = v) (w : World) :
    Calls Try.prog 10 #[.int .i64 n, .float .f64 p] w fun e w' => e = .returned (.int .i64 v) ∧ w = w' := by
  subst h
  exact part_any n p hp w
theorem part_nanw (n : Int) : partV n 9221120237041090561 = 0 := Flo.part_nan n (by decide)
theorem key_neg {d : Nat} (h : 9223372036854775808 ≤ d) (hd : d < 2 ^ 64) : key d ≤ 0 := by
  rcases Flo.sign_ways hd with a | a | a <;> omega
theorem part_ninf (n : Int) : partV n 18442240474082181120 = 0 := Flo.part_neg n (key_neg (by decide) (by decide))
theorem part_nzero (n : Int) : partV n 9223372036854775808 = 0 := Flo.part_neg n (key_neg (by decide) (by decide))
theorem key_big {d : Nat} (h : 4607182418800017408 ≤ d) (hd : d < 9223372036854775808) : (SC : Int) ≤ key d := by
  have h1 := Flo.fixv_mono Flo.BH_pos h
  rw [Flo.fixv_one] at h1
  rcases Flo.sign_ways (d := d) (by omega) with a | a | a <;> omega
theorem part_big (n : Int) {d : Nat} (hn : nan d = false) (hk : (SC : Int) ≤ key d) : partV n d = min (max n 0) 1099511627776 := by
  by_cases h : n < 1
  · rw [Flo.part_low _ h]; omega
  · rw [Flo.part_all (by omega) hn hk]; omega
theorem part_inf (n : Int) : partV n 9218868437227405312 = min (max n 0) 1099511627776 := part_big n (by decide) (key_big (by decide) (by decide))

theorem walk_RatioTimes (a0 : Int) (a1 : Nat) (a2 : Nat) (W : World) (w0 : (Lit.int .i64 a0).wf = true) (w1 : (Lit.float .f64 a1).wf = true) (w2 : (Lit.float .f64 a2).wf = true) :
    Calls Try.prog 6 #[.int .i64 a0, .float .f64 a1, .float .f64 a2] W fun e w' => e = .returned (.bool true) ∧ Below W.heap.size W w' := by
  have h1 := word_of w1
  have h2 := word_of w2
  have E1 := Lib.hid (part_nanw a0)
  have E2 := Lib.hid (part_ninf a0)
  have E3 := Lib.hid (part_nzero a0)
  obtain ⟨m, hm⟩ : ∃ m, min (max a0 0) 1099511627776 = m := ⟨_, rfl⟩
  have E4 := Lib.hid ((part_inf a0).trans hm)
  have m1 : m ≤ min (max a0 0) 1099511627776 := by omega
  have m2 : min (max a0 0) 1099511627776 ≤ m := by omega
  clear hm
  have r1 := Flo.part_range a0 h1
  have r2 := Flo.part_range a0 h2
  clear w0 w1 w2
  go_enter Try.func6, Try.ntmps6
  go_wp2_with (first | (go_at_call 8; refine (awake_any _).mono ?_; rintro e w' ⟨rfl, rfl⟩) | (go_at_call 12; refine (times_any _ _ _ (by assumption) (by assumption) _).mono ?_; rintro e w' ⟨rfl, rfl⟩) | (go_at_call 15; refine (nan_call _).mono ?_; rintro e w' ⟨rfl, rfl⟩) | (go_at_call 16; refine (inf_call _ _).mono ?_; rintro e w' ⟨rfl, rfl⟩) | (go_at_call 17; refine (neg0_call _).mono ?_; rintro e w' ⟨rfl, rfl⟩) | (go_at_call 10; ((with_reducible refine (part_is (by decide) E1.out _).mono ?_); rintro e w' ⟨rfl, rfl⟩)) | (go_at_call 10; ((with_reducible refine (part_is (by decide) E2.out _).mono ?_); rintro e w' ⟨rfl, rfl⟩)) | (go_at_call 10; ((with_reducible refine (part_is (by decide) E3.out _).mono ?_); rintro e w' ⟨rfl, rfl⟩)) | (go_at_call 10; ((with_reducible refine (part_is (by decide) E4.out _).mono ?_); rintro e w' ⟨rfl, rfl⟩)))
  all_goals
    go_ret
    first | exact ⟨rfl, (by repeat (first | exact Below.refl _ _ | refine Below.drew ?_ | refine Below.alloc ?_ (by simp) _ | refine Below.setCell ?_ (by simp) _))⟩ | exact ⟨ret_bool (by grind), (by repeat (first | exact Below.refl _ _ | refine Below.drew ?_ | refine Below.alloc ?_ (by simp) _ | refine Below.setCell ?_ (by simp) _))⟩

end Go.Proofs.Ytfgelcdnlginjaa
