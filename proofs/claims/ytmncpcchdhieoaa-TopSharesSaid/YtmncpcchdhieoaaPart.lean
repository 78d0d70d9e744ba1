/- Contracts of ratio.Part and of math.IsNaN. -/
import Derived.Test.YtmncpcchdhieoaaChecked
import Derived.Test.YtmncpcchdhieoaaLz
import Derived.Test.YtmncpcchdhieoaaFlp
import Derived.WalkKit
import Derived.ProofKit
import Derived.WalkLawsBesides
import Derived.Outline
import Derived.Lib.Hide
namespace Go.Proofs.Ytmncpcchdhieoaa
open Go.ChangeShapes Go.WideShapes Go.ChangeAt Go.RowKit
set_option linter.unusedVariables false



open Flo (partV nan key SC)

theorem nan_any (p : Nat) (w : World) :
    Calls Try.prog 62 #[.float .f64 p] w fun e w' => e = .returned (.bool (nan p)) ∧ w = w' := by
  cases hn : nan p
  · have O : FloatKind.f64.format.order p p = some .eq := Flo.order_self hn
    go_enter Try.func62, Try.ntmps62
    go_wp2
    go_ret
    exact ⟨rfl, rfl⟩
  · have O : FloatKind.f64.format.order p p = none := Flo.order_nan_left p hn
    go_enter Try.func62, Try.ntmps62
    go_wp2
    go_ret
    exact ⟨rfl, rfl⟩

set_option maxRecDepth 100000 in
theorem ratpart_any (n : Int) (p : Nat) (hp : p < 2 ^ 64) (w : World) :
    Calls Try.prog 38 #[.int .i64 n, .float .f64 p] w fun e w' => e = .returned (.int .i64 (partV n p)) ∧ w = w' := by
  rcases Flo.ways n p with h | h | ⟨h, k⟩ | ⟨h, k, l⟩ | ⟨h, k, l, m⟩
  · have V := Lib.hid (Flo.part_low p h)
    go_enter Try.func38, Try.ntmps38
    go_wp2
    all_goals
      go_ret
      exact ⟨ret_int (by rw [V.out]), rfl⟩
  · have V := Lib.hid (Flo.part_nan n h)
    have O0 : FloatKind.f64.format.order p 0 = none := Flo.order_nan_left _ h
    go_enter Try.func38, Try.ntmps38
    go_wp2
    all_goals
      go_ret
      exact ⟨ret_int (by rw [V.out]), rfl⟩
  · have V := Lib.hid (Flo.part_neg n k)
    have O0 : FloatKind.f64.format.order p 0 = some (compare (key p) 0) := Flo.order_zero h
    have hc : compare (key p) 0 = .lt ∨ compare (key p) 0 = .eq := by
      rcases Int.lt_trichotomy (key p) 0 with a | a | a
      · exact .inl (Flo.compare_lt a)
      · rw [a]; exact .inr (Flo.compare_eq 0)
      · omega
    rcases hc with hc | hc
    all_goals
      rw [hc] at O0
      clear hc k
      go_enter Try.func38, Try.ntmps38
      go_wp2
      all_goals
        go_ret
        exact ⟨ret_int (by rw [V.out]), rfl⟩
  · have V := Lib.hid (Flo.part_all h k l)
    have O0 : FloatKind.f64.format.order p 0 = some .gt := (Flo.order_zero k).trans (congrArg some (Flo.compare_gt (by have := Flo.SC_pos; omega)))
    have O1 : FloatKind.f64.format.order p 4607182418800017408 = some (compare (key p) SC) := Flo.order_one k
    have hc : compare (key p) SC = .gt ∨ compare (key p) SC = .eq := by
      rcases Int.lt_trichotomy (key p) SC with a | a | a
      · omega
      · rw [a]; exact .inr (Flo.compare_eq _)
      · exact .inl (Flo.compare_gt a)
    rcases hc with hc | hc
    all_goals
      rw [hc] at O1
      clear hc l
      go_enter Try.func38, Try.ntmps38
      go_wp2
      all_goals
        go_ret
        exact ⟨ret_int (by rw [V.out]; omega), rfl⟩
  · have V := Lib.hid (Flo.part_prod h k l m)
    have O0 : FloatKind.f64.format.order p 0 = some .gt := (Flo.order_zero k).trans (congrArg some (Flo.compare_gt l))
    have O1 : FloatKind.f64.format.order p 4607182418800017408 = some .lt := (Flo.order_one k).trans (congrArg some (Flo.compare_lt m))
    by_cases hb : n ≤ 1099511627776
    · obtain ⟨r, q1, q2, q3, q4, q5, q6⟩ := Flo.part_mid hp h hb k l m
      rw [Int.min_eq_left hb] at V
      generalize Flo.prodI n.toNat p = v at *
      have X1 := run_float_arith (P := Try.prog) w .mul 22 .f64 (floatOfInt .f64 n) p r q1
      have X2 := run_convert_float_int (P := Try.prog) w 22 3 .f64 .i64 r v (by kernel_rfl) Try.underlying3 q2
      clear q1 q2 q4 q5 q6
      go_enter Try.func38, Try.ntmps38
      go_wp2
      all_goals
        go_ret
        exact ⟨ret_int (by first | (rw [V.out]; done) | (rw [V.out]; omega)), rfl⟩
    · have hb' : (1099511627776 : Int) ≤ n := by omega
      obtain ⟨r, q1, q2, q3, q4, q5, q6⟩ := Flo.part_mid (n := 1099511627776) hp (by omega) (by omega) k l m
      rw [Int.min_eq_right hb'] at V
      generalize Flo.prodI (1099511627776 : Int).toNat p = v at *
      have X1 := run_float_arith (P := Try.prog) w .mul 22 .f64 (floatOfInt .f64 1099511627776) p r q1
      have X2 := run_convert_float_int (P := Try.prog) w 22 3 .f64 .i64 r v (by kernel_rfl) Try.underlying3 q2
      clear q1 q2 q4 q5 q6
      go_enter Try.func38, Try.ntmps38
      go_wp2
      all_goals
        go_ret
        exact ⟨ret_int (by first | (rw [V.out]; done) | (rw [V.out]; omega)), rfl⟩

theorem mid_ways {r x v : Nat} {n : Int} {f : Nat} (h : Ieee.double.order r x = some (compare ((f : Nat) : Int) ((n.toNat * SC : Nat) : Int))) (k : f ≤ n.toNat * SC) (l : v = f / SC) :
    (FloatKind.f64.format.order r x = some .eq ∧ v = n.toNat) ∨ FloatKind.f64.format.order r x = some .lt := by
  by_cases e : f = n.toNat * SC
  · left
    refine ⟨h.trans (congrArg some ?_), ?_⟩
    · rw [e]; exact Flo.compare_eq _
    · rw [l, e]; exact Nat.mul_div_cancel _ Flo.SC_pos
  · right
    exact h.trans (congrArg some (Flo.compare_lt (by omega)))

end Go.Proofs.Ytmncpcchdhieoaa
