/- The packages are awake; what is refused. -/
import Derived.Test.YtihekjoeibljpaaRen
import Derived.Test.YtihekjoeibljpaaOpen
namespace Go.Proofs.Ytihekjoeibljpaa
open Go.ChangeShapes Go.WideShapes Go.ChangeAt Go.RowKit
set_option linter.unusedVariables false
set_option linter.unusedSimpArgs false

theorem enc_no (la lb : Int) (lc : ByteArray) (lu lk lt lz lv : Int) (w : World) (hr : ¬ RightP lb lc lu lk lt lz lv) : Calls Try.prog 8 #[.agg #[.int .u32 la, .int .i64 lb, .string lc, .int .i64 lu, .int .i64 lk, .int .i64 lt, .int .i64 lz, .int .i64 lv]] w fun e w' => e = .returned (.tuple #[.slice none 0 0, .int .i64 1]) ∧ Below w.heap.size w w' := by
  have hd : decide (RightP lb lc lu lk lt lz lv) = false := decide_eq_false hr
  clear hr
  go_enter Try.func8, Try.ntmps8
  go_wp2_with (go_at_call 10; (with_reducible refine (right_any _ _ _ _ _ _ _ _ _).mono ?_); rintro e w1 ⟨rfl, hx⟩; have H1 := Lib.hid (low (low0 w (.cells #[.int .u32 la, .int .i64 lb, .string lc, .int .i64 lu, .int .i64 lk, .int .i64 lt, .int .i64 lz, .int .i64 lv] 25)) hx); clear hx)
  go_ret2
  exact ⟨rfl, H1.out⟩

theorem renc_no (la lb : Int) (lc : ByteArray) (lu lk lt lz lv : Int) (w : World) (hr : ¬ RightP lb lc lu lk lt lz lv) : Calls Try.prog 9 #[.agg #[.int .u32 la, .int .i64 lb, .string lc, .int .i64 lu, .int .i64 lk, .int .i64 lt, .int .i64 lz, .int .i64 lv]] w fun e w' => e = .returned (.tuple #[.slice none 0 0, .int .i64 1]) ∧ Below w.heap.size w w' := by
  have hd : decide (RightP lb lc lu lk lt lz lv) = false := decide_eq_false hr
  clear hr
  go_enter Try.func9, Try.ntmps9
  go_wp2_with (go_at_call 11; (with_reducible refine (rright_any _ _ _ _ _ _ _ _ _).mono ?_); rintro e w1 ⟨rfl, hx⟩; have H1 := Lib.hid (low (low0 w (.cells #[.int .u32 la, .int .i64 lb, .string lc, .int .i64 lu, .int .i64 lk, .int .i64 lt, .int .i64 lz, .int .i64 lv] 25)) hx); clear hx)
  go_ret2
  exact ⟨rfl, H1.out⟩

theorem sz0 : ({ data := #[] } : ByteArray).size = 0 := rfl
theorem sz1 : ({ data := #[120] } : ByteArray).size = 1 := rfl
set_option maxRecDepth 100000 in
theorem awake_any (w : World) : Calls Try.prog 7 #[] w fun e w' => e = .returned (.bool true) ∧ Below w.heap.size w w' := by
  go_enter Try.func7, Try.ntmps7
  go_wp2_with (first | (go_at_call 14; (with_reducible refine (bare_any _ _ _ _).mono ?_); rintro e w2 ⟨rfl, hx⟩; have H2 := Lib.hid hx; clear hx) | (go_at_call 8; refine (enc_any 5 0 { data := #[] } 0 0 0 0 3 (by decide) _ (by decide)).mono ?_; rintro e w3 ⟨v, rfl, hown, hx⟩; have H3 := Lib.hid (low H2.out hx); obtain ⟨g, cap, rfl, _, hn, hm, hrow⟩ := own_row hown (by decide); have c3 := hrow.at (j := 3) (v := .int .u8 5) (by kernel_rfl); have c4 := hrow.at (j := 34) (v := .int .u8 3) (by kernel_rfl); clear hx hown hrow) | (go_at_call 12; (with_reducible refine (over_any _ _ _ _ _ _ _ _ _).mono ?_); rintro e w5 ⟨rfl, hx⟩; have H5 := Lib.hid (low H3.out hx); clear hx))
  go_ret
  exact ⟨rfl, H5.out⟩

end Go.Proofs.Ytihekjoeibljpaa
