/- What is known of an address behind what is told of it; the packages are awake. -/
import Derived.Test.YtkpgchhbeebgkaaTkd
import Derived.Test.YtkpgchhbeebgkaaTk0
import Derived.Test.YtkpgchhbeebgkaaTk1
import Derived.Test.YtkpgchhbeebgkaaTk2
import Derived.Test.YtkpgchhbeebgkaaTk3
import Derived.Test.YtkpgchhbeebgkaaTk4
import Derived.Test.YtkpgchhbeebgkaaTk5
import Derived.Test.YtkpgchhbeebgkaaRta
import Derived.Test.YtkpgchhbeebgkaaRtb
import Derived.Test.YtkpgchhbeebgkaaRtc
import Derived.Test.YtkpgchhbeebgkaaRtd
import Derived.Test.YtkpgchhbeebgkaaRte
import Derived.Test.YtkpgchhbeebgkaaTkv
import Derived.Test.YtkpgchhbeebgkaaOpen
namespace Go.Proofs.Ytkpgchhbeebgkaa
open Go.ChangeShapes Go.WideShapes Go.ChangeAt Go.RowKit
set_option linter.unusedVariables false
set_option linter.unusedSimpArgs false

theorem take_any (la lb : Int) (lc : ByteArray) (lu lk lt lz lv : Int) (m0 m1 m2 m3 m4 ma mb : Int) (mc : ByteArray) (mp mt : Int) (mo : Bool) (st now gd : Int) (w : World) : Calls Try.prog 9 #[.agg #[.int .u32 la, .int .i64 lb, .string lc, .int .i64 lu, .int .i64 lk, .int .i64 lt, .int .i64 lz, .int .i64 lv], .agg #[.int .i64 m0, .int .i64 m1, .int .i64 m2, .int .i64 m3, .int .i64 m4, .int .u32 ma, .int .i64 mb, .string mc, .int .i64 mp, .int .i64 mt, .bool mo], .int .i64 st, .int .i64 now, .int .i64 gd] w fun e w' => e = .returned (.tuple #[(takeV la ⟨lb, lc, lu, lk, lt, lz, lv⟩ m0 ma mb mc mp mt st now gd).1.val la, .bool (takeV la ⟨lb, lc, lu, lk, lt, lz, lv⟩ m0 ma mb mc mp mt st now gd).2]) ∧ Below w.heap.size w w' := by
  by_cases hf : FairP la lb lc lu lk lt lz lv m0 ma mb mc mp mt
  · rcases hf.2.2.2.2 with ⟨h | h | h, _⟩ | h | h | h
    all_goals subst h
    · exact take_fair2 la lb lc lu lk lt lz lv m0 m1 m2 m3 m4 ma mc mp mt mo st now gd w hf
    · exact take_fair3 la lb lc lu lk lt lz lv m0 m1 m2 m3 m4 ma mc mp mt mo st now gd w hf
    · exact take_fair4 la lb lc lu lk lt lz lv m0 m1 m2 m3 m4 ma mc mp mt mo st now gd w hf
    · exact take_fair0 la lb lc lu lk lt lz lv m0 m1 m2 m3 m4 ma mc mp mt mo st now gd w hf
    · exact take_fair1 la lb lc lu lk lt lz lv m0 m1 m2 m3 m4 ma mc mp mt mo st now gd w hf
    · exact take_fair5 la lb lc lu lk lt lz lv m0 m1 m2 m3 m4 ma mc mp mt mo st now gd w hf
  · exact take_unfair la lb lc lu lk lt lz lv m0 m1 m2 m3 m4 ma mb mc mp mt mo st now gd w hf

theorem rtake_any (la lb : Int) (lc : ByteArray) (lu lk lt lz lv : Int) (m0 m1 m2 m3 m4 ma mb : Int) (mc : ByteArray) (mp mt : Int) (mo : Bool) (st now gd : Int) (w : World) : Calls Try.prog 10 #[.agg #[.int .u32 la, .int .i64 lb, .string lc, .int .i64 lu, .int .i64 lk, .int .i64 lt, .int .i64 lz, .int .i64 lv], .agg #[.int .i64 m0, .int .i64 m1, .int .i64 m2, .int .i64 m3, .int .i64 m4, .int .u32 ma, .int .i64 mb, .string mc, .int .i64 mp, .int .i64 mt, .bool mo], .int .i64 st, .int .i64 now, .int .i64 gd] w fun e w' => e = .returned (.tuple #[(takeV la ⟨lb, lc, lu, lk, lt, lz, lv⟩ m0 ma mb mc mp mt st now gd).1.val la, .bool (takeV la ⟨lb, lc, lu, lk, lt, lz, lv⟩ m0 ma mb mc mp mt st now gd).2]) ∧ Below w.heap.size w w' := by
  by_cases hf : FairP la lb lc lu lk lt lz lv m0 ma mb mc mp mt
  · rcases hf.2.2.2.2 with ⟨h | h | h, _⟩ | h | h | h
    all_goals subst h
    · exact rtake_fair2 la lb lc lu lk lt lz lv m0 m1 m2 m3 m4 ma mc mp mt mo st now gd w hf
    · exact rtake_fair3 la lb lc lu lk lt lz lv m0 m1 m2 m3 m4 ma mc mp mt mo st now gd w hf
    · exact rtake_fair4 la lb lc lu lk lt lz lv m0 m1 m2 m3 m4 ma mc mp mt mo st now gd w hf
    · exact rtake_fair0 la lb lc lu lk lt lz lv m0 m1 m2 m3 m4 ma mc mp mt mo st now gd w hf
    · exact rtake_fair1 la lb lc lu lk lt lz lv m0 m1 m2 m3 m4 ma mc mp mt mo st now gd w hf
    · exact rtake_fair5 la lb lc lu lk lt lz lv m0 m1 m2 m3 m4 ma mc mp mt mo st now gd w hf
  · exact rtake_unfair la lb lc lu lk lt lz lv m0 m1 m2 m3 m4 ma mb mc mp mt mo st now gd w hf

theorem sz0 : ({ data := #[] } : ByteArray).size = 0 := rfl
theorem sz1 : ({ data := #[98] } : ByteArray).size = 1 := rfl
theorem sz2 : ({ data := #[97] } : ByteArray).size = 1 := rfl
theorem aw1 : takeV 1 ⟨0, { data := #[] }, 0, 0, 0, 0, 0⟩ 2 1 2 { data := #[98] } 9 0 1 5 2 = (⟨2, { data := #[98] }, 0, 0, 9, 0, 0⟩, true) := by
  have e : clkAdd 9 0 = 9 := by unfold clkAdd mom bnd; omega
  have hv : verV 2 9 0 = 0 := rfl
  unfold takeV
  rw [if_pos ⟨⟨by unfold okT; simp, .inr ⟨.inl rfl, rfl, rfl, rfl, rfl, rfl⟩⟩, rfl, rfl, by rw [hv]; unfold okT; omega, .inl ⟨.inl rfl, by decide, by decide⟩⟩, if_pos rfl, e]
  simp [actV]
theorem aw2 : takeV 1 ⟨2, { data := #[97] }, 7, 0, 0, 0, 0⟩ 2 1 2 { data := #[98] } 9 0 1 5 2 = (⟨2, { data := #[97] }, 7, 0, 0, 0, 0⟩, false) := by
  have hv : verV 2 9 0 = 0 := rfl
  unfold takeV
  rw [if_pos ⟨⟨by unfold okT; simp, .inl ⟨by simp, by simp, by decide, by decide⟩⟩, rfl, rfl, by rw [hv]; unfold okT; omega, .inl ⟨.inl rfl, by decide, by decide⟩⟩, if_pos rfl]
  simp [actV, recV]

set_option maxRecDepth 100000 in
theorem awake_any (w : World) : Calls Try.prog 8 #[] w fun e w' => e = .returned (.bool true) ∧ Below w.heap.size w w' := by
  have H0 := Lib.hid ((HeldB.nil (low0 w (.cells #[.int .i64 2, .int .i64 0, .int .i64 0, .int .i64 0, .int .i64 0, .int .u32 1, .int .i64 2, .string { data := #[98] }, .int .i64 9, .int .i64 0, .bool false] 27))).cons (Blk.new w #[.int .i64 2, .int .i64 0, .int .i64 0, .int .i64 0, .int .i64 0, .int .u32 1, .int .i64 2, .string { data := #[98] }, .int .i64 9, .int .i64 0, .bool false] 27))
  have A1 := Lib.hid aw1
  have A2 := Lib.hid aw2
  go_enter Try.func8, Try.ntmps8
  go_upto_region 3 with (go_at_call 9; (with_reducible refine (take_any _ _ _ _ _ _ _ _ _ _ _ _ _ _ _ _ _ _ _ _ _ _ _).mono ?_); rintro e w2 ⟨rfl, hx⟩; have H2 := Lib.hid (H0.out.keep hx); clear hx; simp only [Lz.val] at *; rw [A1.out]; dsimp only)
  have H3 := Lib.hid (H2.out.new #[.int .u32 1, .int .i64 2, .string { data := #[98] }, .int .i64 0, .int .i64 0, .int .i64 9, .int .i64 0, .int .i64 0] 25)
  generalize w2.alloc (.cells #[.int .u32 1, .int .i64 2, .string { data := #[98] }, .int .i64 0, .int .i64 0, .int .i64 9, .int .i64 0, .int .i64 0] 25) = w3 at *
  generalize w2.heap.size = g2 at *
  obtain ⟨p0_0, p0_1, p0_2, p0_3, p0_4, p0_5, p0_6, p0_7⟩ := (H3.out).b0.cells8; have pf0 := (H3.out).b0.free; obtain ⟨p1_0, p1_1, p1_2, p1_3, p1_4, p1_5, p1_6, p1_7, p1_8, p1_9, p1_10⟩ := (H3.out).tl.b0.cells11; have pf1 := (H3.out).tl.b0.free
  go_upto_region 4 with (go_at_call 9; (with_reducible refine (take_any _ _ _ _ _ _ _ _ _ _ _ _ _ _ _ _ _ _ _ _ _ _ _).mono ?_); rintro e w4 ⟨rfl, hx⟩; have H4 := Lib.hid (H3.out.keep hx); clear hx; simp only [Lz.val] at *; rw [A2.out]; dsimp only)
  have H5 := Lib.hid (H4.out.new #[.int .u32 1, .int .i64 2, .string { data := #[97] }, .int .i64 7, .int .i64 0, .int .i64 0, .int .i64 0, .int .i64 0] 25)
  generalize w4.alloc (.cells #[.int .u32 1, .int .i64 2, .string { data := #[97] }, .int .i64 7, .int .i64 0, .int .i64 0, .int .i64 0, .int .i64 0] 25) = w5 at *
  generalize w4.heap.size = g4 at *
  obtain ⟨q0_0, q0_1, q0_2, q0_3, q0_4, q0_5, q0_6, q0_7⟩ := (H5.out).b0.cells8; have qf0 := (H5.out).b0.free; obtain ⟨q1_0, q1_1, q1_2, q1_3, q1_4, q1_5, q1_6, q1_7⟩ := (H5.out).tl.b0.cells8; have qf1 := (H5.out).tl.b0.free; obtain ⟨q2_0, q2_1, q2_2, q2_3, q2_4, q2_5, q2_6, q2_7, q2_8, q2_9, q2_10⟩ := (H5.out).tl.tl.b0.cells11; have qf2 := (H5.out).tl.tl.b0.free
  go_wp2
  go_ret
  exact ⟨rfl, H5.out.2⟩

end Go.Proofs.Ytkpgchhbeebgkaa
