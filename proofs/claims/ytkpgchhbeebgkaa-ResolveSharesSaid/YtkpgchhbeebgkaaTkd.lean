/- What is known of an address behind what is told of it, by the program: the cases. -/
import Derived.Test.YtkpgchhbeebgkaaTld
namespace Go.Proofs.Ytkpgchhbeebgkaa
open Go.ChangeShapes Go.WideShapes Go.ChangeAt Go.RowKit
set_option linter.unusedVariables false
set_option linter.unusedSimpArgs false

set_option maxRecDepth 100000 in
set_option maxHeartbeats 4000000 in
theorem take_unfair (la lb : Int) (lc : ByteArray) (lu lk lt lz lv : Int) (m0 m1 m2 m3 m4 ma mb : Int) (mc : ByteArray) (mp mt : Int) (mo : Bool) (st now gd : Int) (w : World) (hf : ¬ FairP la lb lc lu lk lt lz lv m0 ma mb mc mp mt) : Calls Try.prog 9 #[.agg #[.int .u32 la, .int .i64 lb, .string lc, .int .i64 lu, .int .i64 lk, .int .i64 lt, .int .i64 lz, .int .i64 lv], .agg #[.int .i64 m0, .int .i64 m1, .int .i64 m2, .int .i64 m3, .int .i64 m4, .int .u32 ma, .int .i64 mb, .string mc, .int .i64 mp, .int .i64 mt, .bool mo], .int .i64 st, .int .i64 now, .int .i64 gd] w fun e w' => e = .returned (.tuple #[(takeV la ⟨lb, lc, lu, lk, lt, lz, lv⟩ m0 ma mb mc mp mt st now gd).1.val la, .bool (takeV la ⟨lb, lc, lu, lk, lt, lz, lv⟩ m0 ma mb mc mp mt st now gd).2]) ∧ Below w.heap.size w w' := by
  have HV := Lib.hid (show takeV la ⟨lb, lc, lu, lk, lt, lz, lv⟩ m0 ma mb mc mp mt st now gd = (⟨lb, lc, lu, lk, lt, lz, lv⟩, false) from if_neg hf)
  have HF := Lib.hid (show decide (FairP la lb lc lu lk lt lz lv m0 ma mb mc mp mt) = false from decide_eq_false hf)
  clear hf
  have H0 := Lib.hid ((((HeldB.nil (lowA (lowA (low0 w (.cells #[.int .u32 la, .int .i64 lb, .string lc, .int .i64 lu, .int .i64 lk, .int .i64 lt, .int .i64 lz, .int .i64 lv] 25)) (.cells #[.int .i64 m0, .int .i64 m1, .int .i64 m2, .int .i64 m3, .int .i64 m4, .int .u32 ma, .int .i64 mb, .string mc, .int .i64 mp, .int .i64 mt, .bool mo] 27)) (.cells #[.int .u32 0, .int .i64 0, .string { data := #[] }, .int .i64 0, .int .i64 0, .int .i64 0, .int .i64 0, .int .i64 0] 25))).cons ((Blk.new2' w #[.int .u32 la, .int .i64 lb, .string lc, .int .i64 lu, .int .i64 lk, .int .i64 lt, .int .i64 lz, .int .i64 lv] 25 (.cells #[.int .i64 m0, .int .i64 m1, .int .i64 m2, .int .i64 m3, .int .i64 m4, .int .u32 ma, .int .i64 mb, .string mc, .int .i64 mp, .int .i64 mt, .bool mo] 27)).alloc (.cells #[.int .u32 0, .int .i64 0, .string { data := #[] }, .int .i64 0, .int .i64 0, .int .i64 0, .int .i64 0, .int .i64 0] 25))).cons ((Blk.new2 w (.cells #[.int .u32 la, .int .i64 lb, .string lc, .int .i64 lu, .int .i64 lk, .int .i64 lt, .int .i64 lz, .int .i64 lv] 25) #[.int .i64 m0, .int .i64 m1, .int .i64 m2, .int .i64 m3, .int .i64 m4, .int .u32 ma, .int .i64 mb, .string mc, .int .i64 mp, .int .i64 mt, .bool mo] 27).alloc (.cells #[.int .u32 0, .int .i64 0, .string { data := #[] }, .int .i64 0, .int .i64 0, .int .i64 0, .int .i64 0, .int .i64 0] 25))).cons (Blk.new3 w (.cells #[.int .u32 la, .int .i64 lb, .string lc, .int .i64 lu, .int .i64 lk, .int .i64 lt, .int .i64 lz, .int .i64 lv] 25) (.cells #[.int .i64 m0, .int .i64 m1, .int .i64 m2, .int .i64 m3, .int .i64 m4, .int .u32 ma, .int .i64 mb, .string mc, .int .i64 mp, .int .i64 mt, .bool mo] 27) #[.int .u32 0, .int .i64 0, .string { data := #[] }, .int .i64 0, .int .i64 0, .int .i64 0, .int .i64 0, .int .i64 0] 25))
  go_enter Try.func9, Try.ntmps9
  go_wp2_with (go_at_call 13; ((with_reducible refine (fair_any _ _ _ _ _ _ _ _ _ _ _ _ _ _ _ _ _ _ _ _).mono ?_)); rintro e w1 ⟨he, hx⟩; rw [HF.out] at he; subst he; have H1 := Lib.hid (H0.out.keep hx); clear hx; obtain ⟨p0_0, p0_1, p0_2, p0_3, p0_4, p0_5, p0_6, p0_7⟩ := (H1.out).b0.cells8; have pf0 := (H1.out).b0.free; obtain ⟨p1_0, p1_1, p1_2, p1_3, p1_4, p1_5, p1_6, p1_7, p1_8, p1_9, p1_10⟩ := (H1.out).tl.b0.cells11; have pf1 := (H1.out).tl.b0.free; obtain ⟨p2_0, p2_1, p2_2, p2_3, p2_4, p2_5, p2_6, p2_7⟩ := (H1.out).tl.tl.b0.cells8; have pf2 := (H1.out).tl.tl.b0.free)
  refine ret_by rfl ?_
  apply Exists.intro
  apply And.intro
  focus (simp [results, Try.results9, go_sem, p0_0, p0_1, p0_2, p0_3, p0_4, p0_5, p0_6, p0_7]; exact rfl)
  refine ⟨?_, ?_⟩
  · rw [HV.out]
    first | rfl | exact ret_pair (by simp only [Lz.val]; congr <;> omega) rfl
  · repeat (with_reducible refine below_set ?_ (by omega) _)
    exact H1.out.2

theorem recV_bool {st : Int} : (st == 6 || st == 7 || st == 8) = recV st := by
  unfold recV
  rw [Bool.eq_iff_iff]
  simp [or_assoc]
theorem recV_8 {st : Int} (h6 : ¬ st = 6) (h7 : ¬ st = 7) : recV st = decide (st = 8) := by
  unfold recV
  rw [decide_eq_decide]
  omega
def takeF (l : Lz) (mb : Int) (mc : ByteArray) (mp mt : Int) (r o : Bool) (gd : Int) : Lz × Bool :=
  if mb = 2 then actV l mc (clkAdd mp 0) mt r o
  else if mb = 3 then endV l 3 mc mt mp o
  else if mb = 4 then endV l 4 mc mt mp (decide (l.z = 0) || clkPast mt l.z gd)
  else if mb = 5 then (bareL 5 l.v, true)
  else freeV l mb mt r o

end Go.Proofs.Ytkpgchhbeebgkaa
