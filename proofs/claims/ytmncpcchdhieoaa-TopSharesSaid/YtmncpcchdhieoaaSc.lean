/- How leases are compared where a table is sorted. -/
import Derived.Test.YtmncpcchdhieoaaLz
namespace Go.Proofs.Ytmncpcchdhieoaa
open Go.ChangeShapes Go.WideShapes Go.ChangeAt Go.RowKit
set_option linter.unusedVariables false
set_option linter.unusedSimpArgs false

set_option maxRecDepth 100000 in
set_option maxHeartbeats 2000000 in
theorem sortc_any (xa xb : Int) (xc : ByteArray) (xu xk xt xz xv : Int) (ya yb : Int) (yc : ByteArray) (yu yk yt yz yv : Int) (B : Nat) (W : World) (hB : W.cell? ⟨B, 0, none⟩ = some (.func (.func 22) #[] #[])) :
    Calls Try.prog 40 #[.agg #[.int .u32 xa, .int .i64 xb, .string xc, .int .i64 xu, .int .i64 xk, .int .i64 xt, .int .i64 xz, .int .i64 xv], .agg #[.int .u32 ya, .int .i64 yb, .string yc, .int .i64 yu, .int .i64 yk, .int .i64 yt, .int .i64 yz, .int .i64 yv], .pointer (some ⟨B, 0, none⟩)] W fun e w' => e = .returned (.int .i64 (cmpI xa ya)) ∧ Gr W w' := by
  have hBl : B < W.heap.size := World.block_lt_of_cell? W _ hB
  have b1 := (Blk.new W #[.int .u32 xa, .int .i64 xb, .string xc, .int .i64 xu, .int .i64 xk, .int .i64 xt, .int .i64 xz, .int .i64 xv] 35).alloc (.cells #[.int .u32 ya, .int .i64 yb, .string yc, .int .i64 yu, .int .i64 yk, .int .i64 yt, .int .i64 yz, .int .i64 yv] 35)
  have b2 := Blk.new (W.alloc (.cells #[.int .u32 xa, .int .i64 xb, .string xc, .int .i64 xu, .int .i64 xk, .int .i64 xt, .int .i64 xz, .int .i64 xv] 35)) #[.int .u32 ya, .int .i64 yb, .string yc, .int .i64 yu, .int .i64 yk, .int .i64 yt, .int .i64 yz, .int .i64 yv] 35
  have hs : (W.alloc (.cells #[.int .u32 xa, .int .i64 xb, .string xc, .int .i64 xu, .int .i64 xk, .int .i64 xt, .int .i64 xz, .int .i64 xv] 35)).heap.size = W.heap.size + 1 := by simp
  rw [hs] at b2
  have g2 := ((Gr.refl W).alloc (.cells #[.int .u32 xa, .int .i64 xb, .string xc, .int .i64 xu, .int .i64 xk, .int .i64 xt, .int .i64 xz, .int .i64 xv] 35)).alloc (.cells #[.int .u32 ya, .int .i64 yb, .string yc, .int .i64 yu, .int .i64 yk, .int .i64 yt, .int .i64 yz, .int .i64 yv] 35)
  have hcb := (g2.low.cell (p := ⟨B, 0, none⟩) hBl).trans hB
  have hbl2 : B < ((W.alloc (.cells #[.int .u32 xa, .int .i64 xb, .string xc, .int .i64 xu, .int .i64 xk, .int .i64 xt, .int .i64 xz, .int .i64 xv] 35)).alloc (.cells #[.int .u32 ya, .int .i64 yb, .string yc, .int .i64 yu, .int .i64 yk, .int .i64 yt, .int .i64 yz, .int .i64 yv] 35)).heap.size := Nat.lt_of_lt_of_le hBl g2.low.size
  go_enter Try.func40, Try.ntmps40
  go_wp2
  generalize ((W.alloc (.cells #[.int .u32 xa, .int .i64 xb, .string xc, .int .i64 xu, .int .i64 xk, .int .i64 xt, .int .i64 xz, .int .i64 xv] 35)).alloc (.cells #[.int .u32 ya, .int .i64 yb, .string yc, .int .i64 yu, .int .i64 yk, .int .i64 yt, .int .i64 yz, .int .i64 yv] 35)) = W2 at *
  have HX := Lib.hid b1
  have HY := Lib.hid b2
  have HG2 := Lib.hid g2
  have HCB := Lib.hid hcb
  have HBL := Lib.hid hbl2
  clear b1 b2 g2 hcb hbl2 hs hB hBl
  refine wp_region_seq (S := Gr W2) 12 (by kernel_rfl) (by kernel_rfl) (Gr.refl W2).drew ?_
  simp only [List.take_succ_cons, List.take_zero, List.drop_succ_cons, List.drop_zero]
  refine wpHeld_val (v := ?vs0) (by rfl) ?ys0 ?rs0
  case ys0 => (intro wS hSw; have hbl := hSw.low; have cx := (HX.out.keep hbl).cells8; obtain ⟨x0, x1, x2, x3, x4, x5, x6, x7⟩ := cx; have cy := (HY.out.keep hbl).cells8; obtain ⟨y0, y1, y2, y3, y4, y5, y6, y7⟩ := cy; have cb := (hbl.cell (p := ⟨B, 0, none⟩) HBL.out).trans HCB.out; clear hSw hbl; go_simp; try (with_reducible rfl))
  try simp only [Act.put, List.setIfInBounds_toArray, List.set_cons_zero, List.set_cons_succ]
  refine wpHeld_val (v := ?vs1) (by rfl) ?ys1 ?rs1
  case ys1 => (intro wS hSw; have hbl := hSw.low; have cx := (HX.out.keep hbl).cells8; obtain ⟨x0, x1, x2, x3, x4, x5, x6, x7⟩ := cx; have cy := (HY.out.keep hbl).cells8; obtain ⟨y0, y1, y2, y3, y4, y5, y6, y7⟩ := cy; have cb := (hbl.cell (p := ⟨B, 0, none⟩) HBL.out).trans HCB.out; clear hSw hbl; go_simp; try (with_reducible rfl))
  try simp only [Act.put, List.setIfInBounds_toArray, List.set_cons_zero, List.set_cons_succ]
  refine wpHeld_run (.int .i64 0) (by rfl) ?cs2 ?rs2
  case cs2 => (intro wS hSw K hK; go_simp; (go_at_call 22; with_reducible refine (alike_any _ _ _ _ _ _ _ _ _).mono ?_; rintro e w5 ⟨rfl, rfl⟩); go_wp2_with fail; exact hK.out _ (hSw.alloc _))
  try simp only [Act.put, List.setIfInBounds_toArray, List.set_cons_zero, List.set_cons_succ]
  refine wpHeld_val (v := ?vs3) (by rfl) ?ys3 ?rs3
  case ys3 => (intro wS hSw; have hbl := hSw.low; have cx := (HX.out.keep hbl).cells8; obtain ⟨x0, x1, x2, x3, x4, x5, x6, x7⟩ := cx; have cy := (HY.out.keep hbl).cells8; obtain ⟨y0, y1, y2, y3, y4, y5, y6, y7⟩ := cy; have cb := (hbl.cell (p := ⟨B, 0, none⟩) HBL.out).trans HCB.out; clear hSw hbl; go_simp; try (with_reducible rfl))
  try simp only [Act.put, List.setIfInBounds_toArray, List.set_cons_zero, List.set_cons_succ]
  refine wpHeld_val (v := ?vs4) (by rfl) ?ys4 ?rs4
  case ys4 => (intro wS hSw; have hbl := hSw.low; have cx := (HX.out.keep hbl).cells8; obtain ⟨x0, x1, x2, x3, x4, x5, x6, x7⟩ := cx; have cy := (HY.out.keep hbl).cells8; obtain ⟨y0, y1, y2, y3, y4, y5, y6, y7⟩ := cy; have cb := (hbl.cell (p := ⟨B, 0, none⟩) HBL.out).trans HCB.out; clear hSw hbl; go_simp; try (with_reducible rfl))
  try simp only [Act.put, List.setIfInBounds_toArray, List.set_cons_zero, List.set_cons_succ]
  refine wpHeld_run (.int .i64 0) (by rfl) ?cs5 ?rs5
  case cs5 => (intro wS hSw K hK; go_simp; (go_at_call 22; with_reducible refine (alike_any _ _ _ _ _ _ _ _ _).mono ?_; rintro e w5 ⟨rfl, rfl⟩); go_wp2_with fail; exact hK.out _ (hSw.alloc _))
  try simp only [Act.put, List.setIfInBounds_toArray, List.set_cons_zero, List.set_cons_succ]
  refine wpHeld_run (.int .i64 0) (by rfl) ?cs6 ?rs6
  case cs6 => (intro wS hSw K hK; go_simp; (go_at_call 42; with_reducible refine (cmpI_any _ _ _).mono ?_; rintro e w5 ⟨rfl, rfl⟩); go_wp2_with fail; exact hK.out _ (hSw))
  try simp only [Act.put, List.setIfInBounds_toArray, List.set_cons_zero, List.set_cons_succ]
  refine wpHeld_val (v := ?vs7) (by rfl) ?ys7 ?rs7
  case ys7 => (intro wS hSw; go_simp; try (with_reducible rfl))
  try simp only [Act.put, List.setIfInBounds_toArray, List.set_cons_zero, List.set_cons_succ]
  refine wpHeld_val (v := ?vs8) (by rfl) ?ys8 ?rs8
  case ys8 => (intro wS hSw; have hbl := hSw.low; have cx := (HX.out.keep hbl).cells8; obtain ⟨x0, x1, x2, x3, x4, x5, x6, x7⟩ := cx; have cy := (HY.out.keep hbl).cells8; obtain ⟨y0, y1, y2, y3, y4, y5, y6, y7⟩ := cy; have cb := (hbl.cell (p := ⟨B, 0, none⟩) HBL.out).trans HCB.out; clear hSw hbl; go_simp; try (with_reducible rfl))
  try simp only [Act.put, List.setIfInBounds_toArray, List.set_cons_zero, List.set_cons_succ]
  refine wpHeld_val (v := ?vs9) (by rfl) ?ys9 ?rs9
  case ys9 => (intro wS hSw; go_simp; try (with_reducible rfl))
  try simp only [Act.put, List.setIfInBounds_toArray, List.set_cons_zero, List.set_cons_succ]
  refine wpHeld_val (v := ?vs10) (by rfl) ?ys10 ?rs10
  case ys10 => (intro wS hSw; have hbl := hSw.low; have cx := (HX.out.keep hbl).cells8; obtain ⟨x0, x1, x2, x3, x4, x5, x6, x7⟩ := cx; have cy := (HY.out.keep hbl).cells8; obtain ⟨y0, y1, y2, y3, y4, y5, y6, y7⟩ := cy; have cb := (hbl.cell (p := ⟨B, 0, none⟩) HBL.out).trans HCB.out; clear hSw hbl; go_simp; try (with_reducible rfl))
  try simp only [Act.put, List.setIfInBounds_toArray, List.set_cons_zero, List.set_cons_succ]
  refine wpHeld_run (.int .i64 (cmpI xa ya)) (by rfl) ?cs11 ?rs11
  case cs11 => (intro wS hSw K hK; go_simp; (go_at_call 28; with_reducible refine (cmpU_any _ _ _).mono ?_; rintro e w5 ⟨rfl, rfl⟩); go_wp2_with fail; exact hK.out _ (hSw))
  try simp only [Act.put, List.setIfInBounds_toArray, List.set_cons_zero, List.set_cons_succ]
  refine wpHeld_nil ?_
  intro wS hSw
  have HW := Lib.hid hSw
  clear hSw
  have cO := (Blk.new wS #[.int .i64 0, .int .i64 (cmpI xa ya)] 3).cells2
  go_wp2_with (go_at_call 41; (with_reducible refine (or_any _ _ _ _ cO.1 cO.2).mono ?_); rintro e w5 ⟨rfl, rfl⟩)
  go_ret
  exact ⟨ret_int (by simp), HG2.out.trans (HW.out.alloc _)⟩

end Go.Proofs.Ytmncpcchdhieoaa
