/- What a table notes. -/
import Derived.Test.YtmncpcchdhieoaaTab
import Derived.Test.YtmncpcchdhieoaaRgt
namespace Go.Proofs.Ytmncpcchdhieoaa
open Go.ChangeShapes Go.WideShapes Go.ChangeAt Go.RowKit
set_option linter.unusedVariables false
set_option linter.unusedSimpArgs false

open Go.Maps
/-- May a lease be? -/
def RightL (l : Le) : Prop := RightP l.bind l.cli l.unt l.ack l.tld l.att l.ver
/-- May it be noted? -/
def SetOk (l : Le) : Prop := RightL l ∧ 1 ≤ l.adr ∧ l.adr ≤ 20
theorem grown_any {w w' : World} (h : w.grownBy w' none) (row : Option Nat) : w.grownBy w' row := ⟨h.os, h.tape, h.output, h.size, fun i hi _ => h.block i hi (by simp)⟩
instance (l : Le) : Decidable (RightL l) := by unfold RightL; infer_instance
theorem TabM.look1 {w : World} {m n k : Nat} {f : Int → Le} (h : TabM w m n k f) {a : Int} (h0 : 0 ≤ a) (h1 : a ≤ 4294967295) :
    ∃ l : Le, (∀ w', Below w.heap.size w w' → (Instr.lookup 49 (.map (some m)) (.int .u32 a) true).run Try.prog w' = .ok (.tuple #[l.val, .bool (decide (1 ≤ a ∧ a ≤ k))]) w') ∧ (1 ≤ a → a ≤ k → l = f a) := by
  by_cases hin : 1 ≤ a ∧ a ≤ k
  · refine ⟨f a, fun w' hb => ?_, fun _ _ => rfl⟩
    obtain ⟨l, hr, hl⟩ := (h.low hb).look h0 h1
    rw [hr, hl hin.1 hin.2]
  · refine ⟨zeroLe, fun w' hb => ?_, fun h1 h2 => absurd ⟨h1, h2⟩ hin⟩
    obtain ⟨D, ho, h2, h3⟩ := h.low hb
    obtain ⟨v, ps, hrun, hv⟩ := ho.look_ok lkeyed Try.underlying49 (zero_lease w') (leR_mk zeroLe) (key32 h0 h1)
    have hb : has D (.int .u32 a) = false := by
      cases hh : has D (.int .u32 a) with
      | false => rfl
      | true => exact absurd ((h2 a).1 hh) hin
    rw [atKey_of_not_has hb] at hv
    obtain ⟨l, rfl, e⟩ := leR_inv hv
    rw [← leD_inj (Prod.mk.inj e).1] at hrun
    rw [hrun, hb, decide_eq_false hin]

theorem below8 {B : Nat} {W w : World} (h : Below B W w) {g : Nat} (hg : B ≤ g) (b0 b1 b2 b3 b4 b5 b6 b7 : Value) : Below B W ((((((((w.setCell ⟨g, 0, none⟩ b0).setCell ⟨g, 1, none⟩ b1).setCell ⟨g, 2, none⟩ b2).setCell ⟨g, 3, none⟩ b3).setCell ⟨g, 4, none⟩ b4).setCell ⟨g, 5, none⟩ b5).setCell ⟨g, 6, none⟩ b6).setCell ⟨g, 7, none⟩ b7) :=
  (((((((h.setCell hg b0).setCell hg b1).setCell hg b2).setCell hg b3).setCell hg b4).setCell hg b5).setCell hg b6).setCell hg b7
theorem grown_two {w w1 w4 w5 : World} {m : Nat} (h1 : w.grownBy w1 none) (h2 : Below w1.heap.size w1 w4) (h3 : w4.grownBy w5 (some m)) : w.grownBy w5 (some m) :=
  ⟨h3.os.trans (h2.os.trans h1.os), h3.tape.trans (h2.tape.trans h1.tape), h3.output.trans (h2.output.trans h1.output), Nat.le_trans h1.size (Nat.le_trans h2.size h3.size), fun i hi hne =>
    (h3.block i (Nat.lt_of_lt_of_le hi (Nat.le_trans h1.size h2.size)) hne).trans ((h2.block i (Nat.lt_of_lt_of_le hi h1.size)).trans (h1.block i hi (by simp)))⟩
set_option maxRecDepth 100000 in
set_option maxHeartbeats 4000000 in
theorem set_any (la lb : Int) (lc : ByteArray) (lu lk lt lz lv : Int) (tb m n : Nat) (f : Int → Le) (w : World) (hT : w.cell? ⟨tb, 0, none⟩ = some (.map (some m))) (htm : TabM w m n 20 f) (hn : n < 10000) (hu : 0 ≤ la ∧ la ≤ 4294967295) :
    Calls Try.prog 5 #[.pointer (some ⟨tb, 0, none⟩), .agg #[.int .u32 la, .int .i64 lb, .string lc, .int .i64 lu, .int .i64 lk, .int .i64 lt, .int .i64 lz, .int .i64 lv]] w fun e w' => ∃ r : Int, e = .returned (.int .i64 r) ∧ w.grownBy w' (some m) ∧
      ((r = 0 ∧ SetOk ⟨la, lb, lc, lu, lk, lt, lz, lv⟩ ∧ TabM w' m (n + 1) 20 (upd f la ⟨la, lb, lc, lu, lk, lt, lz, lv⟩)) ∨ (r ≠ 0 ∧ ¬ SetOk ⟨la, lb, lc, lu, lk, lt, lz, lv⟩ ∧ TabM w' m n 20 f)) := by
  have HTL0 := Lib.hid (World.block_lt_of_cell? w _ hT)
  have HT0 := Lib.hid hT
  have HTM0 := Lib.hid htm
  have HU := Lib.hid hu
  have HN9 := Lib.hid (show n < 100000 by omega)
  clear hT htm hn hu
  by_cases hr : RightP lb lc lu lk lt lz lv
  · have HR := Lib.hid (show RightL ⟨la, lb, lc, lu, lk, lt, lz, lv⟩ from hr)
    have gr : decide (RightP lb lc lu lk lt lz lv) = true := decide_eq_true hr
    clear hr
    go_enter Try.func5, Try.ntmps5
    go_upto_region 3 with ((go_at_call 14; (with_reducible refine (right_any _ _ _ _ _ _ _ _ _).mono ?_); rintro e w1 ⟨rfl, hx⟩; have H1 := Lib.hid (low (low0 w (.cells #[.int .u32 la, .int .i64 lb, .string lc, .int .i64 lu, .int .i64 lk, .int .i64 lt, .int .i64 lz, .int .i64 lv] 35)) hx); have HB1 := Lib.hid ((Blk.new w #[.int .u32 la, .int .i64 lb, .string lc, .int .i64 lu, .int .i64 lk, .int .i64 lt, .int .i64 lz, .int .i64 lv] 35).keep hx); clear hx))
    have HT1 := Lib.hid ((H1.out.cell (p := ⟨tb, 0, none⟩) HTL0.out).trans HT0.out)
    have HTL := Lib.hid (Nat.lt_of_lt_of_le HTL0.out H1.out.size)
    have HTM := Lib.hid (HTM0.out.low H1.out)
    have HG1 := Lib.hid (grown_of_low H1.out)
    obtain ⟨lx, hlk, hlx⟩ := HTM.out.look1 HU.out.1 HU.out.2
    obtain ⟨xa, xb, xc, xu, xk, xt, xz, xv⟩ := lx
    have hss := World.block_lt_of_cell? w1 _ HB1.out.cells8.1
    by_cases hin : 1 ≤ la ∧ la ≤ 20
    · have HYES := Lib.hid (show SetOk ⟨la, lb, lc, lu, lk, lt, lz, lv⟩ from ⟨HR.out, hin⟩)
      have HLK := Lib.hid (show ∀ w', Below w1.heap.size w1 w' → (Instr.lookup 49 (.map (some m)) (.int .u32 la) true).run Try.prog w' = .ok (.tuple #[.agg #[.int .u32 xa, .int .i64 xb, .string xc, .int .i64 xu, .int .i64 xk, .int .i64 xt, .int .i64 xz, .int .i64 xv], .bool true]) w' from fun w' hb => (hlk w' hb).trans (by rw [decide_eq_true (show 1 ≤ la ∧ la ≤ ((20 : Nat) : Int) from hin)]; rfl))
      clear hlk hlx hin
      refine wp_region_noPanic ?_
      refine wp_region_held_drew (S := Below w1.heap.size w1) (by kernel_rfl) (Below.refl _ w1).drew (fun hHeld => ?_)
      generalize w1.drew = wd at *
      have HWD := Lib.hid hHeld
      refine wpAnyH_take (i := 0) (oi := { dst := some 11, op := Go.Op.move (Go.Operand.tmp 0), type := 25, pos := "table.go:38", after := #[], guard := none }) (v := ?vst0_0) rfl (by kernel_rfl) (by kernel_rfl) (by kernel_rfl) (fun _ _ _ h => h) (Or.inl ⟨by rfl, ?yst0_0⟩) (by assumption) ?rst0_0
      case yst0_0 => (intro wS hSw; go_simp; try (with_reducible rfl))
      try simp only [Act.put, List.setIfInBounds_toArray, List.set_cons_zero, List.set_cons_succ]
      refine wpAnyH_take (i := 1) (oi := { dst := some 12, op := Go.Op.nilCheck (Go.Operand.tmp 11), type := 0, pos := "table.go:38", after := #[{ on := 0, ground := Go.Ground.data }], guard := none }) (v := ?vst1_1) rfl (by kernel_rfl) (by kernel_rfl) (by kernel_rfl) (fun _ _ _ h => h) (Or.inl ⟨by rfl, ?yst1_1⟩) (by assumption) ?rst1_1
      case yst1_1 => (intro wS hSw; go_simp; try (with_reducible rfl))
      try simp only [Act.put, List.setIfInBounds_toArray, List.set_cons_zero, List.set_cons_succ]
      refine wpAnyH_take (i := 2) (oi := { dst := some 13, op := Go.Op.fieldAddr 51 (Go.Operand.tmp 12) 0, type := 0, pos := "table.go:38", after := #[{ on := 1, ground := Go.Ground.data }], guard := none }) (v := ?vst2_2) rfl (by kernel_rfl) (by kernel_rfl) (by kernel_rfl) (fun _ _ _ h => h) (Or.inl ⟨by rfl, ?yst2_2⟩) (by assumption) ?rst2_2
      case yst2_2 => (intro wS hSw; go_simp; try (with_reducible rfl))
      try simp only [Act.put, List.setIfInBounds_toArray, List.set_cons_zero, List.set_cons_succ]
      refine wpAnyH_take (i := 3) (oi := { dst := some 14, op := Go.Op.load 49 (Go.Operand.tmp 13), type := 49, pos := "table.go:38", after := #[{ on := 2, ground := Go.Ground.data }], guard := none }) (v := ?vst3_3) rfl (by kernel_rfl) (by kernel_rfl) (by kernel_rfl) (fun _ _ _ h => h) (Or.inl ⟨by rfl, ?yst3_3⟩) (by assumption) ?rst3_3
      case yst3_3 => (intro wS hSw; have hbl := hSw; have cx := (HB1.out.keep hbl).cells8; obtain ⟨x0, x1, x2, x3, x4, x5, x6, x7⟩ := cx; have cT := (hbl.cell (p := ⟨tb, 0, none⟩) HTL.out).trans HT1.out; clear hSw hbl; go_simp; try (with_reducible rfl))
      try simp only [Act.put, List.setIfInBounds_toArray, List.set_cons_zero, List.set_cons_succ]
      refine wpAnyH_take (i := 4) (oi := { dst := some 15, op := Go.Op.fieldAddr 35 (Go.Operand.tmp 3) 0, type := 0, pos := "table.go:38", after := #[], guard := none }) (v := ?vst4_4) rfl (by kernel_rfl) (by kernel_rfl) (by kernel_rfl) (fun _ _ _ h => h) (Or.inl ⟨by rfl, ?yst4_4⟩) (by assumption) ?rst4_4
      case yst4_4 => (intro wS hSw; go_simp; try (with_reducible rfl))
      try simp only [Act.put, List.setIfInBounds_toArray, List.set_cons_zero, List.set_cons_succ]
      refine wpAnyH_take (i := 5) (oi := { dst := some 16, op := Go.Op.load 30 (Go.Operand.tmp 15), type := 30, pos := "table.go:38", after := #[{ on := 4, ground := Go.Ground.data }], guard := none }) (v := ?vst5_5) rfl (by kernel_rfl) (by kernel_rfl) (by kernel_rfl) (fun _ _ _ h => h) (Or.inl ⟨by rfl, ?yst5_5⟩) (by assumption) ?rst5_5
      case yst5_5 => (intro wS hSw; have hbl := hSw; have cx := (HB1.out.keep hbl).cells8; obtain ⟨x0, x1, x2, x3, x4, x5, x6, x7⟩ := cx; have cT := (hbl.cell (p := ⟨tb, 0, none⟩) HTL.out).trans HT1.out; clear hSw hbl; go_simp; try (with_reducible rfl))
      try simp only [Act.put, List.setIfInBounds_toArray, List.set_cons_zero, List.set_cons_succ]
      refine wpAnyH_take (i := 6) (oi := { dst := some 17, op := Go.Op.lookup 49 (Go.Operand.tmp 14) (Go.Operand.tmp 16) true, type := 57, pos := "table.go:38", after := #[{ on := 3, ground := Go.Ground.data }, { on := 5, ground := Go.Ground.data }], guard := none }) (v := .tuple #[.agg #[.int .u32 xa, .int .i64 xb, .string xc, .int .i64 xu, .int .i64 xk, .int .i64 xt, .int .i64 xz, .int .i64 xv], .bool true]) rfl (by kernel_rfl) (by kernel_rfl) (by kernel_rfl) (fun _ _ _ h => h) (Or.inl ⟨by rfl, ?yst6_6⟩) (by assumption) ?rst6_6
      case yst6_6 => (intro wS hSw; go_simp; try (rw [HLK.out _ hSw]; rfl))
      try simp only [Act.put, List.setIfInBounds_toArray, List.set_cons_zero, List.set_cons_succ]
      refine wpAnyH_take (i := 7) (oi := { dst := some 10, op := Go.Op.move (Go.Operand.tmp 17), type := 57, pos := "table.go:38", after := #[{ on := 6, ground := Go.Ground.data }], guard := none }) (v := ?vst7_7) rfl (by kernel_rfl) (by kernel_rfl) (by kernel_rfl) (fun _ _ _ h => h) (Or.inl ⟨by rfl, ?yst7_7⟩) (by assumption) ?rst7_7
      case yst7_7 => (intro wS hSw; go_simp; try (with_reducible rfl))
      try simp only [Act.put, List.setIfInBounds_toArray, List.set_cons_zero, List.set_cons_succ]
      refine wpAnyH_take (i := 8) (oi := { dst := some 18, op := Go.Op.extract (Go.Operand.tmp 10) 0, type := 35, pos := "table.go:38", after := #[{ on := 7, ground := Go.Ground.data }], guard := none }) (v := ?vst8_8) rfl (by kernel_rfl) (by kernel_rfl) (by kernel_rfl) (fun _ _ _ h => h) (Or.inl ⟨by rfl, ?yst8_8⟩) (by assumption) ?rst8_8
      case yst8_8 => (intro wS hSw; go_simp; try (with_reducible rfl))
      try simp only [Act.put, List.setIfInBounds_toArray, List.set_cons_zero, List.set_cons_succ]
      refine wpAnyH_take (i := 9) (oi := { dst := some 19, op := Go.Op.extract (Go.Operand.tmp 10) 1, type := 4, pos := "table.go:38", after := #[{ on := 7, ground := Go.Ground.data }, { on := 11, ground := Go.Ground.gcOnly Go.Departure.lateStores }], guard := none }) (v := .bool true) rfl (by kernel_rfl) (by kernel_rfl) (by kernel_rfl) (fun _ _ _ h => h) (Or.inl ⟨by rfl, ?yst9_9⟩) (by assumption) ?rst9_9
      case yst9_9 => (intro wS hSw; go_simp; try (first | with_reducible rfl | (split <;> omega)))
      try simp only [Act.put, List.setIfInBounds_toArray, List.set_cons_zero, List.set_cons_succ]
      refine wpAnyH_ready (rs := [10]) (by kernel_rfl) (by simp) ?_
      refine AllReadyH.cons (o := { dst := some 5, op := Go.Op.alloc 35, type := 0, pos := "table.go:38", after := #[], guard := none }) rfl (fun K hK => ?_) AllReadyH.nil
      go_simp
      refine hK.out _ _ (hHeld.alloc hHeld.size (.cells #[.int .u32 0, .int .i64 0, .string { data := #[] }, .int .i64 0, .int .i64 0, .int .i64 0, .int .i64 0, .int .i64 0] 35)) (fun hHeld => ?_)
      clear hK K
      have HN := Lib.hid (Blk.new wd #[.int .u32 0, .int .i64 0, .string { data := #[] }, .int .i64 0, .int .i64 0, .int .i64 0, .int .i64 0, .int .i64 0] 35)
      have hgl := Lib.hid HWD.out.size
      generalize (wd.alloc (.cells #[.int .u32 0, .int .i64 0, .string { data := #[] }, .int .i64 0, .int .i64 0, .int .i64 0, .int .i64 0, .int .i64 0] 35)) = w3 at *
      generalize wd.heap.size = g3 at *
      try simp only [Act.put, List.setIfInBounds_toArray, List.set_cons_zero, List.set_cons_succ]
      refine wpAnyH_ready (rs := [11]) (by kernel_rfl) (by simp) ?_
      refine AllReadyH.cons (o := { dst := none, op := Go.Op.store 35 (Go.Operand.tmp 5) (Go.Operand.tmp 18), type := 0, pos := "table.go:38", after := #[{ on := 10, ground := Go.Ground.data }, { on := 8, ground := Go.Ground.data }, { on := 0, ground := Go.Ground.phase }, { on := 1, ground := Go.Ground.phase }, { on := 2, ground := Go.Ground.phase }, { on := 3, ground := Go.Ground.phase }, { on := 4, ground := Go.Ground.phase }, { on := 5, ground := Go.Ground.phase }, { on := 6, ground := Go.Ground.phase }, { on := 7, ground := Go.Ground.phase }, { on := 8, ground := Go.Ground.phase }, { on := 9, ground := Go.Ground.textOnly Go.Departure.lateStores }, { on := 10, ground := Go.Ground.phase }], guard := none }) rfl (fun K hK => ?_) AllReadyH.nil
      obtain ⟨z0, z1, z2, z3, z4, z5, z6, z7⟩ := HN.out.cells8
      have zf := HN.out.free
      have hgo := hgl.out
      have HD : Below w1.heap.size w1 ((((((((w3.setCell ⟨g3, 0, none⟩ (.int .u32 xa)).setCell ⟨g3, 1, none⟩ (.int .i64 xb)).setCell ⟨g3, 2, none⟩ (.string xc)).setCell ⟨g3, 3, none⟩ (.int .i64 xu)).setCell ⟨g3, 4, none⟩ (.int .i64 xk)).setCell ⟨g3, 5, none⟩ (.int .i64 xt)).setCell ⟨g3, 6, none⟩ (.int .i64 xz)).setCell ⟨g3, 7, none⟩ (.int .i64 xv)) := below8 hHeld hgo _ _ _ _ _ _ _ _
      have HE := Lib.hid HD
      clear HD
      go_simp
      refine hK.out _ _ HE.out (fun hHeld => ?_)
      clear hK K
      try simp only [Act.put, List.setIfInBounds_toArray, List.set_cons_zero, List.set_cons_succ]
      refine wpAnyH_take (i := 12) (oi := { dst := some 6, op := Go.Op.assign (Go.Operand.tmp 19), type := 4, pos := "table.go:38", after := #[{ on := 9, ground := Go.Ground.data }, { on := 11, ground := Go.Ground.chain }, { on := 0, ground := Go.Ground.phase }, { on := 1, ground := Go.Ground.phase }, { on := 2, ground := Go.Ground.phase }, { on := 3, ground := Go.Ground.phase }, { on := 4, ground := Go.Ground.phase }, { on := 5, ground := Go.Ground.phase }, { on := 6, ground := Go.Ground.phase }, { on := 7, ground := Go.Ground.phase }, { on := 8, ground := Go.Ground.phase }, { on := 9, ground := Go.Ground.phase }, { on := 10, ground := Go.Ground.phase }, { on := 11, ground := Go.Ground.phase }], guard := none }) (v := ?vst12_10) rfl (by kernel_rfl) (by kernel_rfl) (by kernel_rfl) (fun _ _ _ h => h) (Or.inl ⟨by rfl, ?yst12_10⟩) (by assumption) ?rst12_10
      case yst12_10 => (intro wS hSw; go_simp; try (with_reducible rfl))
      try simp only [Act.put, List.setIfInBounds_toArray, List.set_cons_zero, List.set_cons_succ]
      refine wpAnyH_done (by kernel_rfl) ?_ _
      refine NoPanic.normal ?_
      have H3 := Lib.hid hHeld
      clear hHeld HE HN
      generalize ((((((((w3.setCell ⟨g3, 0, none⟩ (.int .u32 xa)).setCell ⟨g3, 1, none⟩ (.int .i64 xb)).setCell ⟨g3, 2, none⟩ (.string xc)).setCell ⟨g3, 3, none⟩ (.int .i64 xu)).setCell ⟨g3, 4, none⟩ (.int .i64 xk)).setCell ⟨g3, 5, none⟩ (.int .i64 xt)).setCell ⟨g3, 6, none⟩ (.int .i64 xz)).setCell ⟨g3, 7, none⟩ (.int .i64 xv)) = w4 at *
      go_wp2
      refine wp_region_seq (S := Below w4.heap.size w4) 7 (by kernel_rfl) (by kernel_rfl) (Below.refl _ w4).drew ?_
      simp only [List.take_succ_cons, List.take_zero, List.drop_succ_cons, List.drop_zero]
      refine wpHeld_val (v := ?vu0) (by rfl) ?yu0 ?ru0
      case yu0 => (intro wS hSw; go_simp; try (with_reducible rfl))
      try simp only [Act.put, List.setIfInBounds_toArray, List.set_cons_zero, List.set_cons_succ]
      refine wpHeld_val (v := ?vu1) (by rfl) ?yu1 ?ru1
      case yu1 => (intro wS hSw; go_simp; try (with_reducible rfl))
      try simp only [Act.put, List.setIfInBounds_toArray, List.set_cons_zero, List.set_cons_succ]
      refine wpHeld_val (v := ?vu2) (by rfl) ?yu2 ?ru2
      case yu2 => (intro wS hSw; go_simp; try (with_reducible rfl))
      try simp only [Act.put, List.setIfInBounds_toArray, List.set_cons_zero, List.set_cons_succ]
      refine wpHeld_val (v := ?vu3) (by rfl) ?yu3 ?ru3
      case yu3 => (intro wS hSw; have hbl := H3.out.trans (hSw.mono H3.out.size); have cx := (HB1.out.keep hbl).cells8; obtain ⟨x0, x1, x2, x3, x4, x5, x6, x7⟩ := cx; have cT := (hbl.cell (p := ⟨tb, 0, none⟩) HTL.out).trans HT1.out; clear hSw hbl; go_simp; try (with_reducible rfl))
      try simp only [Act.put, List.setIfInBounds_toArray, List.set_cons_zero, List.set_cons_succ]
      refine wpHeld_val (v := ?vu4) (by rfl) ?yu4 ?ru4
      case yu4 => (intro wS hSw; go_simp; try (with_reducible rfl))
      try simp only [Act.put, List.setIfInBounds_toArray, List.set_cons_zero, List.set_cons_succ]
      refine wpHeld_val (v := ?vu5) (by rfl) ?yu5 ?ru5
      case yu5 => (intro wS hSw; have hbl := H3.out.trans (hSw.mono H3.out.size); have cx := (HB1.out.keep hbl).cells8; obtain ⟨x0, x1, x2, x3, x4, x5, x6, x7⟩ := cx; have cT := (hbl.cell (p := ⟨tb, 0, none⟩) HTL.out).trans HT1.out; clear hSw hbl; go_simp; try (with_reducible rfl))
      try simp only [Act.put, List.setIfInBounds_toArray, List.set_cons_zero, List.set_cons_succ]
      refine wpHeld_val (v := ?vu6) (by rfl) ?yu6 ?ru6
      case yu6 => (intro wS hSw; have hbl := H3.out.trans (hSw.mono H3.out.size); have cx := (HB1.out.keep hbl).cells8; obtain ⟨x0, x1, x2, x3, x4, x5, x6, x7⟩ := cx; have cT := (hbl.cell (p := ⟨tb, 0, none⟩) HTL.out).trans HT1.out; clear hSw hbl; go_simp; try (with_reducible rfl))
      try simp only [Act.put, List.setIfInBounds_toArray, List.set_cons_zero, List.set_cons_succ]
      refine wpHeld_nil ?_
      intro wS hSw
      have hbl := H3.out.trans (hSw.mono H3.out.size)
      obtain ⟨w5, hrun, hg5, hin5, _⟩ := (HTM.out.low hbl).store HN9.out HU.out.1 HU.out.2 ⟨la, lb, lc, lu, lk, lt, lz, lv⟩
      have HG5 := Lib.hid (grown_two HG1.out hbl hg5)
      have HI5 := Lib.hid hin5
      clear hg5 hin5 hbl hSw
      simp only [Le.val] at hrun
      go_wp2
      go_ret
      exact ⟨0, rfl, HG5.out, .inl ⟨rfl, HYES.out, HI5.out HYES.out.2.1 HYES.out.2.2⟩⟩
    · have HNO := Lib.hid (show ¬ SetOk ⟨la, lb, lc, lu, lk, lt, lz, lv⟩ from fun h => hin h.2)
      have HLK := Lib.hid (show ∀ w', Below w1.heap.size w1 w' → (Instr.lookup 49 (.map (some m)) (.int .u32 la) true).run Try.prog w' = .ok (.tuple #[.agg #[.int .u32 xa, .int .i64 xb, .string xc, .int .i64 xu, .int .i64 xk, .int .i64 xt, .int .i64 xz, .int .i64 xv], .bool false]) w' from fun w' hb => (hlk w' hb).trans (by rw [decide_eq_false (show ¬ (1 ≤ la ∧ la ≤ ((20 : Nat) : Int)) from hin)]; rfl))
      clear hlk hlx hin
      refine wp_region_noPanic ?_
      refine wp_region_held_drew (S := Below w1.heap.size w1) (by kernel_rfl) (Below.refl _ w1).drew (fun hHeld => ?_)
      generalize w1.drew = wd at *
      have HWD := Lib.hid hHeld
      refine wpAnyH_take (i := 0) (oi := { dst := some 11, op := Go.Op.move (Go.Operand.tmp 0), type := 25, pos := "table.go:38", after := #[], guard := none }) (v := ?vsf0_0) rfl (by kernel_rfl) (by kernel_rfl) (by kernel_rfl) (fun _ _ _ h => h) (Or.inl ⟨by rfl, ?ysf0_0⟩) (by assumption) ?rsf0_0
      case ysf0_0 => (intro wS hSw; go_simp; try (with_reducible rfl))
      try simp only [Act.put, List.setIfInBounds_toArray, List.set_cons_zero, List.set_cons_succ]
      refine wpAnyH_take (i := 1) (oi := { dst := some 12, op := Go.Op.nilCheck (Go.Operand.tmp 11), type := 0, pos := "table.go:38", after := #[{ on := 0, ground := Go.Ground.data }], guard := none }) (v := ?vsf1_1) rfl (by kernel_rfl) (by kernel_rfl) (by kernel_rfl) (fun _ _ _ h => h) (Or.inl ⟨by rfl, ?ysf1_1⟩) (by assumption) ?rsf1_1
      case ysf1_1 => (intro wS hSw; go_simp; try (with_reducible rfl))
      try simp only [Act.put, List.setIfInBounds_toArray, List.set_cons_zero, List.set_cons_succ]
      refine wpAnyH_take (i := 2) (oi := { dst := some 13, op := Go.Op.fieldAddr 51 (Go.Operand.tmp 12) 0, type := 0, pos := "table.go:38", after := #[{ on := 1, ground := Go.Ground.data }], guard := none }) (v := ?vsf2_2) rfl (by kernel_rfl) (by kernel_rfl) (by kernel_rfl) (fun _ _ _ h => h) (Or.inl ⟨by rfl, ?ysf2_2⟩) (by assumption) ?rsf2_2
      case ysf2_2 => (intro wS hSw; go_simp; try (with_reducible rfl))
      try simp only [Act.put, List.setIfInBounds_toArray, List.set_cons_zero, List.set_cons_succ]
      refine wpAnyH_take (i := 3) (oi := { dst := some 14, op := Go.Op.load 49 (Go.Operand.tmp 13), type := 49, pos := "table.go:38", after := #[{ on := 2, ground := Go.Ground.data }], guard := none }) (v := ?vsf3_3) rfl (by kernel_rfl) (by kernel_rfl) (by kernel_rfl) (fun _ _ _ h => h) (Or.inl ⟨by rfl, ?ysf3_3⟩) (by assumption) ?rsf3_3
      case ysf3_3 => (intro wS hSw; have hbl := hSw; have cx := (HB1.out.keep hbl).cells8; obtain ⟨x0, x1, x2, x3, x4, x5, x6, x7⟩ := cx; have cT := (hbl.cell (p := ⟨tb, 0, none⟩) HTL.out).trans HT1.out; clear hSw hbl; go_simp; try (with_reducible rfl))
      try simp only [Act.put, List.setIfInBounds_toArray, List.set_cons_zero, List.set_cons_succ]
      refine wpAnyH_take (i := 4) (oi := { dst := some 15, op := Go.Op.fieldAddr 35 (Go.Operand.tmp 3) 0, type := 0, pos := "table.go:38", after := #[], guard := none }) (v := ?vsf4_4) rfl (by kernel_rfl) (by kernel_rfl) (by kernel_rfl) (fun _ _ _ h => h) (Or.inl ⟨by rfl, ?ysf4_4⟩) (by assumption) ?rsf4_4
      case ysf4_4 => (intro wS hSw; go_simp; try (with_reducible rfl))
      try simp only [Act.put, List.setIfInBounds_toArray, List.set_cons_zero, List.set_cons_succ]
      refine wpAnyH_take (i := 5) (oi := { dst := some 16, op := Go.Op.load 30 (Go.Operand.tmp 15), type := 30, pos := "table.go:38", after := #[{ on := 4, ground := Go.Ground.data }], guard := none }) (v := ?vsf5_5) rfl (by kernel_rfl) (by kernel_rfl) (by kernel_rfl) (fun _ _ _ h => h) (Or.inl ⟨by rfl, ?ysf5_5⟩) (by assumption) ?rsf5_5
      case ysf5_5 => (intro wS hSw; have hbl := hSw; have cx := (HB1.out.keep hbl).cells8; obtain ⟨x0, x1, x2, x3, x4, x5, x6, x7⟩ := cx; have cT := (hbl.cell (p := ⟨tb, 0, none⟩) HTL.out).trans HT1.out; clear hSw hbl; go_simp; try (with_reducible rfl))
      try simp only [Act.put, List.setIfInBounds_toArray, List.set_cons_zero, List.set_cons_succ]
      refine wpAnyH_take (i := 6) (oi := { dst := some 17, op := Go.Op.lookup 49 (Go.Operand.tmp 14) (Go.Operand.tmp 16) true, type := 57, pos := "table.go:38", after := #[{ on := 3, ground := Go.Ground.data }, { on := 5, ground := Go.Ground.data }], guard := none }) (v := .tuple #[.agg #[.int .u32 xa, .int .i64 xb, .string xc, .int .i64 xu, .int .i64 xk, .int .i64 xt, .int .i64 xz, .int .i64 xv], .bool false]) rfl (by kernel_rfl) (by kernel_rfl) (by kernel_rfl) (fun _ _ _ h => h) (Or.inl ⟨by rfl, ?ysf6_6⟩) (by assumption) ?rsf6_6
      case ysf6_6 => (intro wS hSw; go_simp; try (rw [HLK.out _ hSw]; rfl))
      try simp only [Act.put, List.setIfInBounds_toArray, List.set_cons_zero, List.set_cons_succ]
      refine wpAnyH_take (i := 7) (oi := { dst := some 10, op := Go.Op.move (Go.Operand.tmp 17), type := 57, pos := "table.go:38", after := #[{ on := 6, ground := Go.Ground.data }], guard := none }) (v := ?vsf7_7) rfl (by kernel_rfl) (by kernel_rfl) (by kernel_rfl) (fun _ _ _ h => h) (Or.inl ⟨by rfl, ?ysf7_7⟩) (by assumption) ?rsf7_7
      case ysf7_7 => (intro wS hSw; go_simp; try (with_reducible rfl))
      try simp only [Act.put, List.setIfInBounds_toArray, List.set_cons_zero, List.set_cons_succ]
      refine wpAnyH_take (i := 8) (oi := { dst := some 18, op := Go.Op.extract (Go.Operand.tmp 10) 0, type := 35, pos := "table.go:38", after := #[{ on := 7, ground := Go.Ground.data }], guard := none }) (v := ?vsf8_8) rfl (by kernel_rfl) (by kernel_rfl) (by kernel_rfl) (fun _ _ _ h => h) (Or.inl ⟨by rfl, ?ysf8_8⟩) (by assumption) ?rsf8_8
      case ysf8_8 => (intro wS hSw; go_simp; try (with_reducible rfl))
      try simp only [Act.put, List.setIfInBounds_toArray, List.set_cons_zero, List.set_cons_succ]
      refine wpAnyH_take (i := 9) (oi := { dst := some 19, op := Go.Op.extract (Go.Operand.tmp 10) 1, type := 4, pos := "table.go:38", after := #[{ on := 7, ground := Go.Ground.data }, { on := 11, ground := Go.Ground.gcOnly Go.Departure.lateStores }], guard := none }) (v := .bool false) rfl (by kernel_rfl) (by kernel_rfl) (by kernel_rfl) (fun _ _ _ h => h) (Or.inl ⟨by rfl, ?ysf9_9⟩) (by assumption) ?rsf9_9
      case ysf9_9 => (intro wS hSw; go_simp; try (first | with_reducible rfl | (split <;> omega)))
      try simp only [Act.put, List.setIfInBounds_toArray, List.set_cons_zero, List.set_cons_succ]
      refine wpAnyH_ready (rs := [10]) (by kernel_rfl) (by simp) ?_
      refine AllReadyH.cons (o := { dst := some 5, op := Go.Op.alloc 35, type := 0, pos := "table.go:38", after := #[], guard := none }) rfl (fun K hK => ?_) AllReadyH.nil
      go_simp
      refine hK.out _ _ (hHeld.alloc hHeld.size (.cells #[.int .u32 0, .int .i64 0, .string { data := #[] }, .int .i64 0, .int .i64 0, .int .i64 0, .int .i64 0, .int .i64 0] 35)) (fun hHeld => ?_)
      clear hK K
      have HN := Lib.hid (Blk.new wd #[.int .u32 0, .int .i64 0, .string { data := #[] }, .int .i64 0, .int .i64 0, .int .i64 0, .int .i64 0, .int .i64 0] 35)
      have hgl := Lib.hid HWD.out.size
      generalize (wd.alloc (.cells #[.int .u32 0, .int .i64 0, .string { data := #[] }, .int .i64 0, .int .i64 0, .int .i64 0, .int .i64 0, .int .i64 0] 35)) = w3 at *
      generalize wd.heap.size = g3 at *
      try simp only [Act.put, List.setIfInBounds_toArray, List.set_cons_zero, List.set_cons_succ]
      refine wpAnyH_ready (rs := [11]) (by kernel_rfl) (by simp) ?_
      refine AllReadyH.cons (o := { dst := none, op := Go.Op.store 35 (Go.Operand.tmp 5) (Go.Operand.tmp 18), type := 0, pos := "table.go:38", after := #[{ on := 10, ground := Go.Ground.data }, { on := 8, ground := Go.Ground.data }, { on := 0, ground := Go.Ground.phase }, { on := 1, ground := Go.Ground.phase }, { on := 2, ground := Go.Ground.phase }, { on := 3, ground := Go.Ground.phase }, { on := 4, ground := Go.Ground.phase }, { on := 5, ground := Go.Ground.phase }, { on := 6, ground := Go.Ground.phase }, { on := 7, ground := Go.Ground.phase }, { on := 8, ground := Go.Ground.phase }, { on := 9, ground := Go.Ground.textOnly Go.Departure.lateStores }, { on := 10, ground := Go.Ground.phase }], guard := none }) rfl (fun K hK => ?_) AllReadyH.nil
      obtain ⟨z0, z1, z2, z3, z4, z5, z6, z7⟩ := HN.out.cells8
      have zf := HN.out.free
      have hgo := hgl.out
      have HD : Below w1.heap.size w1 ((((((((w3.setCell ⟨g3, 0, none⟩ (.int .u32 xa)).setCell ⟨g3, 1, none⟩ (.int .i64 xb)).setCell ⟨g3, 2, none⟩ (.string xc)).setCell ⟨g3, 3, none⟩ (.int .i64 xu)).setCell ⟨g3, 4, none⟩ (.int .i64 xk)).setCell ⟨g3, 5, none⟩ (.int .i64 xt)).setCell ⟨g3, 6, none⟩ (.int .i64 xz)).setCell ⟨g3, 7, none⟩ (.int .i64 xv)) := below8 hHeld hgo _ _ _ _ _ _ _ _
      have HE := Lib.hid HD
      clear HD
      go_simp
      refine hK.out _ _ HE.out (fun hHeld => ?_)
      clear hK K
      try simp only [Act.put, List.setIfInBounds_toArray, List.set_cons_zero, List.set_cons_succ]
      refine wpAnyH_take (i := 12) (oi := { dst := some 6, op := Go.Op.assign (Go.Operand.tmp 19), type := 4, pos := "table.go:38", after := #[{ on := 9, ground := Go.Ground.data }, { on := 11, ground := Go.Ground.chain }, { on := 0, ground := Go.Ground.phase }, { on := 1, ground := Go.Ground.phase }, { on := 2, ground := Go.Ground.phase }, { on := 3, ground := Go.Ground.phase }, { on := 4, ground := Go.Ground.phase }, { on := 5, ground := Go.Ground.phase }, { on := 6, ground := Go.Ground.phase }, { on := 7, ground := Go.Ground.phase }, { on := 8, ground := Go.Ground.phase }, { on := 9, ground := Go.Ground.phase }, { on := 10, ground := Go.Ground.phase }, { on := 11, ground := Go.Ground.phase }], guard := none }) (v := ?vsf12_10) rfl (by kernel_rfl) (by kernel_rfl) (by kernel_rfl) (fun _ _ _ h => h) (Or.inl ⟨by rfl, ?ysf12_10⟩) (by assumption) ?rsf12_10
      case ysf12_10 => (intro wS hSw; go_simp; try (with_reducible rfl))
      try simp only [Act.put, List.setIfInBounds_toArray, List.set_cons_zero, List.set_cons_succ]
      refine wpAnyH_done (by kernel_rfl) ?_ _
      refine NoPanic.normal ?_
      have H3 := Lib.hid hHeld
      clear hHeld HE HN
      generalize ((((((((w3.setCell ⟨g3, 0, none⟩ (.int .u32 xa)).setCell ⟨g3, 1, none⟩ (.int .i64 xb)).setCell ⟨g3, 2, none⟩ (.string xc)).setCell ⟨g3, 3, none⟩ (.int .i64 xu)).setCell ⟨g3, 4, none⟩ (.int .i64 xk)).setCell ⟨g3, 5, none⟩ (.int .i64 xt)).setCell ⟨g3, 6, none⟩ (.int .i64 xz)).setCell ⟨g3, 7, none⟩ (.int .i64 xv)) = w4 at *
      go_wp2
      go_ret
      exact ⟨4, rfl, grown_any (HG1.out.andThen (grown_of_low H3.out) (fun j e => by cases e)) _, .inr ⟨by decide, HNO.out, HTM.out.low H3.out⟩⟩
  · have HNO := Lib.hid (show ¬ SetOk ⟨la, lb, lc, lu, lk, lt, lz, lv⟩ from fun h => hr h.1)
    have gr : decide (RightP lb lc lu lk lt lz lv) = false := decide_eq_false hr
    clear hr
    go_enter Try.func5, Try.ntmps5
    go_wp2_with (go_at_call 14; (with_reducible refine (right_any _ _ _ _ _ _ _ _ _).mono ?_); rintro e w1 ⟨rfl, hx⟩; have H1 := Lib.hid (low (low0 w (.cells #[.int .u32 la, .int .i64 lb, .string lc, .int .i64 lu, .int .i64 lk, .int .i64 lt, .int .i64 lz, .int .i64 lv] 35)) hx); have HB1 := Lib.hid ((Blk.new w #[.int .u32 la, .int .i64 lb, .string lc, .int .i64 lu, .int .i64 lk, .int .i64 lt, .int .i64 lz, .int .i64 lv] 35).keep hx); clear hx)
    go_ret
    exact ⟨1, rfl, grown_any (grown_of_low H1.out) _, .inr ⟨by decide, HNO.out, HTM0.out.low H1.out⟩⟩

end Go.Proofs.Ytmncpcchdhieoaa
