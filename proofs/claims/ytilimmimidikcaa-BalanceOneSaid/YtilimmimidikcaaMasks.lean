/- The law of masks. -/
import Derived.Test.YtilimmimidikcaaAwk
import Derived.ChangeKeysEq
namespace Go.Proofs.Ytilimmimidikcaa
open Go.ChangeShapes Go.WideShapes Go.ChangeAt Go.RowKit
set_option linter.unusedVariables false

theorem elem5 : (Try.prog.plainKey 5) = true := by kernel_rfl
theorem eqItems_same (d : Nat) (L : List Value) (w : World) : ∀ is : List Nat, (∀ i ∈ is, ∃ v, L.toArray[i]? = some (.int .u8 v)) → (Op.eqItems (d + 1) 5 (Try.prog.cellsOf 5) L.toArray L.toArray is).run Try.prog w = .ok true w
  | [], _ => by simp [Op.eqItems]
  | i :: is, h => by
    obtain ⟨v, hv⟩ := h i (List.mem_cons_self ..)
    have c : Try.prog.cellsOf 5 = 1 := by kernel_rfl
    have ih := eqItems_same d L w is (fun j hj => h j (List.mem_cons_of_mem _ hj))
    rw [c] at ih ⊢
    have hp := run_part_plain (w := w) elem5 (off := i * 1) (by rw [Nat.mul_one]; exact hv)
    have he := run_equalIn_int (P := Try.prog) w d 5 .u8 .u8 v v Try.underlying5
    simp only [Op.eqItems, Sem.run_bind, hp, he, Result.andThen_ok, beq_self_eq_true, Bool.not_true, Bool.false_eq_true, if_false, ih]
theorem eq_mask {bs : List Int} (h : okM bs) (w : World) : (Op.equalIn 10000 28 (.agg (bs.map (Value.int .u8)).toArray) (.agg (bs.map (Value.int .u8)).toArray)).run Try.prog w = .ok true w := by
  have hi : ∃ i, Try.prog.info? 5 = some i := Option.isSome_iff_exists.1 (by kernel_rfl)
  obtain ⟨i, hi⟩ := hi
  show (Op.equalIn (9998 + 1 + 1) _ _ _).run _ w = _
  rw [run_equalIn_array (P := Try.prog) w (9998 + 1) _ _ Try.underlying28 hi]
  refine eqItems_same _ _ w _ fun j hj => ?_
  have hj := List.mem_range.1 hj
  have := maskA_at (bs := bs) (i := j) (by rw [h.1]; exact hj)
  exact ⟨_, this⟩
theorem eq_guard : Try.prog.eqGuardType Try.prog.depth 28 = false := by kernel_rfl
theorem len_of {L : List Value} {n : Option Nat} (h : n = some L.toArray.size) : n = some L.length := by rw [h, List.size_toArray]

set_option maxRecDepth 100000 in
set_option maxHeartbeats 2000000 in
theorem walk_BalanceMasks (a0 : List Int) (a1 : Int) (W : World) (m0 : okM a0) (w1 : (Lit.int .i64 a1).wf = true) :
    Calls Try.prog 7 #[.agg (maskA a0), .int .i64 a1] W fun e w' => e = .returned (.bool true) ∧ Below W.heap.size W w' := by
  have hr := row_of m0
  have hrF := row_of (firstB_ok a1)
  have hrN := row_of (notB_ok m0)
  have hhas := fun w => has_any a0 a1 w m0
  have hhas' := fun w => rhas_any a0 a1 w m0
  have hcount := fun w => count_any a0 w m0
  have hcount' := fun w => (rcount_any a0 w m0).mono (R' := fun e w' => e = .returned (.int .i64 (countV a0)) ∧ Below w.heap.size w w') (fun e w' ⟨a, c⟩ => ⟨by rw [a, count_ref m0], c⟩)
  have hfirst := fun w => first_any a1 w
  have hfirst' := fun w => rfirst_any a1 w
  rw [first_ref] at hfirst'
  have hnot := fun w => not_any a0 w m0
  have hnot' := fun w => rnot_any a0 w m0
  rw [not_ref m0] at hnot'
  have hq := eq_mask (firstB_ok a1)
  have hq' := eq_mask (notB_ok m0)
  have hA : maskA a0 = (a0.map (Value.int .u8)).toArray := rfl
  have hAF : maskA (firstB a1) = ((firstB a1).map (Value.int .u8)).toArray := rfl
  have hAN : maskA (notB a0) = ((notB a0).map (Value.int .u8)).toArray := rfl
  rw [hA] at hhas hhas' hcount hcount' hnot hnot' ⊢
  rw [hAF] at hfirst hfirst'
  rw [hAN] at hnot hnot'
  clear hA hAF hAN m0
  generalize (firstB a1).map (Value.int .u8) = LF at *
  generalize (notB a0).map (Value.int .u8) = LN at *
  generalize hasV a0 a1 = h at *
  generalize countV a0 = c at *
  generalize a0.map (Value.int .u8) = L at *
  have HR := Lib.hid hr
  have HRF := Lib.hid hrF
  have HRN := Lib.hid hrN
  have HH := Lib.hid hhas
  have HH' := Lib.hid hhas'
  have HC := Lib.hid hcount
  have HC' := Lib.hid hcount'
  have HF := Lib.hid hfirst
  have HF' := Lib.hid hfirst'
  have HN := Lib.hid hnot
  have HN' := Lib.hid hnot'
  have HQ := Lib.hid hq
  have HQ' := Lib.hid hq'
  clear hr hrF hrN hhas hhas' hcount hcount' hfirst hfirst' hnot hnot' hq hq'
  have HB := Lib.hid (Blk.new W L.toArray 27)
  have HW := Lib.hid (lowA (Below.refl W.heap.size W) (.cells L.toArray 27))
  go_enter Try.func7, Try.ntmps7
  go_wp2_with (first
    | (go_at_call 9; refine (awake_any _).mono ?_; rintro e w1 ⟨rfl, hx⟩; have HB2 := Lib.hid (HB.out.keep hx); have Hx1 := Lib.hid hx; clear hx)
    | (refine wpList_load_row rfl 27 _ rfl W.heap.size rfl _ _ _ _ HB2.out Try.underlying27 rfl HR.out.size2 ?_)
    | (refine wpList_alloc_store rfl rfl 28 6 _ rfl rfl rfl zeroM L.toArray zero_mask rfl rfl HR.out.size HR.out.zero HR.out.one ?_; have HX := Lib.hid (Blk.new w1 L.toArray 28); have HB3 := Lib.hid (HB2.out.alloc (.cells L.toArray 28)))
    | (go_at_call 12; with_reducible refine (HF.out _).mono ?_; rintro e w2 ⟨rfl, hx⟩; have HX2 := Lib.hid (HX.out.keep hx); have HB4 := Lib.hid (HB3.out.keep hx); have Hx2 := Lib.hid hx; clear hx)
    | (refine wpList_alloc_store rfl rfl 28 7 _ rfl rfl rfl zeroM LF.toArray zero_mask rfl rfl HRF.out.size HRF.out.zero HRF.out.one ?_; have HF2 := Lib.hid (Blk.new w2 LF.toArray 28); have HX3 := Lib.hid (HX2.out.alloc (.cells LF.toArray 28)); have HB5 := Lib.hid (HB4.out.alloc (.cells LF.toArray 28)))
    | (refine wpList_load_row rfl 28 _ rfl w1.heap.size rfl _ _ _ _ HX3.out Try.underlying28 rfl HR.out.size ?_)
    | (go_at_call 15; with_reducible refine (HN.out _).mono ?_; rintro e w3 ⟨rfl, hx⟩; have HX4 := Lib.hid (HX3.out.keep hx); have HB6 := Lib.hid (HB5.out.keep hx); have HF3 := Lib.hid (HF2.out.keep hx); have Hx3 := Lib.hid hx; clear hx)
    | (refine wpList_alloc_store rfl rfl 28 8 _ rfl rfl rfl zeroM LN.toArray zero_mask rfl rfl HRN.out.size HRN.out.zero HRN.out.one ?_; have HN2 := Lib.hid (Blk.new w3 LN.toArray 28); have HX5 := Lib.hid (HX4.out.alloc (.cells LN.toArray 28)); have HB7 := Lib.hid (HB6.out.alloc (.cells LN.toArray 28)); have HF4 := Lib.hid (HF3.out.alloc (.cells LN.toArray 28))))
  have hh := (((Held.nil (lowA (low (lowA (low (lowA (low HW.out Hx1.out) (.cells L.toArray 28)) Hx2.out) (.cells LF.toArray 28)) Hx3.out) (.cells LN.toArray 28))).cons HB7.out).cons HX5.out |>.cons HF4.out).cons HN2.out
  have HH0 := Lib.hid hh
  have hs1 := len_of HR.out.size
  have hs0 := len_of HR.out.size2
  have hsF := len_of HRF.out.size
  have hsN := len_of HRN.out.size
  have hgd := eq_guard
  have hq := HQ.out
  have hq' := HQ'.out
  clear hh HB HB2 HB3 HB4 HB5 HB6 HB7 HX HX2 HX3 HX4 HX5 HF2 HF3 HF4 HN2 Hx1 Hx2 Hx3 HW
  generalize (w3.alloc (.cells LN.toArray 28)) = w4 at *
  generalize W.heap.size = g0 at *
  generalize w1.heap.size = g1 at *
  generalize w2.heap.size = g2 at *
  generalize w3.heap.size = g3 at *
  refine wp_region_noPanic ?_
  refine wp_region_held_drew (S := Held W [(g3, LN), (g2, LF), (g1, L), (g0, L)]) (by kernel_rfl) HH0.out.drew (fun hHeld => ?_)
  clear HH0
  refine wpAnyH_take (i := 0) (oi := { dst := some 15, op := Go.Op.move (Go.Operand.tmp 5), type := 4, pos := "law.go:30", after := #[], guard := none }) (v := ?vm1) rfl (by kernel_rfl) (by kernel_rfl) (by kernel_rfl) (fun _ _ _ h => h) (Or.inl ⟨by rfl, ?ym1⟩) (by assumption) ?rm1
  case ym1 => (intro w hSw; clear hSw; go_simp; try with_reducible rfl)
  try simp only [Act.put, List.setIfInBounds_toArray, List.set_cons_zero, List.set_cons_succ]
  refine wpAnyH_take (i := 1) (oi := { dst := some 16, op := Go.Op.move (Go.Operand.tmp 15), type := 4, pos := "law.go:30", after := #[{ on := 0, ground := Go.Ground.data }], guard := none }) (v := ?vm2) rfl (by kernel_rfl) (by kernel_rfl) (by kernel_rfl) (fun _ _ _ h => h) (Or.inl ⟨by rfl, ?ym2⟩) (by assumption) ?rm2
  case ym2 => (intro w hSw; clear hSw; go_simp; try with_reducible rfl)
  try simp only [Act.put, List.setIfInBounds_toArray, List.set_cons_zero, List.set_cons_succ]
  refine wpAnyH_take (i := 2) (oi := { dst := some 17, op := Go.Op.load 28 (Go.Operand.tmp 6), type := 28, pos := "law.go:30", after := #[{ on := 1, ground := Go.Ground.guard }], guard := some (1, true) }) (v := .agg L.toArray) rfl (by kernel_rfl) (by kernel_rfl) (by kernel_rfl) (fun _ _ _ h => h) (yieldsIf_load_mid (by rfl) _ _ rfl _ _ rfl L _ (fun w h => h.at (by simp)) Try.underlying28 rfl hs1) (by assumption) ?_
  try simp only [Act.put, List.setIfInBounds_toArray, List.set_cons_zero, List.set_cons_succ]
  refine wpAnyH_take (i := 3) (oi := { dst := some 18, op := Go.Op.move (Go.Operand.tmp 1), type := 3, pos := "law.go:30", after := #[{ on := 1, ground := Go.Ground.guard }], guard := some (1, true) }) (v := ?vm4) rfl (by kernel_rfl) (by kernel_rfl) (by kernel_rfl) (fun _ _ _ h => h) (Or.inl ⟨by rfl, ?ym4⟩) (by assumption) ?rm4
  case ym4 => (intro w hSw; clear hSw; go_simp; try with_reducible rfl)
  try simp only [Act.put, List.setIfInBounds_toArray, List.set_cons_zero, List.set_cons_succ]
  refine wpAnyH_take (i := 5) (oi := { dst := some 20, op := Go.Op.load 27 (Go.Operand.tmp 2), type := 27, pos := "law.go:30", after := #[{ on := 1, ground := Go.Ground.guard }], guard := some (1, true) }) (v := .agg L.toArray) rfl (by kernel_rfl) (by kernel_rfl) (by kernel_rfl) (fun _ _ _ h => h) (yieldsIf_load_mid (by rfl) _ _ rfl _ _ rfl L _ (fun w h => h.at (by simp)) Try.underlying27 rfl hs0) (by assumption) ?_
  try simp only [Act.put, List.setIfInBounds_toArray, List.set_cons_zero, List.set_cons_succ]
  refine wpAnyH_take (i := 6) (oi := { dst := some 21, op := Go.Op.move (Go.Operand.tmp 1), type := 3, pos := "law.go:30", after := #[{ on := 1, ground := Go.Ground.guard }], guard := some (1, true) }) (v := ?vm6) rfl (by kernel_rfl) (by kernel_rfl) (by kernel_rfl) (fun _ _ _ h => h) (Or.inl ⟨by rfl, ?ym6⟩) (by assumption) ?rm6
  case ym6 => (intro w hSw; clear hSw; go_simp; try with_reducible rfl)
  try simp only [Act.put, List.setIfInBounds_toArray, List.set_cons_zero, List.set_cons_succ]
  refine wpAnyH_ready (rs := [4]) (by kernel_rfl) (by simp) ?_
  refine AllReadyH.cons (o := { dst := some 19, op := Go.Op.call { callee := Go.Callee.value (Go.Operand.func 14), args := #[Go.Operand.tmp 17, Go.Operand.tmp 18], argTypes := #[28, 3] }, type := 4, pos := "law.go:30", after := #[{ on := 2, ground := Go.Ground.data }, { on := 3, ground := Go.Ground.data }, { on := 1, ground := Go.Ground.chain }, { on := 1, ground := Go.Ground.guard }], guard := some (1, true) }) rfl (fun K hK => ?_) ?_
  · go_simp
    (go_at_call 14; with_reducible refine (HH.out _).mono ?_; rintro e w5 ⟨rfl, hx⟩)
    go_wp2_with fail
    refine hK.out _ _ (Held.keep (by assumption) hx) (fun hHeld => ?_)
    clear hK K hx
    try simp only [Act.put, List.setIfInBounds_toArray, List.set_cons_zero, List.set_cons_succ]
    refine wpAnyH_ready (rs := [7]) (by kernel_rfl) (by simp) ?_
    refine AllReadyH.cons (o := { dst := some 22, op := Go.Op.call { callee := Go.Callee.value (Go.Operand.func 16), args := #[Go.Operand.tmp 20, Go.Operand.tmp 21], argTypes := #[27, 3] }, type := 4, pos := "law.go:30", after := #[{ on := 5, ground := Go.Ground.data }, { on := 6, ground := Go.Ground.data }, { on := 4, ground := Go.Ground.chain }, { on := 1, ground := Go.Ground.guard }], guard := some (1, true) }) rfl (fun K hK => ?_) ?_
    · go_simp
      (go_at_call 16; with_reducible refine (HH'.out _).mono ?_; rintro e w5 ⟨rfl, hx⟩)
      go_wp2_with fail
      refine hK.out _ _ (Held.keep (by assumption) hx) (fun hHeld => ?_)
      clear hK K hx
      try simp only [Act.put, List.setIfInBounds_toArray, List.set_cons_zero, List.set_cons_succ]
      refine wpAnyH_take (i := 8) (oi := { dst := some 23, op := Go.Op.binOp Go.BinOp.eql 4 (Go.Operand.tmp 19) (Go.Operand.tmp 22) 4, type := 4, pos := "law.go:30", after := #[{ on := 4, ground := Go.Ground.data }, { on := 7, ground := Go.Ground.data }, { on := 1, ground := Go.Ground.guard }], guard := some (1, true) }) (v := ?vm7) rfl (by kernel_rfl) (by kernel_rfl) (by kernel_rfl) (fun _ _ _ h => h) (Or.inl ⟨by rfl, ?ym7⟩) (by assumption) ?rm7
      case ym7 => (intro w hSw; clear hSw; go_simp; try with_reducible rfl)
      try simp only [Act.put, List.setIfInBounds_toArray, List.set_cons_zero, List.set_cons_succ]
      refine wpAnyH_take (i := 9) (oi := { dst := some 24, op := Go.Op.pick (Go.Operand.tmp 16) (Go.Operand.tmp 23) (Go.Operand.const (Go.Value.bool false)), type := 4, pos := "law.go:30", after := #[{ on := 1, ground := Go.Ground.data }, { on := 8, ground := Go.Ground.data }], guard := none }) (v := ?vm8) rfl (by kernel_rfl) (by kernel_rfl) (by kernel_rfl) (fun _ _ _ h => h) (Or.inl ⟨by rfl, ?ym8⟩) (by assumption) ?rm8
      case ym8 => (intro w hSw; clear hSw; go_simp; try with_reducible rfl)
      try simp only [Act.put, List.setIfInBounds_toArray, List.set_cons_zero, List.set_cons_succ]
      refine wpAnyH_take (i := 10) (oi := { dst := some 25, op := Go.Op.move (Go.Operand.tmp 24), type := 4, pos := "law.go:30", after := #[{ on := 9, ground := Go.Ground.data }, { on := 7, ground := Go.Ground.chain }], guard := none }) (v := ?vm9) rfl (by kernel_rfl) (by kernel_rfl) (by kernel_rfl) (fun _ _ _ h => h) (Or.inl ⟨by rfl, ?ym9⟩) (by assumption) ?rm9
      case ym9 => (intro w hSw; clear hSw; go_simp; try with_reducible rfl)
      try simp only [Act.put, List.setIfInBounds_toArray, List.set_cons_zero, List.set_cons_succ]
      refine wpAnyH_take (i := 11) (oi := { dst := some 26, op := Go.Op.load 28 (Go.Operand.tmp 6), type := 28, pos := "law.go:30", after := #[{ on := 10, ground := Go.Ground.guard }], guard := some (10, true) }) (v := .agg L.toArray) rfl (by kernel_rfl) (by kernel_rfl) (by kernel_rfl) (fun _ _ _ h => h) (yieldsIf_load_mid (by rfl) _ _ rfl _ _ rfl L _ (fun w h => h.at (by simp)) Try.underlying28 rfl hs1) (by assumption) ?_
      try simp only [Act.put, List.setIfInBounds_toArray, List.set_cons_zero, List.set_cons_succ]
      refine wpAnyH_take (i := 13) (oi := { dst := some 28, op := Go.Op.load 27 (Go.Operand.tmp 2), type := 27, pos := "law.go:30", after := #[{ on := 10, ground := Go.Ground.guard }], guard := some (10, true) }) (v := .agg L.toArray) rfl (by kernel_rfl) (by kernel_rfl) (by kernel_rfl) (fun _ _ _ h => h) (yieldsIf_load_mid (by rfl) _ _ rfl _ _ rfl L _ (fun w h => h.at (by simp)) Try.underlying27 rfl hs0) (by assumption) ?_
      try simp only [Act.put, List.setIfInBounds_toArray, List.set_cons_zero, List.set_cons_succ]
      refine wpAnyH_ready (rs := [12]) (by kernel_rfl) (by simp) ?_
      refine AllReadyH.cons (o := { dst := some 27, op := Go.Op.call { callee := Go.Callee.value (Go.Operand.func 13), args := #[Go.Operand.tmp 26], argTypes := #[28] }, type := 3, pos := "law.go:30", after := #[{ on := 11, ground := Go.Ground.data }, { on := 10, ground := Go.Ground.chain }, { on := 10, ground := Go.Ground.guard }], guard := some (10, true) }) rfl (fun K hK => ?_) ?_
      · go_simp
        (go_at_call 13; with_reducible refine (HC.out _).mono ?_; rintro e w5 ⟨rfl, hx⟩)
        go_wp2_with fail
        refine hK.out _ _ (Held.keep (by assumption) hx) (fun hHeld => ?_)
        clear hK K hx
        try simp only [Act.put, List.setIfInBounds_toArray, List.set_cons_zero, List.set_cons_succ]
        refine wpAnyH_ready (rs := [14]) (by kernel_rfl) (by simp) ?_
        refine AllReadyH.cons (o := { dst := some 29, op := Go.Op.call { callee := Go.Callee.value (Go.Operand.func 17), args := #[Go.Operand.tmp 28], argTypes := #[27] }, type := 3, pos := "law.go:30", after := #[{ on := 13, ground := Go.Ground.data }, { on := 12, ground := Go.Ground.chain }, { on := 10, ground := Go.Ground.guard }], guard := some (10, true) }) rfl (fun K hK => ?_) ?_
        · go_simp
          (go_at_call 17; with_reducible refine (HC'.out _).mono ?_; rintro e w5 ⟨rfl, hx⟩)
          go_wp2_with fail
          refine hK.out _ _ (Held.keep (by assumption) hx) (fun hHeld => ?_)
          clear hK K hx
          try simp only [Act.put, List.setIfInBounds_toArray, List.set_cons_zero, List.set_cons_succ]
          refine wpAnyH_take (i := 15) (oi := { dst := some 30, op := Go.Op.binOp Go.BinOp.eql 3 (Go.Operand.tmp 27) (Go.Operand.tmp 29) 3, type := 4, pos := "law.go:30", after := #[{ on := 12, ground := Go.Ground.data }, { on := 14, ground := Go.Ground.data }, { on := 10, ground := Go.Ground.guard }], guard := some (10, true) }) (v := ?vm12) rfl (by kernel_rfl) (by kernel_rfl) (by kernel_rfl) (fun _ _ _ h => h) (Or.inl ⟨by rfl, ?ym12⟩) (by assumption) ?rm12
          case ym12 => (intro w hSw; clear hSw; go_simp; try with_reducible rfl)
          try simp only [Act.put, List.setIfInBounds_toArray, List.set_cons_zero, List.set_cons_succ]
          refine wpAnyH_take (i := 16) (oi := { dst := some 31, op := Go.Op.pick (Go.Operand.tmp 25) (Go.Operand.tmp 30) (Go.Operand.const (Go.Value.bool false)), type := 4, pos := "law.go:30", after := #[{ on := 10, ground := Go.Ground.data }, { on := 15, ground := Go.Ground.data }], guard := none }) (v := ?vm13) rfl (by kernel_rfl) (by kernel_rfl) (by kernel_rfl) (fun _ _ _ h => h) (Or.inl ⟨by rfl, ?ym13⟩) (by assumption) ?rm13
          case ym13 => (intro w hSw; clear hSw; go_simp; try with_reducible rfl)
          try simp only [Act.put, List.setIfInBounds_toArray, List.set_cons_zero, List.set_cons_succ]
          refine wpAnyH_take (i := 17) (oi := { dst := some 32, op := Go.Op.move (Go.Operand.tmp 31), type := 4, pos := "law.go:30", after := #[{ on := 16, ground := Go.Ground.data }, { on := 14, ground := Go.Ground.chain }], guard := none }) (v := ?vm14) rfl (by kernel_rfl) (by kernel_rfl) (by kernel_rfl) (fun _ _ _ h => h) (Or.inl ⟨by rfl, ?ym14⟩) (by assumption) ?rm14
          case ym14 => (intro w hSw; clear hSw; go_simp; try with_reducible rfl)
          try simp only [Act.put, List.setIfInBounds_toArray, List.set_cons_zero, List.set_cons_succ]
          refine wpAnyH_take (i := 18) (oi := { dst := some 33, op := Go.Op.load 28 (Go.Operand.tmp 7), type := 28, pos := "law.go:30", after := #[{ on := 17, ground := Go.Ground.guard }], guard := some (17, true) }) (v := .agg LF.toArray) rfl (by kernel_rfl) (by kernel_rfl) (by kernel_rfl) (fun _ _ _ h => h) (yieldsIf_load_mid (by rfl) _ _ rfl _ _ rfl LF _ (fun w h => h.at (by simp)) Try.underlying28 rfl hsF) (by assumption) ?_
          try simp only [Act.put, List.setIfInBounds_toArray, List.set_cons_zero, List.set_cons_succ]
          refine wpAnyH_take (i := 19) (oi := { dst := some 34, op := Go.Op.move (Go.Operand.tmp 1), type := 3, pos := "law.go:30", after := #[{ on := 17, ground := Go.Ground.guard }], guard := some (17, true) }) (v := ?vm16) rfl (by kernel_rfl) (by kernel_rfl) (by kernel_rfl) (fun _ _ _ h => h) (Or.inl ⟨by rfl, ?ym16⟩) (by assumption) ?rm16
          case ym16 => (intro w hSw; clear hSw; go_simp; try with_reducible rfl)
          try simp only [Act.put, List.setIfInBounds_toArray, List.set_cons_zero, List.set_cons_succ]
          refine wpAnyH_ready (rs := [20]) (by kernel_rfl) (by simp) ?_
          refine AllReadyH.cons (o := { dst := some 35, op := Go.Op.call { callee := Go.Callee.value (Go.Operand.func 18), args := #[Go.Operand.tmp 34], argTypes := #[3] }, type := 27, pos := "law.go:30", after := #[{ on := 19, ground := Go.Ground.data }, { on := 17, ground := Go.Ground.chain }, { on := 17, ground := Go.Ground.guard }], guard := some (17, true) }) rfl (fun K hK => ?_) ?_
          · go_simp
            (go_at_call 18; with_reducible refine (HF'.out _).mono ?_; rintro e w5 ⟨rfl, hx⟩)
            go_wp2_with fail
            refine hK.out _ _ (Held.keep (by assumption) hx) (fun hHeld => ?_)
            clear hK K hx
            try simp only [Act.put, List.setIfInBounds_toArray, List.set_cons_zero, List.set_cons_succ]
            refine wpAnyH_take (i := 21) (oi := { dst := some 36, op := Go.Op.binOp Go.BinOp.eql 28 (Go.Operand.tmp 33) (Go.Operand.tmp 35) 28, type := 4, pos := "law.go:30", after := #[{ on := 18, ground := Go.Ground.data }, { on := 20, ground := Go.Ground.data }, { on := 17, ground := Go.Ground.guard }], guard := some (17, true) }) (v := ?vm17) rfl (by kernel_rfl) (by kernel_rfl) (by kernel_rfl) (fun _ _ _ h => h) (Or.inl ⟨by rfl, ?ym17⟩) (by assumption) ?rm17
            case ym17 => (intro w hSw; clear hSw; go_simp; try with_reducible rfl)
            try simp only [Act.put, List.setIfInBounds_toArray, List.set_cons_zero, List.set_cons_succ]
            refine wpAnyH_take (i := 22) (oi := { dst := some 37, op := Go.Op.pick (Go.Operand.tmp 32) (Go.Operand.tmp 36) (Go.Operand.const (Go.Value.bool false)), type := 4, pos := "law.go:30", after := #[{ on := 17, ground := Go.Ground.data }, { on := 21, ground := Go.Ground.data }], guard := none }) (v := ?vm18) rfl (by kernel_rfl) (by kernel_rfl) (by kernel_rfl) (fun _ _ _ h => h) (Or.inl ⟨by rfl, ?ym18⟩) (by assumption) ?rm18
            case ym18 => (intro w hSw; clear hSw; go_simp; try with_reducible rfl)
            try simp only [Act.put, List.setIfInBounds_toArray, List.set_cons_zero, List.set_cons_succ]
            refine wpAnyH_take (i := 23) (oi := { dst := some 38, op := Go.Op.move (Go.Operand.tmp 37), type := 4, pos := "law.go:30", after := #[{ on := 22, ground := Go.Ground.data }, { on := 20, ground := Go.Ground.chain }], guard := none }) (v := ?vm19) rfl (by kernel_rfl) (by kernel_rfl) (by kernel_rfl) (fun _ _ _ h => h) (Or.inl ⟨by rfl, ?ym19⟩) (by assumption) ?rm19
            case ym19 => (intro w hSw; clear hSw; go_simp; try with_reducible rfl)
            try simp only [Act.put, List.setIfInBounds_toArray, List.set_cons_zero, List.set_cons_succ]
            refine wpAnyH_take (i := 24) (oi := { dst := some 39, op := Go.Op.load 28 (Go.Operand.tmp 8), type := 28, pos := "law.go:30", after := #[{ on := 23, ground := Go.Ground.guard }], guard := some (23, true) }) (v := .agg LN.toArray) rfl (by kernel_rfl) (by kernel_rfl) (by kernel_rfl) (fun _ _ _ h => h) (yieldsIf_load_mid (by rfl) _ _ rfl _ _ rfl LN _ (fun w h => h.at (by simp)) Try.underlying28 rfl hsN) (by assumption) ?_
            try simp only [Act.put, List.setIfInBounds_toArray, List.set_cons_zero, List.set_cons_succ]
            refine wpAnyH_take (i := 25) (oi := { dst := some 40, op := Go.Op.load 27 (Go.Operand.tmp 2), type := 27, pos := "law.go:30", after := #[{ on := 23, ground := Go.Ground.guard }], guard := some (23, true) }) (v := .agg L.toArray) rfl (by kernel_rfl) (by kernel_rfl) (by kernel_rfl) (fun _ _ _ h => h) (yieldsIf_load_mid (by rfl) _ _ rfl _ _ rfl L _ (fun w h => h.at (by simp)) Try.underlying27 rfl hs0) (by assumption) ?_
            try simp only [Act.put, List.setIfInBounds_toArray, List.set_cons_zero, List.set_cons_succ]
            refine wpAnyH_ready (rs := [26]) (by kernel_rfl) (by simp) ?_
            refine AllReadyH.cons (o := { dst := some 41, op := Go.Op.call { callee := Go.Callee.value (Go.Operand.func 19), args := #[Go.Operand.tmp 40], argTypes := #[27] }, type := 27, pos := "law.go:30", after := #[{ on := 25, ground := Go.Ground.data }, { on := 23, ground := Go.Ground.chain }, { on := 23, ground := Go.Ground.guard }], guard := some (23, true) }) rfl (fun K hK => ?_) ?_
            · go_simp
              (go_at_call 19; with_reducible refine (HN'.out _).mono ?_; rintro e w5 ⟨rfl, hx⟩)
              go_wp2_with fail
              refine hK.out _ _ (Held.keep (by assumption) hx) (fun hHeld => ?_)
              clear hK K hx
              try simp only [Act.put, List.setIfInBounds_toArray, List.set_cons_zero, List.set_cons_succ]
              refine wpAnyH_take (i := 27) (oi := { dst := some 42, op := Go.Op.binOp Go.BinOp.eql 28 (Go.Operand.tmp 39) (Go.Operand.tmp 41) 28, type := 4, pos := "law.go:30", after := #[{ on := 24, ground := Go.Ground.data }, { on := 26, ground := Go.Ground.data }, { on := 23, ground := Go.Ground.guard }], guard := some (23, true) }) (v := ?vm22) rfl (by kernel_rfl) (by kernel_rfl) (by kernel_rfl) (fun _ _ _ h => h) (Or.inl ⟨by rfl, ?ym22⟩) (by assumption) ?rm22
              case ym22 => (intro w hSw; clear hSw; go_simp; try with_reducible rfl)
              try simp only [Act.put, List.setIfInBounds_toArray, List.set_cons_zero, List.set_cons_succ]
              refine wpAnyH_take (i := 28) (oi := { dst := some 43, op := Go.Op.pick (Go.Operand.tmp 38) (Go.Operand.tmp 42) (Go.Operand.const (Go.Value.bool false)), type := 4, pos := "law.go:30", after := #[{ on := 23, ground := Go.Ground.data }, { on := 27, ground := Go.Ground.data }], guard := none }) (v := ?vm23) rfl (by kernel_rfl) (by kernel_rfl) (by kernel_rfl) (fun _ _ _ h => h) (Or.inl ⟨by rfl, ?ym23⟩) (by assumption) ?rm23
              case ym23 => (intro w hSw; clear hSw; go_simp; try with_reducible rfl)
              try simp only [Act.put, List.setIfInBounds_toArray, List.set_cons_zero, List.set_cons_succ]
              refine wpAnyH_take (i := 29) (oi := { dst := some 4, op := Go.Op.assign (Go.Operand.tmp 43), type := 4, pos := "law.go:30", after := #[{ on := 28, ground := Go.Ground.data }, { on := 26, ground := Go.Ground.chain }, { on := 0, ground := Go.Ground.phase }, { on := 1, ground := Go.Ground.phase }, { on := 2, ground := Go.Ground.phase }, { on := 3, ground := Go.Ground.phase }, { on := 4, ground := Go.Ground.phase }, { on := 5, ground := Go.Ground.phase }, { on := 6, ground := Go.Ground.phase }, { on := 7, ground := Go.Ground.phase }, { on := 8, ground := Go.Ground.phase }, { on := 9, ground := Go.Ground.phase }, { on := 10, ground := Go.Ground.phase }, { on := 11, ground := Go.Ground.phase }, { on := 12, ground := Go.Ground.phase }, { on := 13, ground := Go.Ground.phase }, { on := 14, ground := Go.Ground.phase }, { on := 15, ground := Go.Ground.phase }, { on := 16, ground := Go.Ground.phase }, { on := 17, ground := Go.Ground.phase }, { on := 18, ground := Go.Ground.phase }, { on := 19, ground := Go.Ground.phase }, { on := 20, ground := Go.Ground.phase }, { on := 21, ground := Go.Ground.phase }, { on := 22, ground := Go.Ground.phase }, { on := 23, ground := Go.Ground.phase }, { on := 24, ground := Go.Ground.phase }, { on := 25, ground := Go.Ground.phase }, { on := 26, ground := Go.Ground.phase }, { on := 27, ground := Go.Ground.phase }, { on := 28, ground := Go.Ground.phase }], guard := none }) (v := ?vm24) rfl (by kernel_rfl) (by kernel_rfl) (by kernel_rfl) (fun _ _ _ h => h) (Or.inl ⟨by rfl, ?ym24⟩) (by assumption) ?rm24
              case ym24 => (intro w hSw; clear hSw; go_simp; try with_reducible rfl)
              try simp only [Act.put, List.setIfInBounds_toArray, List.set_cons_zero, List.set_cons_succ]
              refine wpAnyH_done (by kernel_rfl) ?_ _
              refine NoPanic.normal ?_
              go_wp2
              go_ret
              exact ⟨rfl, hHeld.2⟩
            exact AllReadyH.nil
          exact AllReadyH.nil
        exact AllReadyH.nil
      exact AllReadyH.nil
    exact AllReadyH.nil
  exact AllReadyH.nil

end Go.Proofs.Ytilimmimidikcaa
