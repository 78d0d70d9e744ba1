/- The laws of buckets and of first buckets. -/
import Derived.Test.YtilimmimidikcaaAwk
import Derived.Deep.RegionHeld3
namespace Go.Proofs.Ytilimmimidikcaa
open Go.ChangeShapes Go.WideShapes Go.ChangeAt Go.RowKit
set_option linter.unusedVariables false

set_option maxRecDepth 100000 in
theorem walk_BalanceBuckets (a0 : ByteArray) (W : World) (w0 : a0.size ≤ maxLen) (z0 : a0.size ≤ 140737488351232) :
    Calls Try.prog 3 #[.string a0] W fun e w' => e = .returned (.bool true) ∧ Below W.heap.size W w' := by
  have hb := fun w => bucket_any a0 w z0
  have hb2 := fun w => rbucket_any a0 w z0
  generalize bucketV a0.data.toList = n at *
  have HB := Lib.hid hb
  have HB2 := Lib.hid hb2
  clear hb hb2
  by_cases hl : 2000 < (a0.size : Int)
  all_goals
    go_enter Try.func3, Try.ntmps3
    go_wp2_with (first
      | (go_at_call 9; refine (awake_any _).mono ?_; rintro e w1 ⟨rfl, hx⟩; have Hx1 := Lib.hid hx; clear hx)
      | (go_at_call 10; with_reducible refine (HB.out _).mono ?_; rintro e w3 ⟨rfl, rfl⟩)
      | (go_at_call 11; with_reducible refine (HB2.out _).mono ?_; rintro e w4 ⟨rfl, rfl⟩))
    go_ret
    exact ⟨rfl, Hx1.out⟩

set_option maxRecDepth 100000 in
theorem walk_BalanceFirst (a0 : Int) (a1 : Int) (W : World) (w0 : (Lit.int .i64 a0).wf = true) (w1 : (Lit.int .i64 a1).wf = true) :
    Calls Try.prog 5 #[.int .i64 a0, .int .i64 a1] W fun e w' => e = .returned (.bool true) ∧ Below W.heap.size W w' := by
  have hA : maskA (firstB a0) = ((firstB a0).map (Value.int .u8)).toArray := rfl
  have hok := firstB_ok a0
  have hr := row_of hok
  have hfirst := fun w => first_any a0 w
  have hcount := fun w => (count_any _ w hok).mono (R' := fun e w' => e = .returned (.int .i64 (min (max a0 0) 256)) ∧ Below w.heap.size w w') (fun e w' ⟨a, c⟩ => ⟨by rw [a, count_first], c⟩)
  obtain ⟨h, hh⟩ : ∃ h, hasV (firstB a0) a1 = h := ⟨_, rfl⟩
  have hhas := fun w => has_any (firstB a0) a1 w hok
  have hv := has_first a0 a1
  rw [hh] at hhas hv
  rw [hA] at hfirst hcount hhas
  clear hA hok hh
  generalize (firstB a0).map (Value.int .u8) = L at *
  have HF := Lib.hid hfirst
  have HC := Lib.hid hcount
  have HH := Lib.hid hhas
  have HV := Lib.hid hv
  have HR := Lib.hid hr
  clear hr hfirst hcount hhas hv
  go_enter Try.func5, Try.ntmps5
  go_wp2_with (first
    | (go_at_call 9; refine (awake_any _).mono ?_; rintro e w1 ⟨rfl, hx⟩; have Hx1 := Lib.hid hx; clear hx)
    | (go_at_call 12; with_reducible refine (HF.out _).mono ?_; rintro e w2 ⟨rfl, hx⟩; have Hx2 := Lib.hid hx; clear hx)
    | (refine wpList_alloc_store rfl rfl 28 6 _ rfl rfl rfl zeroM L.toArray zero_mask rfl rfl HR.out.size HR.out.zero HR.out.one ?_; have hk := Blk.new w2 L.toArray 28; have HK := Lib.hid hk; clear hk)
    | (refine wpList_load_row_g (by kernel_rfl) 28 _ rfl w2.heap.size rfl _ _ _ _ HK.out Try.underlying28 rfl HR.out.size ?_)
    | (go_at_call 13; with_reducible refine (HC.out _).mono ?_; rintro e w3 ⟨rfl, hx⟩; have HK2 := Lib.hid (HK.out.keep hx); have Hx3 := Lib.hid hx; clear hx)
    | (refine wpList_load_row_g (by kernel_rfl) 28 _ rfl w2.heap.size rfl _ _ _ _ HK2.out Try.underlying28 rfl HR.out.size ?_)
    | (go_at_call 14; with_reducible refine (HH.out _).mono ?_; rintro e w4 ⟨rfl, hx⟩; have Hx4 := Lib.hid hx; clear hx))
  all_goals
    go_ret
    exact ⟨ret_bool (by rw [HV.out]; clear HV HK HK2 Hx1 Hx2 Hx3 Hx4 HF HC HH HR; grind), low (low (lowA (low Hx1.out Hx2.out) _) Hx3.out) Hx4.out⟩

set_option maxRecDepth 100000 in
set_option maxHeartbeats 1600000 in
theorem walk_BalanceCovers (a0 : ByteArray) (a1 : Int) (a2 : Int) (W : World) (w0 : a0.size ≤ maxLen) (z0 : a0.size ≤ 140737488351232) (w1 : (Lit.int .i64 a1).wf = true) (w2 : (Lit.int .i64 a2).wf = true) :
    Calls Try.prog 6 #[.string a0, .int .i64 a1, .int .i64 a2] W fun e w' => e = .returned (.bool true) ∧ Below W.heap.size W w' := by
  have hr := row_of (firstB_ok a1)
  have hr' := row_of (firstB_ok a2)
  have hok := firstB_ok a1
  have hok' := firstB_ok a2
  have hb := fun w => bucket_any a0 w z0
  have hn0 : bucketV a0.data.toList < 256 := bucket_lt _
  generalize bucketV a0.data.toList = n at *
  have hfirst := fun w => first_any a1 w
  have hfirst' := fun w => first_any a2 w
  have hcount := fun w => (count_any _ w hok).mono (R' := fun e w' => e = .returned (.int .i64 (min (max a1 0) 256)) ∧ Below w.heap.size w w') (fun e w' ⟨a, c⟩ => ⟨by rw [a, count_first], c⟩)
  have hcount' := fun w => (count_any _ w hok').mono (R' := fun e w' => e = .returned (.int .i64 (min (max a2 0) 256)) ∧ Below w.heap.size w w') (fun e w' ⟨a, c⟩ => ⟨by rw [a, count_first], c⟩)
  have hhas := fun w => has_any (firstB a1) n w hok
  have hhas' := fun w => has_any (firstB a2) n w hok'
  have hv := has_first a1 n
  have hv' := has_first a2 n
  generalize hasV (firstB a1) n = h at *
  generalize hasV (firstB a2) n = h' at *
  have hA : maskA (firstB a1) = ((firstB a1).map (Value.int .u8)).toArray := rfl
  have hA' : maskA (firstB a2) = ((firstB a2).map (Value.int .u8)).toArray := rfl
  rw [hA] at hfirst hcount hhas
  rw [hA'] at hfirst' hcount' hhas'
  clear hA hA' hok hok'
  generalize (firstB a1).map (Value.int .u8) = L at *
  generalize (firstB a2).map (Value.int .u8) = L' at *
  by_cases hl : 2000 < (a0.size : Int)
  · have HL := Lib.hid hl
    go_enter Try.func6, Try.ntmps6
    go_wp2_with (first | (go_at_call 9; refine (awake_any _).mono ?_; rintro e w1 ⟨rfl, hx⟩; have Hx1 := Lib.hid hx; clear hx))
    go_ret
    exact ⟨rfl, Hx1.out⟩
  by_cases hlt : a2 < a1
  · go_enter Try.func6, Try.ntmps6
    go_wp2_with (first | (go_at_call 9; refine (awake_any _).mono ?_; rintro e w1 ⟨rfl, hx⟩; have Hx1 := Lib.hid hx; clear hx))
    go_ret
    exact ⟨rfl, Hx1.out⟩
  have hd : h = decide ((n : Int) < a1) := by rw [hv]; have : (0 : Int) ≤ n := by omega
                                              rw [decide_eq_true this, Bool.true_and, decide_eq_decide]; omega
  have hd' : h = true → h' = true := by
    intro e
    rw [hv, Bool.and_eq_true, decide_eq_true_iff, decide_eq_true_iff] at e
    rw [hv', Bool.and_eq_true, decide_eq_true_iff, decide_eq_true_iff]
    omega
  have hm : min (max a1 0) 256 ≤ min (max a2 0) 256 := by omega
  have HF := Lib.hid hfirst
  have HF' := Lib.hid hfirst'
  have HC := Lib.hid hcount
  have HC' := Lib.hid hcount'
  have HH := Lib.hid hhas
  have HH' := Lib.hid hhas'
  have HB := Lib.hid hb
  have HR := Lib.hid hr
  have HR' := Lib.hid hr'
  clear hv hv' hfirst hfirst' hcount hcount' hhas hhas' hb hr hr'
  generalize hp : min (max a1 0) 256 = p at *
  generalize hq : min (max a2 0) 256 = q at *
  have HP := Lib.hid hp
  have HQ := Lib.hid hq
  clear hp hq
  have hc : (decide ((n : Int) < a1) = true ∧ h = true ∧ h' = true) ∨ (decide ((n : Int) < a1) = false ∧ h = false ∧ h' = true) ∨ (decide ((n : Int) < a1) = false ∧ h = false ∧ h' = false) := by
    by_cases c : (n : Int) < a1
    · rw [decide_eq_true c] at hd
      exact .inl ⟨decide_eq_true c, hd, hd' hd⟩
    · rw [decide_eq_false c] at hd
      cases h'
      · exact .inr (.inr ⟨decide_eq_false c, hd, rfl⟩)
      · exact .inr (.inl ⟨decide_eq_false c, hd, rfl⟩)
  clear hd hd'
  have hm' : decide (p ≤ q) = true := decide_eq_true hm
  clear hm
  rcases hc with ⟨c, rfl, rfl⟩ | ⟨c, rfl, rfl⟩ | ⟨c, rfl, rfl⟩
  all_goals
    go_enter Try.func6, Try.ntmps6
    go_wp2_with (first
      | (go_at_call 9; refine (awake_any _).mono ?_; rintro e w1 ⟨rfl, hx⟩; have Hx1 := Lib.hid hx; clear hx)
      | (go_at_call 10; with_reducible refine (HB.out _).mono ?_; rintro e w3 ⟨rfl, rfl⟩)
      | (go_at_call 12; with_reducible refine (HF.out _).mono ?_; rintro e w2 ⟨rfl, hx⟩; have Hx2 := Lib.hid hx; clear hx)
      | (refine wpList_alloc_store rfl rfl 28 9 _ rfl rfl rfl zeroM L.toArray zero_mask rfl rfl HR.out.size HR.out.zero HR.out.one ?_; have hk := Blk.new w2 L.toArray 28; have HK := Lib.hid hk; clear hk)
      | (go_at_call 12; with_reducible refine (HF'.out _).mono ?_; rintro e w3 ⟨rfl, hx⟩; have HK2 := Lib.hid (HK.out.keep hx); have Hx3 := Lib.hid hx; clear hx)
      | (refine wpList_alloc_store rfl rfl 28 10 _ rfl rfl rfl zeroM L'.toArray zero_mask rfl rfl HR'.out.size HR'.out.zero HR'.out.one ?_; have hk := Blk.new w3 L'.toArray 28; have HK' := Lib.hid hk; clear hk))
    have hg := (HK2.out.alloc (.cells L'.toArray 28))
    have hh := Held.cons (Held.cons (Held.nil (lowA (low (lowA (low Hx1.out Hx2.out) (.cells L.toArray 28)) Hx3.out) (.cells L'.toArray 28))) hg) HK'.out
    have hu := Try.underlying28
    have hs1 : (Try.prog.info? 28).map (·.size) = some L.length := by have := HR.out.size; rw [List.size_toArray] at this; exact this
    have hs2 : (Try.prog.info? 28).map (·.size) = some L'.length := by have := HR'.out.size; rw [List.size_toArray] at this; exact this
    have HH0 := Lib.hid hh
    clear hg HK HK2 HK' Hx2 Hx3 Hx1 hh
    generalize (w3.alloc (.cells L'.toArray 28)) = w4 at *
    generalize w2.heap.size = g at *
    generalize w3.heap.size = g' at *
    refine wp_region_noPanic ?_
    refine wp_region_held_drew (S := Held W [(g', L'), (g, L)]) (by kernel_rfl) HH0.out.drew (fun hHeld => ?_)
    clear HH0

  · refine wpAnyH_take (i := 0) (oi := { dst := some 31, op := Go.Op.load 28 (Go.Operand.tmp 9), type := 28, pos := "more.go:16", after := #[], guard := none }) (v := .agg L.toArray) rfl (by kernel_rfl) (by kernel_rfl) (by kernel_rfl) (fun _ _ _ h => h) (yieldsIf_load_mid (by rfl) _ _ rfl _ _ rfl L _ (fun w h => h.at (by simp)) hu rfl hs1) (by assumption) ?_
    try simp only [Act.put, List.setIfInBounds_toArray, List.set_cons_zero, List.set_cons_succ]
    refine wpAnyH_take (i := 1) (oi := { dst := some 32, op := Go.Op.move (Go.Operand.tmp 8), type := 3, pos := "more.go:16", after := #[], guard := none }) (v := ?va2) rfl (by kernel_rfl) (by kernel_rfl) (by kernel_rfl) (fun _ _ _ h => h) (Or.inl ⟨by rfl, ?ya2⟩) (by assumption) ?ra2
    case ya2 => (intro w hSw; clear hSw; go_simp; try with_reducible rfl)
    try simp only [Act.put, List.setIfInBounds_toArray, List.set_cons_zero, List.set_cons_succ]
    refine wpAnyH_take (i := 3) (oi := { dst := some 34, op := Go.Op.move (Go.Operand.tmp 8), type := 3, pos := "more.go:16", after := #[], guard := none }) (v := ?va3) rfl (by kernel_rfl) (by kernel_rfl) (by kernel_rfl) (fun _ _ _ h => h) (Or.inl ⟨by rfl, ?ya3⟩) (by assumption) ?ra3
    case ya3 => (intro w hSw; clear hSw; go_simp; try with_reducible rfl)
    try simp only [Act.put, List.setIfInBounds_toArray, List.set_cons_zero, List.set_cons_succ]
    refine wpAnyH_take (i := 4) (oi := { dst := some 35, op := Go.Op.move (Go.Operand.tmp 1), type := 3, pos := "more.go:16", after := #[], guard := none }) (v := ?va4) rfl (by kernel_rfl) (by kernel_rfl) (by kernel_rfl) (fun _ _ _ h => h) (Or.inl ⟨by rfl, ?ya4⟩) (by assumption) ?ra4
    case ya4 => (intro w hSw; clear hSw; go_simp; try with_reducible rfl)
    try simp only [Act.put, List.setIfInBounds_toArray, List.set_cons_zero, List.set_cons_succ]
    refine wpAnyH_take (i := 5) (oi := { dst := some 36, op := Go.Op.binOp Go.BinOp.lss 3 (Go.Operand.tmp 34) (Go.Operand.tmp 35) 3, type := 4, pos := "more.go:16", after := #[{ on := 3, ground := Go.Ground.data }, { on := 4, ground := Go.Ground.data }], guard := none }) (v := ?va5) rfl (by kernel_rfl) (by kernel_rfl) (by kernel_rfl) (fun _ _ _ h => h) (Or.inl ⟨by rfl, ?ya5⟩) (by assumption) ?ra5
    case ya5 => (intro w hSw; clear hSw; go_simp; try with_reducible rfl)
    try simp only [Act.put, List.setIfInBounds_toArray, List.set_cons_zero, List.set_cons_succ]
    refine wpAnyH_ready (rs := [2]) (by kernel_rfl) (by simp) ?_
    refine AllReadyH.cons (o := { dst := some 33, op := Go.Op.call { callee := Go.Callee.value (Go.Operand.func 14), args := #[Go.Operand.tmp 31, Go.Operand.tmp 32], argTypes := #[28, 3] }, type := 4, pos := "more.go:16", after := #[{ on := 0, ground := Go.Ground.data }, { on := 1, ground := Go.Ground.data }], guard := none }) rfl (fun K hK => ?_) ?_
    · go_simp
      (go_at_call 14; with_reducible refine (HH.out _).mono ?_; rintro e w5 ⟨rfl, hx⟩)
      go_wp2_with fail
      refine hK.out _ _ (Held.keep (by assumption) hx) (fun hHeld => ?_)
      clear hK K hx
      try simp only [Act.put, List.setIfInBounds_toArray, List.set_cons_zero, List.set_cons_succ]
      refine wpAnyH_take (i := 6) (oi := { dst := some 37, op := Go.Op.binOp Go.BinOp.eql 4 (Go.Operand.tmp 33) (Go.Operand.tmp 36) 4, type := 4, pos := "more.go:16", after := #[{ on := 2, ground := Go.Ground.data }, { on := 5, ground := Go.Ground.data }], guard := none }) (v := ?va6) rfl (by kernel_rfl) (by kernel_rfl) (by kernel_rfl) (fun _ _ _ h => h) (Or.inl ⟨by rfl, ?ya6⟩) (by assumption) ?ra6
      case ya6 => (intro w hSw; clear hSw; go_simp; try with_reducible rfl)
      try simp only [Act.put, List.setIfInBounds_toArray, List.set_cons_zero, List.set_cons_succ]
      refine wpAnyH_take (i := 7) (oi := { dst := some 38, op := Go.Op.move (Go.Operand.tmp 37), type := 4, pos := "more.go:16", after := #[{ on := 6, ground := Go.Ground.data }, { on := 2, ground := Go.Ground.chain }], guard := none }) (v := ?va7) rfl (by kernel_rfl) (by kernel_rfl) (by kernel_rfl) (fun _ _ _ h => h) (Or.inl ⟨by rfl, ?ya7⟩) (by assumption) ?ra7
      case ya7 => (intro w hSw; clear hSw; go_simp; try with_reducible rfl)
      try simp only [Act.put, List.setIfInBounds_toArray, List.set_cons_zero, List.set_cons_succ]
      refine wpAnyH_take (i := 8) (oi := { dst := some 39, op := Go.Op.load 28 (Go.Operand.tmp 9), type := 28, pos := "more.go:16", after := #[{ on := 7, ground := Go.Ground.guard }], guard := some (7, true) }) (v := .agg L.toArray) rfl (by kernel_rfl) (by kernel_rfl) (by kernel_rfl) (fun _ _ _ h => h) (yieldsIf_load_mid (by rfl) _ _ rfl _ _ rfl L _ (fun w h => h.at (by simp)) hu rfl hs1) (by assumption) ?_
      try simp only [Act.put, List.setIfInBounds_toArray, List.set_cons_zero, List.set_cons_succ]
      refine wpAnyH_take (i := 9) (oi := { dst := some 40, op := Go.Op.move (Go.Operand.tmp 8), type := 3, pos := "more.go:16", after := #[{ on := 7, ground := Go.Ground.guard }], guard := some (7, true) }) (v := ?va9) rfl (by kernel_rfl) (by kernel_rfl) (by kernel_rfl) (fun _ _ _ h => h) (Or.inl ⟨by rfl, ?ya9⟩) (by assumption) ?ra9
      case ya9 => (intro w hSw; clear hSw; go_simp; try with_reducible rfl)
      try simp only [Act.put, List.setIfInBounds_toArray, List.set_cons_zero, List.set_cons_succ]
      refine wpAnyH_ready (rs := [10]) (by kernel_rfl) (by simp) ?_
      refine AllReadyH.cons (o := { dst := some 41, op := Go.Op.call { callee := Go.Callee.value (Go.Operand.func 14), args := #[Go.Operand.tmp 39, Go.Operand.tmp 40], argTypes := #[28, 3] }, type := 4, pos := "more.go:16", after := #[{ on := 8, ground := Go.Ground.data }, { on := 9, ground := Go.Ground.data }, { on := 7, ground := Go.Ground.chain }, { on := 7, ground := Go.Ground.guard }], guard := some (7, true) }) rfl (fun K hK => ?_) ?_
      · go_simp
        (go_at_call 14; with_reducible refine (HH.out _).mono ?_; rintro e w5 ⟨rfl, hx⟩)
        go_wp2_with fail
        refine hK.out _ _ (Held.keep (by assumption) hx) (fun hHeld => ?_)
        clear hK K hx
        try simp only [Act.put, List.setIfInBounds_toArray, List.set_cons_zero, List.set_cons_succ]
        refine wpAnyH_take (i := 11) (oi := { dst := some 42, op := Go.Op.unOp Go.UnOp.not 4 (Go.Operand.tmp 41), type := 4, pos := "more.go:16", after := #[{ on := 10, ground := Go.Ground.data }, { on := 7, ground := Go.Ground.guard }], guard := some (7, true) }) (v := ?va10) rfl (by kernel_rfl) (by kernel_rfl) (by kernel_rfl) (fun _ _ _ h => h) (Or.inl ⟨by rfl, ?ya10⟩) (by assumption) ?ra10
        case ya10 => (intro w hSw; clear hSw; go_simp; try with_reducible rfl)
        try simp only [Act.put, List.setIfInBounds_toArray, List.set_cons_zero, List.set_cons_succ]
        refine wpAnyH_take (i := 12) (oi := { dst := some 43, op := Go.Op.move (Go.Operand.tmp 42), type := 4, pos := "more.go:16", after := #[{ on := 11, ground := Go.Ground.data }, { on := 10, ground := Go.Ground.chain }, { on := 7, ground := Go.Ground.guard }], guard := some (7, true) }) (v := ?va11) rfl (by kernel_rfl) (by kernel_rfl) (by kernel_rfl) (fun _ _ _ h => h) (Or.inl ⟨by rfl, ?ya11⟩) (by assumption) ?ra11
        case ya11 => (intro w hSw; clear hSw; go_simp; try with_reducible rfl)
        try simp only [Act.put, List.setIfInBounds_toArray, List.set_cons_zero, List.set_cons_succ]
        refine wpAnyH_take (i := 13) (oi := { dst := some 44, op := Go.Op.load 28 (Go.Operand.tmp 10), type := 28, pos := "more.go:16", after := #[{ on := 12, ground := Go.Ground.guard }], guard := some (12, false) }) (v := .agg L'.toArray) rfl (by kernel_rfl) (by kernel_rfl) (by kernel_rfl) (fun _ _ _ h => h) (yieldsIf_load_mid (by rfl) _ _ rfl _ _ rfl L' _ (fun w h => h.at (by simp)) hu rfl hs2) (by assumption) ?_
        try simp only [Act.put, List.setIfInBounds_toArray, List.set_cons_zero, List.set_cons_succ]
        refine wpAnyH_take (i := 14) (oi := { dst := some 45, op := Go.Op.move (Go.Operand.tmp 8), type := 3, pos := "more.go:16", after := #[{ on := 12, ground := Go.Ground.guard }], guard := some (12, false) }) (v := ?va13) rfl (by kernel_rfl) (by kernel_rfl) (by kernel_rfl) (fun _ _ _ h => h) (Or.inl ⟨by rfl, ?ya13⟩) (by assumption) ?ra13
        case ya13 => (intro w hSw; clear hSw; go_simp; try with_reducible rfl)
        try simp only [Act.put, List.setIfInBounds_toArray, List.set_cons_zero, List.set_cons_succ]
        refine wpAnyH_ready (rs := [15]) (by kernel_rfl) (by simp) ?_
        refine AllReadyH.cons (o := { dst := some 46, op := Go.Op.call { callee := Go.Callee.value (Go.Operand.func 14), args := #[Go.Operand.tmp 44, Go.Operand.tmp 45], argTypes := #[28, 3] }, type := 4, pos := "more.go:16", after := #[{ on := 13, ground := Go.Ground.data }, { on := 14, ground := Go.Ground.data }, { on := 12, ground := Go.Ground.chain }, { on := 12, ground := Go.Ground.guard }], guard := some (12, false) }) rfl (fun K hK => ?_) ?_
        · go_simp
          (go_at_call 14; with_reducible refine (HH'.out _).mono ?_; rintro e w5 ⟨rfl, hx⟩)
          go_wp2_with fail
          refine hK.out _ _ (Held.keep (by assumption) hx) (fun hHeld => ?_)
          clear hK K hx
          try simp only [Act.put, List.setIfInBounds_toArray, List.set_cons_zero, List.set_cons_succ]
          refine wpAnyH_take (i := 16) (oi := { dst := some 47, op := Go.Op.pick (Go.Operand.tmp 43) (Go.Operand.const (Go.Value.bool true)) (Go.Operand.tmp 46), type := 4, pos := "more.go:16", after := #[{ on := 12, ground := Go.Ground.data }, { on := 15, ground := Go.Ground.data }, { on := 7, ground := Go.Ground.guard }], guard := some (7, true) }) (v := ?va14) rfl (by kernel_rfl) (by kernel_rfl) (by kernel_rfl) (fun _ _ _ h => h) (Or.inl ⟨by rfl, ?ya14⟩) (by assumption) ?ra14
          case ya14 => (intro w hSw; clear hSw; go_simp; try with_reducible rfl)
          try simp only [Act.put, List.setIfInBounds_toArray, List.set_cons_zero, List.set_cons_succ]
          refine wpAnyH_take (i := 17) (oi := { dst := some 48, op := Go.Op.pick (Go.Operand.tmp 38) (Go.Operand.tmp 47) (Go.Operand.const (Go.Value.bool false)), type := 4, pos := "more.go:16", after := #[{ on := 7, ground := Go.Ground.data }, { on := 16, ground := Go.Ground.data }], guard := none }) (v := ?va15) rfl (by kernel_rfl) (by kernel_rfl) (by kernel_rfl) (fun _ _ _ h => h) (Or.inl ⟨by rfl, ?ya15⟩) (by assumption) ?ra15
          case ya15 => (intro w hSw; clear hSw; go_simp; try with_reducible rfl)
          try simp only [Act.put, List.setIfInBounds_toArray, List.set_cons_zero, List.set_cons_succ]
          refine wpAnyH_take (i := 18) (oi := { dst := some 49, op := Go.Op.move (Go.Operand.tmp 48), type := 4, pos := "more.go:16", after := #[{ on := 17, ground := Go.Ground.data }, { on := 15, ground := Go.Ground.chain }], guard := none }) (v := ?va16) rfl (by kernel_rfl) (by kernel_rfl) (by kernel_rfl) (fun _ _ _ h => h) (Or.inl ⟨by rfl, ?ya16⟩) (by assumption) ?ra16
          case ya16 => (intro w hSw; clear hSw; go_simp; try with_reducible rfl)
          try simp only [Act.put, List.setIfInBounds_toArray, List.set_cons_zero, List.set_cons_succ]
          refine wpAnyH_take (i := 19) (oi := { dst := some 50, op := Go.Op.load 28 (Go.Operand.tmp 9), type := 28, pos := "more.go:16", after := #[{ on := 18, ground := Go.Ground.guard }], guard := some (18, true) }) (v := .agg L.toArray) rfl (by kernel_rfl) (by kernel_rfl) (by kernel_rfl) (fun _ _ _ h => h) (yieldsIf_load_mid (by rfl) _ _ rfl _ _ rfl L _ (fun w h => h.at (by simp)) hu rfl hs1) (by assumption) ?_
          try simp only [Act.put, List.setIfInBounds_toArray, List.set_cons_zero, List.set_cons_succ]
          refine wpAnyH_take (i := 21) (oi := { dst := some 52, op := Go.Op.load 28 (Go.Operand.tmp 10), type := 28, pos := "more.go:16", after := #[{ on := 18, ground := Go.Ground.guard }], guard := some (18, true) }) (v := .agg L'.toArray) rfl (by kernel_rfl) (by kernel_rfl) (by kernel_rfl) (fun _ _ _ h => h) (yieldsIf_load_mid (by rfl) _ _ rfl _ _ rfl L' _ (fun w h => h.at (by simp)) hu rfl hs2) (by assumption) ?_
          try simp only [Act.put, List.setIfInBounds_toArray, List.set_cons_zero, List.set_cons_succ]
          refine wpAnyH_ready (rs := [20]) (by kernel_rfl) (by simp) ?_
          refine AllReadyH.cons (o := { dst := some 51, op := Go.Op.call { callee := Go.Callee.value (Go.Operand.func 13), args := #[Go.Operand.tmp 50], argTypes := #[28] }, type := 3, pos := "more.go:16", after := #[{ on := 19, ground := Go.Ground.data }, { on := 18, ground := Go.Ground.chain }, { on := 18, ground := Go.Ground.guard }], guard := some (18, true) }) rfl (fun K hK => ?_) ?_
          · go_simp
            (go_at_call 13; with_reducible refine (HC.out _).mono ?_; rintro e w5 ⟨rfl, hx⟩)
            go_wp2_with fail
            refine hK.out _ _ (Held.keep (by assumption) hx) (fun hHeld => ?_)
            clear hK K hx
            try simp only [Act.put, List.setIfInBounds_toArray, List.set_cons_zero, List.set_cons_succ]
            refine wpAnyH_ready (rs := [22]) (by kernel_rfl) (by simp) ?_
            refine AllReadyH.cons (o := { dst := some 53, op := Go.Op.call { callee := Go.Callee.value (Go.Operand.func 13), args := #[Go.Operand.tmp 52], argTypes := #[28] }, type := 3, pos := "more.go:16", after := #[{ on := 21, ground := Go.Ground.data }, { on := 20, ground := Go.Ground.chain }, { on := 18, ground := Go.Ground.guard }], guard := some (18, true) }) rfl (fun K hK => ?_) ?_
            · go_simp
              (go_at_call 13; with_reducible refine (HC'.out _).mono ?_; rintro e w5 ⟨rfl, hx⟩)
              go_wp2_with fail
              refine hK.out _ _ (Held.keep (by assumption) hx) (fun hHeld => ?_)
              clear hK K hx
              try simp only [Act.put, List.setIfInBounds_toArray, List.set_cons_zero, List.set_cons_succ]
              refine wpAnyH_take (i := 23) (oi := { dst := some 54, op := Go.Op.binOp Go.BinOp.leq 3 (Go.Operand.tmp 51) (Go.Operand.tmp 53) 3, type := 4, pos := "more.go:16", after := #[{ on := 20, ground := Go.Ground.data }, { on := 22, ground := Go.Ground.data }, { on := 18, ground := Go.Ground.guard }], guard := some (18, true) }) (v := ?va19) rfl (by kernel_rfl) (by kernel_rfl) (by kernel_rfl) (fun _ _ _ h => h) (Or.inl ⟨by rfl, ?ya19⟩) (by assumption) ?ra19
              case ya19 => (intro w hSw; clear hSw; go_simp; try with_reducible rfl)
              try simp only [Act.put, List.setIfInBounds_toArray, List.set_cons_zero, List.set_cons_succ]
              refine wpAnyH_take (i := 24) (oi := { dst := some 55, op := Go.Op.pick (Go.Operand.tmp 49) (Go.Operand.tmp 54) (Go.Operand.const (Go.Value.bool false)), type := 4, pos := "more.go:16", after := #[{ on := 18, ground := Go.Ground.data }, { on := 23, ground := Go.Ground.data }], guard := none }) (v := ?va20) rfl (by kernel_rfl) (by kernel_rfl) (by kernel_rfl) (fun _ _ _ h => h) (Or.inl ⟨by rfl, ?ya20⟩) (by assumption) ?ra20
              case ya20 => (intro w hSw; clear hSw; go_simp; try with_reducible rfl)
              try simp only [Act.put, List.setIfInBounds_toArray, List.set_cons_zero, List.set_cons_succ]
              refine wpAnyH_take (i := 25) (oi := { dst := some 6, op := Go.Op.assign (Go.Operand.tmp 55), type := 4, pos := "more.go:16", after := #[{ on := 24, ground := Go.Ground.data }, { on := 22, ground := Go.Ground.chain }, { on := 0, ground := Go.Ground.phase }, { on := 1, ground := Go.Ground.phase }, { on := 2, ground := Go.Ground.phase }, { on := 3, ground := Go.Ground.phase }, { on := 4, ground := Go.Ground.phase }, { on := 5, ground := Go.Ground.phase }, { on := 6, ground := Go.Ground.phase }, { on := 7, ground := Go.Ground.phase }, { on := 8, ground := Go.Ground.phase }, { on := 9, ground := Go.Ground.phase }, { on := 10, ground := Go.Ground.phase }, { on := 11, ground := Go.Ground.phase }, { on := 12, ground := Go.Ground.phase }, { on := 13, ground := Go.Ground.phase }, { on := 14, ground := Go.Ground.phase }, { on := 15, ground := Go.Ground.phase }, { on := 16, ground := Go.Ground.phase }, { on := 17, ground := Go.Ground.phase }, { on := 18, ground := Go.Ground.phase }, { on := 19, ground := Go.Ground.phase }, { on := 20, ground := Go.Ground.phase }, { on := 21, ground := Go.Ground.phase }, { on := 22, ground := Go.Ground.phase }, { on := 23, ground := Go.Ground.phase }, { on := 24, ground := Go.Ground.phase }], guard := none }) (v := ?va21) rfl (by kernel_rfl) (by kernel_rfl) (by kernel_rfl) (fun _ _ _ h => h) (Or.inl ⟨by rfl, ?ya21⟩) (by assumption) ?ra21
              case ya21 => (intro w hSw; clear hSw; go_simp; try with_reducible rfl)
              try simp only [Act.put, List.setIfInBounds_toArray, List.set_cons_zero, List.set_cons_succ]
              refine wpAnyH_done (by kernel_rfl) ?_ _
              refine NoPanic.normal ?_
              go_wp2
              go_ret
              exact ⟨rfl, hHeld.2⟩
            exact AllReadyH.nil
          exact AllReadyH.nil
        exact AllReadyH.nil
      exact AllReadyH.nil
    exact AllReadyH.nil
  · refine wpAnyH_take (i := 0) (oi := { dst := some 31, op := Go.Op.load 28 (Go.Operand.tmp 9), type := 28, pos := "more.go:16", after := #[], guard := none }) (v := .agg L.toArray) rfl (by kernel_rfl) (by kernel_rfl) (by kernel_rfl) (fun _ _ _ h => h) (yieldsIf_load_mid (by rfl) _ _ rfl _ _ rfl L _ (fun w h => h.at (by simp)) hu rfl hs1) (by assumption) ?_
    try simp only [Act.put, List.setIfInBounds_toArray, List.set_cons_zero, List.set_cons_succ]
    refine wpAnyH_take (i := 1) (oi := { dst := some 32, op := Go.Op.move (Go.Operand.tmp 8), type := 3, pos := "more.go:16", after := #[], guard := none }) (v := ?vb2) rfl (by kernel_rfl) (by kernel_rfl) (by kernel_rfl) (fun _ _ _ h => h) (Or.inl ⟨by rfl, ?yb2⟩) (by assumption) ?rb2
    case yb2 => (intro w hSw; clear hSw; go_simp; try with_reducible rfl)
    try simp only [Act.put, List.setIfInBounds_toArray, List.set_cons_zero, List.set_cons_succ]
    refine wpAnyH_take (i := 3) (oi := { dst := some 34, op := Go.Op.move (Go.Operand.tmp 8), type := 3, pos := "more.go:16", after := #[], guard := none }) (v := ?vb3) rfl (by kernel_rfl) (by kernel_rfl) (by kernel_rfl) (fun _ _ _ h => h) (Or.inl ⟨by rfl, ?yb3⟩) (by assumption) ?rb3
    case yb3 => (intro w hSw; clear hSw; go_simp; try with_reducible rfl)
    try simp only [Act.put, List.setIfInBounds_toArray, List.set_cons_zero, List.set_cons_succ]
    refine wpAnyH_take (i := 4) (oi := { dst := some 35, op := Go.Op.move (Go.Operand.tmp 1), type := 3, pos := "more.go:16", after := #[], guard := none }) (v := ?vb4) rfl (by kernel_rfl) (by kernel_rfl) (by kernel_rfl) (fun _ _ _ h => h) (Or.inl ⟨by rfl, ?yb4⟩) (by assumption) ?rb4
    case yb4 => (intro w hSw; clear hSw; go_simp; try with_reducible rfl)
    try simp only [Act.put, List.setIfInBounds_toArray, List.set_cons_zero, List.set_cons_succ]
    refine wpAnyH_take (i := 5) (oi := { dst := some 36, op := Go.Op.binOp Go.BinOp.lss 3 (Go.Operand.tmp 34) (Go.Operand.tmp 35) 3, type := 4, pos := "more.go:16", after := #[{ on := 3, ground := Go.Ground.data }, { on := 4, ground := Go.Ground.data }], guard := none }) (v := ?vb5) rfl (by kernel_rfl) (by kernel_rfl) (by kernel_rfl) (fun _ _ _ h => h) (Or.inl ⟨by rfl, ?yb5⟩) (by assumption) ?rb5
    case yb5 => (intro w hSw; clear hSw; go_simp; try with_reducible rfl)
    try simp only [Act.put, List.setIfInBounds_toArray, List.set_cons_zero, List.set_cons_succ]
    refine wpAnyH_ready (rs := [2]) (by kernel_rfl) (by simp) ?_
    refine AllReadyH.cons (o := { dst := some 33, op := Go.Op.call { callee := Go.Callee.value (Go.Operand.func 14), args := #[Go.Operand.tmp 31, Go.Operand.tmp 32], argTypes := #[28, 3] }, type := 4, pos := "more.go:16", after := #[{ on := 0, ground := Go.Ground.data }, { on := 1, ground := Go.Ground.data }], guard := none }) rfl (fun K hK => ?_) ?_
    · go_simp
      (go_at_call 14; with_reducible refine (HH.out _).mono ?_; rintro e w5 ⟨rfl, hx⟩)
      go_wp2_with fail
      refine hK.out _ _ (Held.keep (by assumption) hx) (fun hHeld => ?_)
      clear hK K hx
      try simp only [Act.put, List.setIfInBounds_toArray, List.set_cons_zero, List.set_cons_succ]
      refine wpAnyH_take (i := 6) (oi := { dst := some 37, op := Go.Op.binOp Go.BinOp.eql 4 (Go.Operand.tmp 33) (Go.Operand.tmp 36) 4, type := 4, pos := "more.go:16", after := #[{ on := 2, ground := Go.Ground.data }, { on := 5, ground := Go.Ground.data }], guard := none }) (v := ?vb6) rfl (by kernel_rfl) (by kernel_rfl) (by kernel_rfl) (fun _ _ _ h => h) (Or.inl ⟨by rfl, ?yb6⟩) (by assumption) ?rb6
      case yb6 => (intro w hSw; clear hSw; go_simp; try with_reducible rfl)
      try simp only [Act.put, List.setIfInBounds_toArray, List.set_cons_zero, List.set_cons_succ]
      refine wpAnyH_take (i := 7) (oi := { dst := some 38, op := Go.Op.move (Go.Operand.tmp 37), type := 4, pos := "more.go:16", after := #[{ on := 6, ground := Go.Ground.data }, { on := 2, ground := Go.Ground.chain }], guard := none }) (v := ?vb7) rfl (by kernel_rfl) (by kernel_rfl) (by kernel_rfl) (fun _ _ _ h => h) (Or.inl ⟨by rfl, ?yb7⟩) (by assumption) ?rb7
      case yb7 => (intro w hSw; clear hSw; go_simp; try with_reducible rfl)
      try simp only [Act.put, List.setIfInBounds_toArray, List.set_cons_zero, List.set_cons_succ]
      refine wpAnyH_take (i := 8) (oi := { dst := some 39, op := Go.Op.load 28 (Go.Operand.tmp 9), type := 28, pos := "more.go:16", after := #[{ on := 7, ground := Go.Ground.guard }], guard := some (7, true) }) (v := .agg L.toArray) rfl (by kernel_rfl) (by kernel_rfl) (by kernel_rfl) (fun _ _ _ h => h) (yieldsIf_load_mid (by rfl) _ _ rfl _ _ rfl L _ (fun w h => h.at (by simp)) hu rfl hs1) (by assumption) ?_
      try simp only [Act.put, List.setIfInBounds_toArray, List.set_cons_zero, List.set_cons_succ]
      refine wpAnyH_take (i := 9) (oi := { dst := some 40, op := Go.Op.move (Go.Operand.tmp 8), type := 3, pos := "more.go:16", after := #[{ on := 7, ground := Go.Ground.guard }], guard := some (7, true) }) (v := ?vb9) rfl (by kernel_rfl) (by kernel_rfl) (by kernel_rfl) (fun _ _ _ h => h) (Or.inl ⟨by rfl, ?yb9⟩) (by assumption) ?rb9
      case yb9 => (intro w hSw; clear hSw; go_simp; try with_reducible rfl)
      try simp only [Act.put, List.setIfInBounds_toArray, List.set_cons_zero, List.set_cons_succ]
      refine wpAnyH_ready (rs := [10]) (by kernel_rfl) (by simp) ?_
      refine AllReadyH.cons (o := { dst := some 41, op := Go.Op.call { callee := Go.Callee.value (Go.Operand.func 14), args := #[Go.Operand.tmp 39, Go.Operand.tmp 40], argTypes := #[28, 3] }, type := 4, pos := "more.go:16", after := #[{ on := 8, ground := Go.Ground.data }, { on := 9, ground := Go.Ground.data }, { on := 7, ground := Go.Ground.chain }, { on := 7, ground := Go.Ground.guard }], guard := some (7, true) }) rfl (fun K hK => ?_) ?_
      · go_simp
        (go_at_call 14; with_reducible refine (HH.out _).mono ?_; rintro e w5 ⟨rfl, hx⟩)
        go_wp2_with fail
        refine hK.out _ _ (Held.keep (by assumption) hx) (fun hHeld => ?_)
        clear hK K hx
        try simp only [Act.put, List.setIfInBounds_toArray, List.set_cons_zero, List.set_cons_succ]
        refine wpAnyH_take (i := 11) (oi := { dst := some 42, op := Go.Op.unOp Go.UnOp.not 4 (Go.Operand.tmp 41), type := 4, pos := "more.go:16", after := #[{ on := 10, ground := Go.Ground.data }, { on := 7, ground := Go.Ground.guard }], guard := some (7, true) }) (v := ?vb10) rfl (by kernel_rfl) (by kernel_rfl) (by kernel_rfl) (fun _ _ _ h => h) (Or.inl ⟨by rfl, ?yb10⟩) (by assumption) ?rb10
        case yb10 => (intro w hSw; clear hSw; go_simp; try with_reducible rfl)
        try simp only [Act.put, List.setIfInBounds_toArray, List.set_cons_zero, List.set_cons_succ]
        refine wpAnyH_take (i := 12) (oi := { dst := some 43, op := Go.Op.move (Go.Operand.tmp 42), type := 4, pos := "more.go:16", after := #[{ on := 11, ground := Go.Ground.data }, { on := 10, ground := Go.Ground.chain }, { on := 7, ground := Go.Ground.guard }], guard := some (7, true) }) (v := ?vb11) rfl (by kernel_rfl) (by kernel_rfl) (by kernel_rfl) (fun _ _ _ h => h) (Or.inl ⟨by rfl, ?yb11⟩) (by assumption) ?rb11
        case yb11 => (intro w hSw; clear hSw; go_simp; try with_reducible rfl)
        try simp only [Act.put, List.setIfInBounds_toArray, List.set_cons_zero, List.set_cons_succ]
        refine wpAnyH_take (i := 13) (oi := { dst := some 44, op := Go.Op.load 28 (Go.Operand.tmp 10), type := 28, pos := "more.go:16", after := #[{ on := 12, ground := Go.Ground.guard }], guard := some (12, false) }) (v := undef) rfl (by kernel_rfl) (by kernel_rfl) (by kernel_rfl) (fun _ _ _ h => h) (Or.inr ⟨by rfl, rfl⟩) (by assumption) ?_
        try simp only [Act.put, List.setIfInBounds_toArray, List.set_cons_zero, List.set_cons_succ]
        refine wpAnyH_take (i := 14) (oi := { dst := some 45, op := Go.Op.move (Go.Operand.tmp 8), type := 3, pos := "more.go:16", after := #[{ on := 12, ground := Go.Ground.guard }], guard := some (12, false) }) (v := undef) rfl (by kernel_rfl) (by kernel_rfl) (by kernel_rfl) (fun _ _ _ h => h) (Or.inr ⟨by rfl, rfl⟩) (by assumption) ?_
        try simp only [Act.put, List.setIfInBounds_toArray, List.set_cons_zero, List.set_cons_succ]
        refine wpAnyH_take (i := 15) (oi := { dst := some 46, op := Go.Op.call { callee := Go.Callee.value (Go.Operand.func 14), args := #[Go.Operand.tmp 44, Go.Operand.tmp 45], argTypes := #[28, 3] }, type := 4, pos := "more.go:16", after := #[{ on := 13, ground := Go.Ground.data }, { on := 14, ground := Go.Ground.data }, { on := 12, ground := Go.Ground.chain }, { on := 12, ground := Go.Ground.guard }], guard := some (12, false) }) (v := undef) rfl (by kernel_rfl) (by kernel_rfl) (by kernel_rfl) (fun _ _ _ h => h) (Or.inr ⟨by rfl, rfl⟩) (by assumption) ?_
        try simp only [Act.put, List.setIfInBounds_toArray, List.set_cons_zero, List.set_cons_succ]
        refine wpAnyH_take (i := 16) (oi := { dst := some 47, op := Go.Op.pick (Go.Operand.tmp 43) (Go.Operand.const (Go.Value.bool true)) (Go.Operand.tmp 46), type := 4, pos := "more.go:16", after := #[{ on := 12, ground := Go.Ground.data }, { on := 15, ground := Go.Ground.data }, { on := 7, ground := Go.Ground.guard }], guard := some (7, true) }) (v := ?vb15) rfl (by kernel_rfl) (by kernel_rfl) (by kernel_rfl) (fun _ _ _ h => h) (Or.inl ⟨by rfl, ?yb15⟩) (by assumption) ?rb15
        case yb15 => (intro w hSw; clear hSw; go_simp; try with_reducible rfl)
        try simp only [Act.put, List.setIfInBounds_toArray, List.set_cons_zero, List.set_cons_succ]
        refine wpAnyH_take (i := 17) (oi := { dst := some 48, op := Go.Op.pick (Go.Operand.tmp 38) (Go.Operand.tmp 47) (Go.Operand.const (Go.Value.bool false)), type := 4, pos := "more.go:16", after := #[{ on := 7, ground := Go.Ground.data }, { on := 16, ground := Go.Ground.data }], guard := none }) (v := ?vb16) rfl (by kernel_rfl) (by kernel_rfl) (by kernel_rfl) (fun _ _ _ h => h) (Or.inl ⟨by rfl, ?yb16⟩) (by assumption) ?rb16
        case yb16 => (intro w hSw; clear hSw; go_simp; try with_reducible rfl)
        try simp only [Act.put, List.setIfInBounds_toArray, List.set_cons_zero, List.set_cons_succ]
        refine wpAnyH_take (i := 18) (oi := { dst := some 49, op := Go.Op.move (Go.Operand.tmp 48), type := 4, pos := "more.go:16", after := #[{ on := 17, ground := Go.Ground.data }, { on := 15, ground := Go.Ground.chain }], guard := none }) (v := ?vb17) rfl (by kernel_rfl) (by kernel_rfl) (by kernel_rfl) (fun _ _ _ h => h) (Or.inl ⟨by rfl, ?yb17⟩) (by assumption) ?rb17
        case yb17 => (intro w hSw; clear hSw; go_simp; try with_reducible rfl)
        try simp only [Act.put, List.setIfInBounds_toArray, List.set_cons_zero, List.set_cons_succ]
        refine wpAnyH_take (i := 19) (oi := { dst := some 50, op := Go.Op.load 28 (Go.Operand.tmp 9), type := 28, pos := "more.go:16", after := #[{ on := 18, ground := Go.Ground.guard }], guard := some (18, true) }) (v := .agg L.toArray) rfl (by kernel_rfl) (by kernel_rfl) (by kernel_rfl) (fun _ _ _ h => h) (yieldsIf_load_mid (by rfl) _ _ rfl _ _ rfl L _ (fun w h => h.at (by simp)) hu rfl hs1) (by assumption) ?_
        try simp only [Act.put, List.setIfInBounds_toArray, List.set_cons_zero, List.set_cons_succ]
        refine wpAnyH_take (i := 21) (oi := { dst := some 52, op := Go.Op.load 28 (Go.Operand.tmp 10), type := 28, pos := "more.go:16", after := #[{ on := 18, ground := Go.Ground.guard }], guard := some (18, true) }) (v := .agg L'.toArray) rfl (by kernel_rfl) (by kernel_rfl) (by kernel_rfl) (fun _ _ _ h => h) (yieldsIf_load_mid (by rfl) _ _ rfl _ _ rfl L' _ (fun w h => h.at (by simp)) hu rfl hs2) (by assumption) ?_
        try simp only [Act.put, List.setIfInBounds_toArray, List.set_cons_zero, List.set_cons_succ]
        refine wpAnyH_ready (rs := [20]) (by kernel_rfl) (by simp) ?_
        refine AllReadyH.cons (o := { dst := some 51, op := Go.Op.call { callee := Go.Callee.value (Go.Operand.func 13), args := #[Go.Operand.tmp 50], argTypes := #[28] }, type := 3, pos := "more.go:16", after := #[{ on := 19, ground := Go.Ground.data }, { on := 18, ground := Go.Ground.chain }, { on := 18, ground := Go.Ground.guard }], guard := some (18, true) }) rfl (fun K hK => ?_) ?_
        · go_simp
          (go_at_call 13; with_reducible refine (HC.out _).mono ?_; rintro e w5 ⟨rfl, hx⟩)
          go_wp2_with fail
          refine hK.out _ _ (Held.keep (by assumption) hx) (fun hHeld => ?_)
          clear hK K hx
          try simp only [Act.put, List.setIfInBounds_toArray, List.set_cons_zero, List.set_cons_succ]
          refine wpAnyH_ready (rs := [22]) (by kernel_rfl) (by simp) ?_
          refine AllReadyH.cons (o := { dst := some 53, op := Go.Op.call { callee := Go.Callee.value (Go.Operand.func 13), args := #[Go.Operand.tmp 52], argTypes := #[28] }, type := 3, pos := "more.go:16", after := #[{ on := 21, ground := Go.Ground.data }, { on := 20, ground := Go.Ground.chain }, { on := 18, ground := Go.Ground.guard }], guard := some (18, true) }) rfl (fun K hK => ?_) ?_
          · go_simp
            (go_at_call 13; with_reducible refine (HC'.out _).mono ?_; rintro e w5 ⟨rfl, hx⟩)
            go_wp2_with fail
            refine hK.out _ _ (Held.keep (by assumption) hx) (fun hHeld => ?_)
            clear hK K hx
            try simp only [Act.put, List.setIfInBounds_toArray, List.set_cons_zero, List.set_cons_succ]
            refine wpAnyH_take (i := 23) (oi := { dst := some 54, op := Go.Op.binOp Go.BinOp.leq 3 (Go.Operand.tmp 51) (Go.Operand.tmp 53) 3, type := 4, pos := "more.go:16", after := #[{ on := 20, ground := Go.Ground.data }, { on := 22, ground := Go.Ground.data }, { on := 18, ground := Go.Ground.guard }], guard := some (18, true) }) (v := ?vb20) rfl (by kernel_rfl) (by kernel_rfl) (by kernel_rfl) (fun _ _ _ h => h) (Or.inl ⟨by rfl, ?yb20⟩) (by assumption) ?rb20
            case yb20 => (intro w hSw; clear hSw; go_simp; try with_reducible rfl)
            try simp only [Act.put, List.setIfInBounds_toArray, List.set_cons_zero, List.set_cons_succ]
            refine wpAnyH_take (i := 24) (oi := { dst := some 55, op := Go.Op.pick (Go.Operand.tmp 49) (Go.Operand.tmp 54) (Go.Operand.const (Go.Value.bool false)), type := 4, pos := "more.go:16", after := #[{ on := 18, ground := Go.Ground.data }, { on := 23, ground := Go.Ground.data }], guard := none }) (v := ?vb21) rfl (by kernel_rfl) (by kernel_rfl) (by kernel_rfl) (fun _ _ _ h => h) (Or.inl ⟨by rfl, ?yb21⟩) (by assumption) ?rb21
            case yb21 => (intro w hSw; clear hSw; go_simp; try with_reducible rfl)
            try simp only [Act.put, List.setIfInBounds_toArray, List.set_cons_zero, List.set_cons_succ]
            refine wpAnyH_take (i := 25) (oi := { dst := some 6, op := Go.Op.assign (Go.Operand.tmp 55), type := 4, pos := "more.go:16", after := #[{ on := 24, ground := Go.Ground.data }, { on := 22, ground := Go.Ground.chain }, { on := 0, ground := Go.Ground.phase }, { on := 1, ground := Go.Ground.phase }, { on := 2, ground := Go.Ground.phase }, { on := 3, ground := Go.Ground.phase }, { on := 4, ground := Go.Ground.phase }, { on := 5, ground := Go.Ground.phase }, { on := 6, ground := Go.Ground.phase }, { on := 7, ground := Go.Ground.phase }, { on := 8, ground := Go.Ground.phase }, { on := 9, ground := Go.Ground.phase }, { on := 10, ground := Go.Ground.phase }, { on := 11, ground := Go.Ground.phase }, { on := 12, ground := Go.Ground.phase }, { on := 13, ground := Go.Ground.phase }, { on := 14, ground := Go.Ground.phase }, { on := 15, ground := Go.Ground.phase }, { on := 16, ground := Go.Ground.phase }, { on := 17, ground := Go.Ground.phase }, { on := 18, ground := Go.Ground.phase }, { on := 19, ground := Go.Ground.phase }, { on := 20, ground := Go.Ground.phase }, { on := 21, ground := Go.Ground.phase }, { on := 22, ground := Go.Ground.phase }, { on := 23, ground := Go.Ground.phase }, { on := 24, ground := Go.Ground.phase }], guard := none }) (v := ?vb22) rfl (by kernel_rfl) (by kernel_rfl) (by kernel_rfl) (fun _ _ _ h => h) (Or.inl ⟨by rfl, ?yb22⟩) (by assumption) ?rb22
            case yb22 => (intro w hSw; clear hSw; go_simp; try with_reducible rfl)
            try simp only [Act.put, List.setIfInBounds_toArray, List.set_cons_zero, List.set_cons_succ]
            refine wpAnyH_done (by kernel_rfl) ?_ _
            refine NoPanic.normal ?_
            go_wp2
            go_ret
            exact ⟨rfl, hHeld.2⟩
          exact AllReadyH.nil
        exact AllReadyH.nil
      exact AllReadyH.nil
    exact AllReadyH.nil
  · refine wpAnyH_take (i := 0) (oi := { dst := some 31, op := Go.Op.load 28 (Go.Operand.tmp 9), type := 28, pos := "more.go:16", after := #[], guard := none }) (v := .agg L.toArray) rfl (by kernel_rfl) (by kernel_rfl) (by kernel_rfl) (fun _ _ _ h => h) (yieldsIf_load_mid (by rfl) _ _ rfl _ _ rfl L _ (fun w h => h.at (by simp)) hu rfl hs1) (by assumption) ?_
    try simp only [Act.put, List.setIfInBounds_toArray, List.set_cons_zero, List.set_cons_succ]
    refine wpAnyH_take (i := 1) (oi := { dst := some 32, op := Go.Op.move (Go.Operand.tmp 8), type := 3, pos := "more.go:16", after := #[], guard := none }) (v := ?vc2) rfl (by kernel_rfl) (by kernel_rfl) (by kernel_rfl) (fun _ _ _ h => h) (Or.inl ⟨by rfl, ?yc2⟩) (by assumption) ?rc2
    case yc2 => (intro w hSw; clear hSw; go_simp; try with_reducible rfl)
    try simp only [Act.put, List.setIfInBounds_toArray, List.set_cons_zero, List.set_cons_succ]
    refine wpAnyH_take (i := 3) (oi := { dst := some 34, op := Go.Op.move (Go.Operand.tmp 8), type := 3, pos := "more.go:16", after := #[], guard := none }) (v := ?vc3) rfl (by kernel_rfl) (by kernel_rfl) (by kernel_rfl) (fun _ _ _ h => h) (Or.inl ⟨by rfl, ?yc3⟩) (by assumption) ?rc3
    case yc3 => (intro w hSw; clear hSw; go_simp; try with_reducible rfl)
    try simp only [Act.put, List.setIfInBounds_toArray, List.set_cons_zero, List.set_cons_succ]
    refine wpAnyH_take (i := 4) (oi := { dst := some 35, op := Go.Op.move (Go.Operand.tmp 1), type := 3, pos := "more.go:16", after := #[], guard := none }) (v := ?vc4) rfl (by kernel_rfl) (by kernel_rfl) (by kernel_rfl) (fun _ _ _ h => h) (Or.inl ⟨by rfl, ?yc4⟩) (by assumption) ?rc4
    case yc4 => (intro w hSw; clear hSw; go_simp; try with_reducible rfl)
    try simp only [Act.put, List.setIfInBounds_toArray, List.set_cons_zero, List.set_cons_succ]
    refine wpAnyH_take (i := 5) (oi := { dst := some 36, op := Go.Op.binOp Go.BinOp.lss 3 (Go.Operand.tmp 34) (Go.Operand.tmp 35) 3, type := 4, pos := "more.go:16", after := #[{ on := 3, ground := Go.Ground.data }, { on := 4, ground := Go.Ground.data }], guard := none }) (v := ?vc5) rfl (by kernel_rfl) (by kernel_rfl) (by kernel_rfl) (fun _ _ _ h => h) (Or.inl ⟨by rfl, ?yc5⟩) (by assumption) ?rc5
    case yc5 => (intro w hSw; clear hSw; go_simp; try with_reducible rfl)
    try simp only [Act.put, List.setIfInBounds_toArray, List.set_cons_zero, List.set_cons_succ]
    refine wpAnyH_ready (rs := [2]) (by kernel_rfl) (by simp) ?_
    refine AllReadyH.cons (o := { dst := some 33, op := Go.Op.call { callee := Go.Callee.value (Go.Operand.func 14), args := #[Go.Operand.tmp 31, Go.Operand.tmp 32], argTypes := #[28, 3] }, type := 4, pos := "more.go:16", after := #[{ on := 0, ground := Go.Ground.data }, { on := 1, ground := Go.Ground.data }], guard := none }) rfl (fun K hK => ?_) ?_
    · go_simp
      (go_at_call 14; with_reducible refine (HH.out _).mono ?_; rintro e w5 ⟨rfl, hx⟩)
      go_wp2_with fail
      refine hK.out _ _ (Held.keep (by assumption) hx) (fun hHeld => ?_)
      clear hK K hx
      try simp only [Act.put, List.setIfInBounds_toArray, List.set_cons_zero, List.set_cons_succ]
      refine wpAnyH_take (i := 6) (oi := { dst := some 37, op := Go.Op.binOp Go.BinOp.eql 4 (Go.Operand.tmp 33) (Go.Operand.tmp 36) 4, type := 4, pos := "more.go:16", after := #[{ on := 2, ground := Go.Ground.data }, { on := 5, ground := Go.Ground.data }], guard := none }) (v := ?vc6) rfl (by kernel_rfl) (by kernel_rfl) (by kernel_rfl) (fun _ _ _ h => h) (Or.inl ⟨by rfl, ?yc6⟩) (by assumption) ?rc6
      case yc6 => (intro w hSw; clear hSw; go_simp; try with_reducible rfl)
      try simp only [Act.put, List.setIfInBounds_toArray, List.set_cons_zero, List.set_cons_succ]
      refine wpAnyH_take (i := 7) (oi := { dst := some 38, op := Go.Op.move (Go.Operand.tmp 37), type := 4, pos := "more.go:16", after := #[{ on := 6, ground := Go.Ground.data }, { on := 2, ground := Go.Ground.chain }], guard := none }) (v := ?vc7) rfl (by kernel_rfl) (by kernel_rfl) (by kernel_rfl) (fun _ _ _ h => h) (Or.inl ⟨by rfl, ?yc7⟩) (by assumption) ?rc7
      case yc7 => (intro w hSw; clear hSw; go_simp; try with_reducible rfl)
      try simp only [Act.put, List.setIfInBounds_toArray, List.set_cons_zero, List.set_cons_succ]
      refine wpAnyH_take (i := 8) (oi := { dst := some 39, op := Go.Op.load 28 (Go.Operand.tmp 9), type := 28, pos := "more.go:16", after := #[{ on := 7, ground := Go.Ground.guard }], guard := some (7, true) }) (v := .agg L.toArray) rfl (by kernel_rfl) (by kernel_rfl) (by kernel_rfl) (fun _ _ _ h => h) (yieldsIf_load_mid (by rfl) _ _ rfl _ _ rfl L _ (fun w h => h.at (by simp)) hu rfl hs1) (by assumption) ?_
      try simp only [Act.put, List.setIfInBounds_toArray, List.set_cons_zero, List.set_cons_succ]
      refine wpAnyH_take (i := 9) (oi := { dst := some 40, op := Go.Op.move (Go.Operand.tmp 8), type := 3, pos := "more.go:16", after := #[{ on := 7, ground := Go.Ground.guard }], guard := some (7, true) }) (v := ?vc9) rfl (by kernel_rfl) (by kernel_rfl) (by kernel_rfl) (fun _ _ _ h => h) (Or.inl ⟨by rfl, ?yc9⟩) (by assumption) ?rc9
      case yc9 => (intro w hSw; clear hSw; go_simp; try with_reducible rfl)
      try simp only [Act.put, List.setIfInBounds_toArray, List.set_cons_zero, List.set_cons_succ]
      refine wpAnyH_ready (rs := [10]) (by kernel_rfl) (by simp) ?_
      refine AllReadyH.cons (o := { dst := some 41, op := Go.Op.call { callee := Go.Callee.value (Go.Operand.func 14), args := #[Go.Operand.tmp 39, Go.Operand.tmp 40], argTypes := #[28, 3] }, type := 4, pos := "more.go:16", after := #[{ on := 8, ground := Go.Ground.data }, { on := 9, ground := Go.Ground.data }, { on := 7, ground := Go.Ground.chain }, { on := 7, ground := Go.Ground.guard }], guard := some (7, true) }) rfl (fun K hK => ?_) ?_
      · go_simp
        (go_at_call 14; with_reducible refine (HH.out _).mono ?_; rintro e w5 ⟨rfl, hx⟩)
        go_wp2_with fail
        refine hK.out _ _ (Held.keep (by assumption) hx) (fun hHeld => ?_)
        clear hK K hx
        try simp only [Act.put, List.setIfInBounds_toArray, List.set_cons_zero, List.set_cons_succ]
        refine wpAnyH_take (i := 11) (oi := { dst := some 42, op := Go.Op.unOp Go.UnOp.not 4 (Go.Operand.tmp 41), type := 4, pos := "more.go:16", after := #[{ on := 10, ground := Go.Ground.data }, { on := 7, ground := Go.Ground.guard }], guard := some (7, true) }) (v := ?vc10) rfl (by kernel_rfl) (by kernel_rfl) (by kernel_rfl) (fun _ _ _ h => h) (Or.inl ⟨by rfl, ?yc10⟩) (by assumption) ?rc10
        case yc10 => (intro w hSw; clear hSw; go_simp; try with_reducible rfl)
        try simp only [Act.put, List.setIfInBounds_toArray, List.set_cons_zero, List.set_cons_succ]
        refine wpAnyH_take (i := 12) (oi := { dst := some 43, op := Go.Op.move (Go.Operand.tmp 42), type := 4, pos := "more.go:16", after := #[{ on := 11, ground := Go.Ground.data }, { on := 10, ground := Go.Ground.chain }, { on := 7, ground := Go.Ground.guard }], guard := some (7, true) }) (v := ?vc11) rfl (by kernel_rfl) (by kernel_rfl) (by kernel_rfl) (fun _ _ _ h => h) (Or.inl ⟨by rfl, ?yc11⟩) (by assumption) ?rc11
        case yc11 => (intro w hSw; clear hSw; go_simp; try with_reducible rfl)
        try simp only [Act.put, List.setIfInBounds_toArray, List.set_cons_zero, List.set_cons_succ]
        refine wpAnyH_take (i := 13) (oi := { dst := some 44, op := Go.Op.load 28 (Go.Operand.tmp 10), type := 28, pos := "more.go:16", after := #[{ on := 12, ground := Go.Ground.guard }], guard := some (12, false) }) (v := undef) rfl (by kernel_rfl) (by kernel_rfl) (by kernel_rfl) (fun _ _ _ h => h) (Or.inr ⟨by rfl, rfl⟩) (by assumption) ?_
        try simp only [Act.put, List.setIfInBounds_toArray, List.set_cons_zero, List.set_cons_succ]
        refine wpAnyH_take (i := 14) (oi := { dst := some 45, op := Go.Op.move (Go.Operand.tmp 8), type := 3, pos := "more.go:16", after := #[{ on := 12, ground := Go.Ground.guard }], guard := some (12, false) }) (v := undef) rfl (by kernel_rfl) (by kernel_rfl) (by kernel_rfl) (fun _ _ _ h => h) (Or.inr ⟨by rfl, rfl⟩) (by assumption) ?_
        try simp only [Act.put, List.setIfInBounds_toArray, List.set_cons_zero, List.set_cons_succ]
        refine wpAnyH_take (i := 15) (oi := { dst := some 46, op := Go.Op.call { callee := Go.Callee.value (Go.Operand.func 14), args := #[Go.Operand.tmp 44, Go.Operand.tmp 45], argTypes := #[28, 3] }, type := 4, pos := "more.go:16", after := #[{ on := 13, ground := Go.Ground.data }, { on := 14, ground := Go.Ground.data }, { on := 12, ground := Go.Ground.chain }, { on := 12, ground := Go.Ground.guard }], guard := some (12, false) }) (v := undef) rfl (by kernel_rfl) (by kernel_rfl) (by kernel_rfl) (fun _ _ _ h => h) (Or.inr ⟨by rfl, rfl⟩) (by assumption) ?_
        try simp only [Act.put, List.setIfInBounds_toArray, List.set_cons_zero, List.set_cons_succ]
        refine wpAnyH_take (i := 16) (oi := { dst := some 47, op := Go.Op.pick (Go.Operand.tmp 43) (Go.Operand.const (Go.Value.bool true)) (Go.Operand.tmp 46), type := 4, pos := "more.go:16", after := #[{ on := 12, ground := Go.Ground.data }, { on := 15, ground := Go.Ground.data }, { on := 7, ground := Go.Ground.guard }], guard := some (7, true) }) (v := ?vc15) rfl (by kernel_rfl) (by kernel_rfl) (by kernel_rfl) (fun _ _ _ h => h) (Or.inl ⟨by rfl, ?yc15⟩) (by assumption) ?rc15
        case yc15 => (intro w hSw; clear hSw; go_simp; try with_reducible rfl)
        try simp only [Act.put, List.setIfInBounds_toArray, List.set_cons_zero, List.set_cons_succ]
        refine wpAnyH_take (i := 17) (oi := { dst := some 48, op := Go.Op.pick (Go.Operand.tmp 38) (Go.Operand.tmp 47) (Go.Operand.const (Go.Value.bool false)), type := 4, pos := "more.go:16", after := #[{ on := 7, ground := Go.Ground.data }, { on := 16, ground := Go.Ground.data }], guard := none }) (v := ?vc16) rfl (by kernel_rfl) (by kernel_rfl) (by kernel_rfl) (fun _ _ _ h => h) (Or.inl ⟨by rfl, ?yc16⟩) (by assumption) ?rc16
        case yc16 => (intro w hSw; clear hSw; go_simp; try with_reducible rfl)
        try simp only [Act.put, List.setIfInBounds_toArray, List.set_cons_zero, List.set_cons_succ]
        refine wpAnyH_take (i := 18) (oi := { dst := some 49, op := Go.Op.move (Go.Operand.tmp 48), type := 4, pos := "more.go:16", after := #[{ on := 17, ground := Go.Ground.data }, { on := 15, ground := Go.Ground.chain }], guard := none }) (v := ?vc17) rfl (by kernel_rfl) (by kernel_rfl) (by kernel_rfl) (fun _ _ _ h => h) (Or.inl ⟨by rfl, ?yc17⟩) (by assumption) ?rc17
        case yc17 => (intro w hSw; clear hSw; go_simp; try with_reducible rfl)
        try simp only [Act.put, List.setIfInBounds_toArray, List.set_cons_zero, List.set_cons_succ]
        refine wpAnyH_take (i := 19) (oi := { dst := some 50, op := Go.Op.load 28 (Go.Operand.tmp 9), type := 28, pos := "more.go:16", after := #[{ on := 18, ground := Go.Ground.guard }], guard := some (18, true) }) (v := .agg L.toArray) rfl (by kernel_rfl) (by kernel_rfl) (by kernel_rfl) (fun _ _ _ h => h) (yieldsIf_load_mid (by rfl) _ _ rfl _ _ rfl L _ (fun w h => h.at (by simp)) hu rfl hs1) (by assumption) ?_
        try simp only [Act.put, List.setIfInBounds_toArray, List.set_cons_zero, List.set_cons_succ]
        refine wpAnyH_take (i := 21) (oi := { dst := some 52, op := Go.Op.load 28 (Go.Operand.tmp 10), type := 28, pos := "more.go:16", after := #[{ on := 18, ground := Go.Ground.guard }], guard := some (18, true) }) (v := .agg L'.toArray) rfl (by kernel_rfl) (by kernel_rfl) (by kernel_rfl) (fun _ _ _ h => h) (yieldsIf_load_mid (by rfl) _ _ rfl _ _ rfl L' _ (fun w h => h.at (by simp)) hu rfl hs2) (by assumption) ?_
        try simp only [Act.put, List.setIfInBounds_toArray, List.set_cons_zero, List.set_cons_succ]
        refine wpAnyH_ready (rs := [20]) (by kernel_rfl) (by simp) ?_
        refine AllReadyH.cons (o := { dst := some 51, op := Go.Op.call { callee := Go.Callee.value (Go.Operand.func 13), args := #[Go.Operand.tmp 50], argTypes := #[28] }, type := 3, pos := "more.go:16", after := #[{ on := 19, ground := Go.Ground.data }, { on := 18, ground := Go.Ground.chain }, { on := 18, ground := Go.Ground.guard }], guard := some (18, true) }) rfl (fun K hK => ?_) ?_
        · go_simp
          (go_at_call 13; with_reducible refine (HC.out _).mono ?_; rintro e w5 ⟨rfl, hx⟩)
          go_wp2_with fail
          refine hK.out _ _ (Held.keep (by assumption) hx) (fun hHeld => ?_)
          clear hK K hx
          try simp only [Act.put, List.setIfInBounds_toArray, List.set_cons_zero, List.set_cons_succ]
          refine wpAnyH_ready (rs := [22]) (by kernel_rfl) (by simp) ?_
          refine AllReadyH.cons (o := { dst := some 53, op := Go.Op.call { callee := Go.Callee.value (Go.Operand.func 13), args := #[Go.Operand.tmp 52], argTypes := #[28] }, type := 3, pos := "more.go:16", after := #[{ on := 21, ground := Go.Ground.data }, { on := 20, ground := Go.Ground.chain }, { on := 18, ground := Go.Ground.guard }], guard := some (18, true) }) rfl (fun K hK => ?_) ?_
          · go_simp
            (go_at_call 13; with_reducible refine (HC'.out _).mono ?_; rintro e w5 ⟨rfl, hx⟩)
            go_wp2_with fail
            refine hK.out _ _ (Held.keep (by assumption) hx) (fun hHeld => ?_)
            clear hK K hx
            try simp only [Act.put, List.setIfInBounds_toArray, List.set_cons_zero, List.set_cons_succ]
            refine wpAnyH_take (i := 23) (oi := { dst := some 54, op := Go.Op.binOp Go.BinOp.leq 3 (Go.Operand.tmp 51) (Go.Operand.tmp 53) 3, type := 4, pos := "more.go:16", after := #[{ on := 20, ground := Go.Ground.data }, { on := 22, ground := Go.Ground.data }, { on := 18, ground := Go.Ground.guard }], guard := some (18, true) }) (v := ?vc20) rfl (by kernel_rfl) (by kernel_rfl) (by kernel_rfl) (fun _ _ _ h => h) (Or.inl ⟨by rfl, ?yc20⟩) (by assumption) ?rc20
            case yc20 => (intro w hSw; clear hSw; go_simp; try with_reducible rfl)
            try simp only [Act.put, List.setIfInBounds_toArray, List.set_cons_zero, List.set_cons_succ]
            refine wpAnyH_take (i := 24) (oi := { dst := some 55, op := Go.Op.pick (Go.Operand.tmp 49) (Go.Operand.tmp 54) (Go.Operand.const (Go.Value.bool false)), type := 4, pos := "more.go:16", after := #[{ on := 18, ground := Go.Ground.data }, { on := 23, ground := Go.Ground.data }], guard := none }) (v := ?vc21) rfl (by kernel_rfl) (by kernel_rfl) (by kernel_rfl) (fun _ _ _ h => h) (Or.inl ⟨by rfl, ?yc21⟩) (by assumption) ?rc21
            case yc21 => (intro w hSw; clear hSw; go_simp; try with_reducible rfl)
            try simp only [Act.put, List.setIfInBounds_toArray, List.set_cons_zero, List.set_cons_succ]
            refine wpAnyH_take (i := 25) (oi := { dst := some 6, op := Go.Op.assign (Go.Operand.tmp 55), type := 4, pos := "more.go:16", after := #[{ on := 24, ground := Go.Ground.data }, { on := 22, ground := Go.Ground.chain }, { on := 0, ground := Go.Ground.phase }, { on := 1, ground := Go.Ground.phase }, { on := 2, ground := Go.Ground.phase }, { on := 3, ground := Go.Ground.phase }, { on := 4, ground := Go.Ground.phase }, { on := 5, ground := Go.Ground.phase }, { on := 6, ground := Go.Ground.phase }, { on := 7, ground := Go.Ground.phase }, { on := 8, ground := Go.Ground.phase }, { on := 9, ground := Go.Ground.phase }, { on := 10, ground := Go.Ground.phase }, { on := 11, ground := Go.Ground.phase }, { on := 12, ground := Go.Ground.phase }, { on := 13, ground := Go.Ground.phase }, { on := 14, ground := Go.Ground.phase }, { on := 15, ground := Go.Ground.phase }, { on := 16, ground := Go.Ground.phase }, { on := 17, ground := Go.Ground.phase }, { on := 18, ground := Go.Ground.phase }, { on := 19, ground := Go.Ground.phase }, { on := 20, ground := Go.Ground.phase }, { on := 21, ground := Go.Ground.phase }, { on := 22, ground := Go.Ground.phase }, { on := 23, ground := Go.Ground.phase }, { on := 24, ground := Go.Ground.phase }], guard := none }) (v := ?vc22) rfl (by kernel_rfl) (by kernel_rfl) (by kernel_rfl) (fun _ _ _ h => h) (Or.inl ⟨by rfl, ?yc22⟩) (by assumption) ?rc22
            case yc22 => (intro w hSw; clear hSw; go_simp; try with_reducible rfl)
            try simp only [Act.put, List.setIfInBounds_toArray, List.set_cons_zero, List.set_cons_succ]
            refine wpAnyH_done (by kernel_rfl) ?_ _
            refine NoPanic.normal ?_
            go_wp2
            go_ret
            exact ⟨rfl, hHeld.2⟩
          exact AllReadyH.nil
        exact AllReadyH.nil
      exact AllReadyH.nil
    exact AllReadyH.nil

end Go.Proofs.Ytilimmimidikcaa
