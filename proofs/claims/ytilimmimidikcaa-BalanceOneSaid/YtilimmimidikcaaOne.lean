/- The law of one bucket. -/
import Derived.Test.YtilimmimidikcaaMasks
namespace Go.Proofs.Ytilimmimidikcaa
open Go.ChangeShapes Go.WideShapes Go.ChangeAt Go.RowKit
set_option linter.unusedVariables false

set_option maxRecDepth 100000 in
set_option maxHeartbeats 2000000 in
theorem walk_BalanceOne (a0 : List Int) (a1 : ByteArray) (W : World) (m0 : okM a0) (w1 : a1.size ≤ maxLen) (z1 : a1.size ≤ 140737488351232) :
    Calls Try.prog 8 #[.agg (maskA a0), .string a1] W fun e w' => e = .returned (.bool true) ∧ Below W.heap.size W w' := by
  have hr := row_of m0
  have hrN := row_of (notB_ok m0)
  have hbk := fun w => bucket_any a1 w z1
  have hn0 : bucketV a1.data.toList < 256 := bucket_lt _
  generalize bucketV a1.data.toList = k at *
  have hhas := fun w => has_any a0 k w m0
  have hhas' := fun w => has_any (notB a0) k w (notB_ok m0)
  rw [has_not m0 hn0] at hhas'
  have hcount := fun w => count_any a0 w m0
  have hcount' := fun w => count_any (notB a0) w (notB_ok m0)
  have hsum := count_not m0
  have hnot := fun w => not_any a0 w m0
  have hnot' := fun w => not_any (notB a0) w (notB_ok m0)
  rw [not_not] at hnot'
  have hq := eq_mask m0
  have hA : maskA a0 = (a0.map (Value.int .u8)).toArray := rfl
  have hAN : maskA (notB a0) = ((notB a0).map (Value.int .u8)).toArray := rfl
  rw [hA] at hhas hcount hnot hnot' ⊢
  rw [hAN] at hhas' hcount' hnot hnot'
  clear hA hAN m0
  generalize (notB a0).map (Value.int .u8) = LN at *
  have hk1 : decide ((0 : Int) ≤ (k : Int)) = true := decide_eq_true (by omega)
  have hk2 : decide ((k : Int) < 256) = true := decide_eq_true (by omega)
  generalize hasV a0 k = h at *
  generalize (k : Int) = n at *
  generalize countV a0 = c at *
  generalize countV (notB a0) = c' at *
  generalize a0.map (Value.int .u8) = L at *
  have HR := Lib.hid hr
  have HRN := Lib.hid hrN
  have HH := Lib.hid hhas
  have HH' := Lib.hid hhas'
  have HC := Lib.hid hcount
  have HC' := Lib.hid hcount'
  have HN := Lib.hid hnot
  have HN' := Lib.hid hnot'
  have HQ := Lib.hid hq
  have HK := Lib.hid hbk
  have HS := Lib.hid hsum
  have HK1 := Lib.hid hk1
  have HK2 := Lib.hid hk2
  clear hr hrN hhas hhas' hcount hcount' hnot hnot' hq hbk hsum hk1 hk2
  have HB := Lib.hid (Blk.new W L.toArray 27)
  have HW := Lib.hid (lowA (Below.refl W.heap.size W) (.cells L.toArray 27))
  by_cases hl : 2000 < (a1.size : Int)
  · have HL := Lib.hid hl
    go_enter Try.func8, Try.ntmps8
    go_wp2_with (first | (go_at_call 9; refine (awake_any _).mono ?_; rintro e w1 ⟨rfl, hx⟩; have HB2 := Lib.hid (HB.out.keep hx); have Hx1 := Lib.hid hx; clear hx))
    go_ret
    exact ⟨rfl, low HW.out Hx1.out⟩
  cases h
  all_goals
    simp only [Bool.not_true, Bool.not_false] at HH'
    go_enter Try.func8, Try.ntmps8
    go_wp2_with (first
      | (go_at_call 9; refine (awake_any _).mono ?_; rintro e w1 ⟨rfl, hx⟩; have HB2 := Lib.hid (HB.out.keep hx); have Hx1 := Lib.hid hx; clear hx)
      | (refine wpList_load_row rfl 27 _ rfl W.heap.size rfl _ _ _ _ HB2.out Try.underlying27 rfl HR.out.size2 ?_)
      | (refine wpList_alloc_store rfl rfl 28 6 _ rfl rfl rfl zeroM L.toArray zero_mask rfl rfl HR.out.size HR.out.zero HR.out.one ?_; have HX := Lib.hid (Blk.new w1 L.toArray 28); have HB3 := Lib.hid (HB2.out.alloc (.cells L.toArray 28)))
      | (go_at_call 10; with_reducible refine (HK.out _).mono ?_; rintro e w2 ⟨rfl, rfl⟩)
      | (refine wpList_load_row rfl 28 _ rfl w1.heap.size rfl _ _ _ _ HX.out Try.underlying28 rfl HR.out.size ?_)
      | (go_at_call 15; with_reducible refine (HN.out _).mono ?_; rintro e w3 ⟨rfl, hx⟩; have HX4 := Lib.hid (HX.out.keep hx); have Hx3 := Lib.hid hx; clear hx)
      | (refine wpList_alloc_store rfl rfl 28 8 _ rfl rfl rfl zeroM LN.toArray zero_mask rfl rfl HRN.out.size HRN.out.zero HRN.out.one ?_; have HN2 := Lib.hid (Blk.new w3 LN.toArray 28); have HX5 := Lib.hid (HX4.out.alloc (.cells LN.toArray 28))))
    have hh := ((Held.nil (lowA (low (lowA (low HW.out Hx1.out) (.cells L.toArray 28)) Hx3.out) (.cells LN.toArray 28))).cons HX5.out).cons HN2.out
    have HH0 := Lib.hid hh
    have hs1 := len_of HR.out.size
    have hsN := len_of HRN.out.size
    have hgd := eq_guard
    have hq := HQ.out
    have hk1 := HK1.out
    have hk2 := HK2.out
    have hsum : IntKind.i64.wrap (c + c') = 256 := by rw [HS.out]; rfl
    clear hh HB HB2 HB3 HX HX4 HX5 HN2 Hx1 Hx3 HW
    generalize (w3.alloc (.cells LN.toArray 28)) = w4 at *
    generalize w1.heap.size = g1 at *
    generalize w3.heap.size = g3 at *
    refine wp_region_noPanic ?_
    refine wp_region_held_drew (S := Held W [(g3, LN), (g1, L)]) (by kernel_rfl) HH0.out.drew (fun hHeld => ?_)
    clear HH0
  · refine wpAnyH_take (i := 0) (oi := { dst := some 23, op := Go.Op.move (Go.Operand.tmp 7), type := 3, pos := "law.go:42", after := #[], guard := none }) (v := ?vp1) rfl (by kernel_rfl) (by kernel_rfl) (by kernel_rfl) (fun _ _ _ h => h) (Or.inl ⟨by rfl, ?yp1⟩) (by assumption) ?rp1
    case yp1 => (intro w hSw; clear hSw; go_simp; try with_reducible rfl)
    try simp only [Act.put, List.setIfInBounds_toArray, List.set_cons_zero, List.set_cons_succ]
    refine wpAnyH_take (i := 1) (oi := { dst := some 24, op := Go.Op.binOp Go.BinOp.geq 3 (Go.Operand.tmp 23) (Go.Operand.const (Go.Value.int Go.IntKind.i64 0)) 3, type := 4, pos := "law.go:42", after := #[{ on := 0, ground := Go.Ground.data }], guard := none }) (v := ?vp2) rfl (by kernel_rfl) (by kernel_rfl) (by kernel_rfl) (fun _ _ _ h => h) (Or.inl ⟨by rfl, ?yp2⟩) (by assumption) ?rp2
    case yp2 => (intro w hSw; clear hSw; go_simp; try with_reducible rfl)
    try simp only [Act.put, List.setIfInBounds_toArray, List.set_cons_zero, List.set_cons_succ]
    refine wpAnyH_take (i := 2) (oi := { dst := some 25, op := Go.Op.move (Go.Operand.tmp 24), type := 4, pos := "law.go:42", after := #[{ on := 1, ground := Go.Ground.data }], guard := none }) (v := ?vp3) rfl (by kernel_rfl) (by kernel_rfl) (by kernel_rfl) (fun _ _ _ h => h) (Or.inl ⟨by rfl, ?yp3⟩) (by assumption) ?rp3
    case yp3 => (intro w hSw; clear hSw; go_simp; try with_reducible rfl)
    try simp only [Act.put, List.setIfInBounds_toArray, List.set_cons_zero, List.set_cons_succ]
    refine wpAnyH_take (i := 3) (oi := { dst := some 26, op := Go.Op.move (Go.Operand.tmp 7), type := 3, pos := "law.go:42", after := #[{ on := 2, ground := Go.Ground.guard }], guard := some (2, true) }) (v := ?vp4) rfl (by kernel_rfl) (by kernel_rfl) (by kernel_rfl) (fun _ _ _ h => h) (Or.inl ⟨by rfl, ?yp4⟩) (by assumption) ?rp4
    case yp4 => (intro w hSw; clear hSw; go_simp; try with_reducible rfl)
    try simp only [Act.put, List.setIfInBounds_toArray, List.set_cons_zero, List.set_cons_succ]
    refine wpAnyH_take (i := 4) (oi := { dst := some 27, op := Go.Op.binOp Go.BinOp.lss 3 (Go.Operand.tmp 26) (Go.Operand.const (Go.Value.int Go.IntKind.i64 256)) 3, type := 4, pos := "law.go:42", after := #[{ on := 3, ground := Go.Ground.data }, { on := 2, ground := Go.Ground.guard }], guard := some (2, true) }) (v := ?vp5) rfl (by kernel_rfl) (by kernel_rfl) (by kernel_rfl) (fun _ _ _ h => h) (Or.inl ⟨by rfl, ?yp5⟩) (by assumption) ?rp5
    case yp5 => (intro w hSw; clear hSw; go_simp; try with_reducible rfl)
    try simp only [Act.put, List.setIfInBounds_toArray, List.set_cons_zero, List.set_cons_succ]
    refine wpAnyH_take (i := 5) (oi := { dst := some 28, op := Go.Op.pick (Go.Operand.tmp 25) (Go.Operand.tmp 27) (Go.Operand.const (Go.Value.bool false)), type := 4, pos := "law.go:42", after := #[{ on := 2, ground := Go.Ground.data }, { on := 4, ground := Go.Ground.data }], guard := none }) (v := ?vp6) rfl (by kernel_rfl) (by kernel_rfl) (by kernel_rfl) (fun _ _ _ h => h) (Or.inl ⟨by rfl, ?yp6⟩) (by assumption) ?rp6
    case yp6 => (intro w hSw; clear hSw; go_simp; try with_reducible rfl)
    try simp only [Act.put, List.setIfInBounds_toArray, List.set_cons_zero, List.set_cons_succ]
    refine wpAnyH_take (i := 6) (oi := { dst := some 29, op := Go.Op.move (Go.Operand.tmp 28), type := 4, pos := "law.go:42", after := #[{ on := 5, ground := Go.Ground.data }, { on := 2, ground := Go.Ground.chain }], guard := none }) (v := ?vp7) rfl (by kernel_rfl) (by kernel_rfl) (by kernel_rfl) (fun _ _ _ h => h) (Or.inl ⟨by rfl, ?yp7⟩) (by assumption) ?rp7
    case yp7 => (intro w hSw; clear hSw; go_simp; try with_reducible rfl)
    try simp only [Act.put, List.setIfInBounds_toArray, List.set_cons_zero, List.set_cons_succ]
    refine wpAnyH_take (i := 7) (oi := { dst := some 30, op := Go.Op.load 28 (Go.Operand.tmp 6), type := 28, pos := "law.go:42", after := #[{ on := 6, ground := Go.Ground.guard }], guard := some (6, true) }) (v := .agg L.toArray) rfl (by kernel_rfl) (by kernel_rfl) (by kernel_rfl) (fun _ _ _ h => h) (yieldsIf_load_mid (by rfl) _ _ rfl _ _ rfl L _ (fun w h => h.at (by simp)) Try.underlying28 rfl hs1) (by assumption) ?_
    try simp only [Act.put, List.setIfInBounds_toArray, List.set_cons_zero, List.set_cons_succ]
    refine wpAnyH_take (i := 8) (oi := { dst := some 31, op := Go.Op.move (Go.Operand.tmp 7), type := 3, pos := "law.go:42", after := #[{ on := 6, ground := Go.Ground.guard }], guard := some (6, true) }) (v := ?vp9) rfl (by kernel_rfl) (by kernel_rfl) (by kernel_rfl) (fun _ _ _ h => h) (Or.inl ⟨by rfl, ?yp9⟩) (by assumption) ?rp9
    case yp9 => (intro w hSw; clear hSw; go_simp; try with_reducible rfl)
    try simp only [Act.put, List.setIfInBounds_toArray, List.set_cons_zero, List.set_cons_succ]
    refine wpAnyH_take (i := 10) (oi := { dst := some 33, op := Go.Op.load 28 (Go.Operand.tmp 8), type := 28, pos := "law.go:42", after := #[{ on := 6, ground := Go.Ground.guard }], guard := some (6, true) }) (v := .agg LN.toArray) rfl (by kernel_rfl) (by kernel_rfl) (by kernel_rfl) (fun _ _ _ h => h) (yieldsIf_load_mid (by rfl) _ _ rfl _ _ rfl LN _ (fun w h => h.at (by simp)) Try.underlying28 rfl hsN) (by assumption) ?_
    try simp only [Act.put, List.setIfInBounds_toArray, List.set_cons_zero, List.set_cons_succ]
    refine wpAnyH_take (i := 11) (oi := { dst := some 34, op := Go.Op.move (Go.Operand.tmp 7), type := 3, pos := "law.go:42", after := #[{ on := 6, ground := Go.Ground.guard }], guard := some (6, true) }) (v := ?vp11) rfl (by kernel_rfl) (by kernel_rfl) (by kernel_rfl) (fun _ _ _ h => h) (Or.inl ⟨by rfl, ?yp11⟩) (by assumption) ?rp11
    case yp11 => (intro w hSw; clear hSw; go_simp; try with_reducible rfl)
    try simp only [Act.put, List.setIfInBounds_toArray, List.set_cons_zero, List.set_cons_succ]
    refine wpAnyH_ready (rs := [9]) (by kernel_rfl) (by simp) ?_
    refine AllReadyH.cons (o := { dst := some 32, op := Go.Op.call { callee := Go.Callee.value (Go.Operand.func 14), args := #[Go.Operand.tmp 30, Go.Operand.tmp 31], argTypes := #[28, 3] }, type := 4, pos := "law.go:42", after := #[{ on := 7, ground := Go.Ground.data }, { on := 8, ground := Go.Ground.data }, { on := 6, ground := Go.Ground.chain }, { on := 6, ground := Go.Ground.guard }], guard := some (6, true) }) rfl (fun K hK => ?_) ?_
    · go_simp
      (go_at_call 14; with_reducible refine (HH.out _).mono ?_; rintro e w5 ⟨rfl, hx⟩)
      go_wp2_with fail
      refine hK.out _ _ (Held.keep (by assumption) hx) (fun hHeld => ?_)
      clear hK K hx
      try simp only [Act.put, List.setIfInBounds_toArray, List.set_cons_zero, List.set_cons_succ]
      refine wpAnyH_ready (rs := [12]) (by kernel_rfl) (by simp) ?_
      refine AllReadyH.cons (o := { dst := some 35, op := Go.Op.call { callee := Go.Callee.value (Go.Operand.func 14), args := #[Go.Operand.tmp 33, Go.Operand.tmp 34], argTypes := #[28, 3] }, type := 4, pos := "law.go:42", after := #[{ on := 10, ground := Go.Ground.data }, { on := 11, ground := Go.Ground.data }, { on := 9, ground := Go.Ground.chain }, { on := 6, ground := Go.Ground.guard }], guard := some (6, true) }) rfl (fun K hK => ?_) ?_
      · go_simp
        (go_at_call 14; with_reducible refine (HH'.out _).mono ?_; rintro e w5 ⟨rfl, hx⟩)
        go_wp2_with fail
        refine hK.out _ _ (Held.keep (by assumption) hx) (fun hHeld => ?_)
        clear hK K hx
        try simp only [Act.put, List.setIfInBounds_toArray, List.set_cons_zero, List.set_cons_succ]
        refine wpAnyH_take (i := 13) (oi := { dst := some 36, op := Go.Op.binOp Go.BinOp.neq 4 (Go.Operand.tmp 32) (Go.Operand.tmp 35) 4, type := 4, pos := "law.go:42", after := #[{ on := 9, ground := Go.Ground.data }, { on := 12, ground := Go.Ground.data }, { on := 6, ground := Go.Ground.guard }], guard := some (6, true) }) (v := ?vp12) rfl (by kernel_rfl) (by kernel_rfl) (by kernel_rfl) (fun _ _ _ h => h) (Or.inl ⟨by rfl, ?yp12⟩) (by assumption) ?rp12
        case yp12 => (intro w hSw; clear hSw; go_simp; try with_reducible rfl)
        try simp only [Act.put, List.setIfInBounds_toArray, List.set_cons_zero, List.set_cons_succ]
        refine wpAnyH_take (i := 14) (oi := { dst := some 37, op := Go.Op.pick (Go.Operand.tmp 29) (Go.Operand.tmp 36) (Go.Operand.const (Go.Value.bool false)), type := 4, pos := "law.go:42", after := #[{ on := 6, ground := Go.Ground.data }, { on := 13, ground := Go.Ground.data }], guard := none }) (v := ?vp13) rfl (by kernel_rfl) (by kernel_rfl) (by kernel_rfl) (fun _ _ _ h => h) (Or.inl ⟨by rfl, ?yp13⟩) (by assumption) ?rp13
        case yp13 => (intro w hSw; clear hSw; go_simp; try with_reducible rfl)
        try simp only [Act.put, List.setIfInBounds_toArray, List.set_cons_zero, List.set_cons_succ]
        refine wpAnyH_take (i := 15) (oi := { dst := some 38, op := Go.Op.move (Go.Operand.tmp 37), type := 4, pos := "law.go:42", after := #[{ on := 14, ground := Go.Ground.data }, { on := 12, ground := Go.Ground.chain }], guard := none }) (v := ?vp14) rfl (by kernel_rfl) (by kernel_rfl) (by kernel_rfl) (fun _ _ _ h => h) (Or.inl ⟨by rfl, ?yp14⟩) (by assumption) ?rp14
        case yp14 => (intro w hSw; clear hSw; go_simp; try with_reducible rfl)
        try simp only [Act.put, List.setIfInBounds_toArray, List.set_cons_zero, List.set_cons_succ]
        refine wpAnyH_take (i := 16) (oi := { dst := some 39, op := Go.Op.load 28 (Go.Operand.tmp 6), type := 28, pos := "law.go:42", after := #[{ on := 15, ground := Go.Ground.guard }], guard := some (15, true) }) (v := .agg L.toArray) rfl (by kernel_rfl) (by kernel_rfl) (by kernel_rfl) (fun _ _ _ h => h) (yieldsIf_load_mid (by rfl) _ _ rfl _ _ rfl L _ (fun w h => h.at (by simp)) Try.underlying28 rfl hs1) (by assumption) ?_
        try simp only [Act.put, List.setIfInBounds_toArray, List.set_cons_zero, List.set_cons_succ]
        refine wpAnyH_take (i := 18) (oi := { dst := some 41, op := Go.Op.load 28 (Go.Operand.tmp 8), type := 28, pos := "law.go:42", after := #[{ on := 15, ground := Go.Ground.guard }], guard := some (15, true) }) (v := .agg LN.toArray) rfl (by kernel_rfl) (by kernel_rfl) (by kernel_rfl) (fun _ _ _ h => h) (yieldsIf_load_mid (by rfl) _ _ rfl _ _ rfl LN _ (fun w h => h.at (by simp)) Try.underlying28 rfl hsN) (by assumption) ?_
        try simp only [Act.put, List.setIfInBounds_toArray, List.set_cons_zero, List.set_cons_succ]
        refine wpAnyH_ready (rs := [17]) (by kernel_rfl) (by simp) ?_
        refine AllReadyH.cons (o := { dst := some 40, op := Go.Op.call { callee := Go.Callee.value (Go.Operand.func 13), args := #[Go.Operand.tmp 39], argTypes := #[28] }, type := 3, pos := "law.go:42", after := #[{ on := 16, ground := Go.Ground.data }, { on := 15, ground := Go.Ground.chain }, { on := 15, ground := Go.Ground.guard }], guard := some (15, true) }) rfl (fun K hK => ?_) ?_
        · go_simp
          (go_at_call 13; with_reducible refine (HC.out _).mono ?_; rintro e w5 ⟨rfl, hx⟩)
          go_wp2_with fail
          refine hK.out _ _ (Held.keep (by assumption) hx) (fun hHeld => ?_)
          clear hK K hx
          try simp only [Act.put, List.setIfInBounds_toArray, List.set_cons_zero, List.set_cons_succ]
          refine wpAnyH_ready (rs := [19]) (by kernel_rfl) (by simp) ?_
          refine AllReadyH.cons (o := { dst := some 42, op := Go.Op.call { callee := Go.Callee.value (Go.Operand.func 13), args := #[Go.Operand.tmp 41], argTypes := #[28] }, type := 3, pos := "law.go:42", after := #[{ on := 18, ground := Go.Ground.data }, { on := 17, ground := Go.Ground.chain }, { on := 15, ground := Go.Ground.guard }], guard := some (15, true) }) rfl (fun K hK => ?_) ?_
          · go_simp
            (go_at_call 13; with_reducible refine (HC'.out _).mono ?_; rintro e w5 ⟨rfl, hx⟩)
            go_wp2_with fail
            refine hK.out _ _ (Held.keep (by assumption) hx) (fun hHeld => ?_)
            clear hK K hx
            try simp only [Act.put, List.setIfInBounds_toArray, List.set_cons_zero, List.set_cons_succ]
            refine wpAnyH_take (i := 20) (oi := { dst := some 43, op := Go.Op.binOp Go.BinOp.add 3 (Go.Operand.tmp 40) (Go.Operand.tmp 42) 3, type := 3, pos := "law.go:42", after := #[{ on := 17, ground := Go.Ground.data }, { on := 19, ground := Go.Ground.data }, { on := 15, ground := Go.Ground.guard }], guard := some (15, true) }) (v := ?vp17) rfl (by kernel_rfl) (by kernel_rfl) (by kernel_rfl) (fun _ _ _ h => h) (Or.inl ⟨by rfl, ?yp17⟩) (by assumption) ?rp17
            case yp17 => (intro w hSw; clear hSw; go_simp; try with_reducible rfl)
            try simp only [Act.put, List.setIfInBounds_toArray, List.set_cons_zero, List.set_cons_succ]
            refine wpAnyH_take (i := 21) (oi := { dst := some 44, op := Go.Op.binOp Go.BinOp.eql 3 (Go.Operand.tmp 43) (Go.Operand.const (Go.Value.int Go.IntKind.i64 256)) 3, type := 4, pos := "law.go:42", after := #[{ on := 20, ground := Go.Ground.data }, { on := 15, ground := Go.Ground.guard }], guard := some (15, true) }) (v := ?vp18) rfl (by kernel_rfl) (by kernel_rfl) (by kernel_rfl) (fun _ _ _ h => h) (Or.inl ⟨by rfl, ?yp18⟩) (by assumption) ?rp18
            case yp18 => (intro w hSw; clear hSw; go_simp; try with_reducible rfl)
            try simp only [Act.put, List.setIfInBounds_toArray, List.set_cons_zero, List.set_cons_succ]
            refine wpAnyH_take (i := 22) (oi := { dst := some 45, op := Go.Op.pick (Go.Operand.tmp 38) (Go.Operand.tmp 44) (Go.Operand.const (Go.Value.bool false)), type := 4, pos := "law.go:42", after := #[{ on := 15, ground := Go.Ground.data }, { on := 21, ground := Go.Ground.data }], guard := none }) (v := ?vp19) rfl (by kernel_rfl) (by kernel_rfl) (by kernel_rfl) (fun _ _ _ h => h) (Or.inl ⟨by rfl, ?yp19⟩) (by assumption) ?rp19
            case yp19 => (intro w hSw; clear hSw; go_simp; try with_reducible rfl)
            try simp only [Act.put, List.setIfInBounds_toArray, List.set_cons_zero, List.set_cons_succ]
            refine wpAnyH_take (i := 23) (oi := { dst := some 46, op := Go.Op.move (Go.Operand.tmp 45), type := 4, pos := "law.go:42", after := #[{ on := 22, ground := Go.Ground.data }, { on := 19, ground := Go.Ground.chain }], guard := none }) (v := ?vp20) rfl (by kernel_rfl) (by kernel_rfl) (by kernel_rfl) (fun _ _ _ h => h) (Or.inl ⟨by rfl, ?yp20⟩) (by assumption) ?rp20
            case yp20 => (intro w hSw; clear hSw; go_simp; try with_reducible rfl)
            try simp only [Act.put, List.setIfInBounds_toArray, List.set_cons_zero, List.set_cons_succ]
            refine wpAnyH_take (i := 24) (oi := { dst := some 47, op := Go.Op.load 28 (Go.Operand.tmp 8), type := 28, pos := "law.go:42", after := #[{ on := 23, ground := Go.Ground.guard }], guard := some (23, true) }) (v := .agg LN.toArray) rfl (by kernel_rfl) (by kernel_rfl) (by kernel_rfl) (fun _ _ _ h => h) (yieldsIf_load_mid (by rfl) _ _ rfl _ _ rfl LN _ (fun w h => h.at (by simp)) Try.underlying28 rfl hsN) (by assumption) ?_
            try simp only [Act.put, List.setIfInBounds_toArray, List.set_cons_zero, List.set_cons_succ]
            refine wpAnyH_take (i := 26) (oi := { dst := some 49, op := Go.Op.load 28 (Go.Operand.tmp 6), type := 28, pos := "law.go:42", after := #[{ on := 23, ground := Go.Ground.guard }], guard := some (23, true) }) (v := .agg L.toArray) rfl (by kernel_rfl) (by kernel_rfl) (by kernel_rfl) (fun _ _ _ h => h) (yieldsIf_load_mid (by rfl) _ _ rfl _ _ rfl L _ (fun w h => h.at (by simp)) Try.underlying28 rfl hs1) (by assumption) ?_
            try simp only [Act.put, List.setIfInBounds_toArray, List.set_cons_zero, List.set_cons_succ]
            refine wpAnyH_ready (rs := [25]) (by kernel_rfl) (by simp) ?_
            refine AllReadyH.cons (o := { dst := some 48, op := Go.Op.call { callee := Go.Callee.value (Go.Operand.func 15), args := #[Go.Operand.tmp 47], argTypes := #[28] }, type := 28, pos := "law.go:42", after := #[{ on := 24, ground := Go.Ground.data }, { on := 23, ground := Go.Ground.chain }, { on := 23, ground := Go.Ground.guard }], guard := some (23, true) }) rfl (fun K hK => ?_) ?_
            · go_simp
              (go_at_call 15; with_reducible refine (HN'.out _).mono ?_; rintro e w5 ⟨rfl, hx⟩)
              go_wp2_with fail
              refine hK.out _ _ (Held.keep (by assumption) hx) (fun hHeld => ?_)
              clear hK K hx
              try simp only [Act.put, List.setIfInBounds_toArray, List.set_cons_zero, List.set_cons_succ]
              refine wpAnyH_take (i := 27) (oi := { dst := some 50, op := Go.Op.binOp Go.BinOp.eql 28 (Go.Operand.tmp 48) (Go.Operand.tmp 49) 28, type := 4, pos := "law.go:42", after := #[{ on := 25, ground := Go.Ground.data }, { on := 26, ground := Go.Ground.data }, { on := 23, ground := Go.Ground.guard }], guard := some (23, true) }) (v := ?vp23) rfl (by kernel_rfl) (by kernel_rfl) (by kernel_rfl) (fun _ _ _ h => h) (Or.inl ⟨by rfl, ?yp23⟩) (by assumption) ?rp23
              case yp23 => (intro w hSw; clear hSw; go_simp; try with_reducible rfl)
              try simp only [Act.put, List.setIfInBounds_toArray, List.set_cons_zero, List.set_cons_succ]
              refine wpAnyH_take (i := 28) (oi := { dst := some 51, op := Go.Op.pick (Go.Operand.tmp 46) (Go.Operand.tmp 50) (Go.Operand.const (Go.Value.bool false)), type := 4, pos := "law.go:42", after := #[{ on := 23, ground := Go.Ground.data }, { on := 27, ground := Go.Ground.data }], guard := none }) (v := ?vp24) rfl (by kernel_rfl) (by kernel_rfl) (by kernel_rfl) (fun _ _ _ h => h) (Or.inl ⟨by rfl, ?yp24⟩) (by assumption) ?rp24
              case yp24 => (intro w hSw; clear hSw; go_simp; try with_reducible rfl)
              try simp only [Act.put, List.setIfInBounds_toArray, List.set_cons_zero, List.set_cons_succ]
              refine wpAnyH_take (i := 29) (oi := { dst := some 4, op := Go.Op.assign (Go.Operand.tmp 51), type := 4, pos := "law.go:42", after := #[{ on := 28, ground := Go.Ground.data }, { on := 25, ground := Go.Ground.chain }, { on := 0, ground := Go.Ground.phase }, { on := 1, ground := Go.Ground.phase }, { on := 2, ground := Go.Ground.phase }, { on := 3, ground := Go.Ground.phase }, { on := 4, ground := Go.Ground.phase }, { on := 5, ground := Go.Ground.phase }, { on := 6, ground := Go.Ground.phase }, { on := 7, ground := Go.Ground.phase }, { on := 8, ground := Go.Ground.phase }, { on := 9, ground := Go.Ground.phase }, { on := 10, ground := Go.Ground.phase }, { on := 11, ground := Go.Ground.phase }, { on := 12, ground := Go.Ground.phase }, { on := 13, ground := Go.Ground.phase }, { on := 14, ground := Go.Ground.phase }, { on := 15, ground := Go.Ground.phase }, { on := 16, ground := Go.Ground.phase }, { on := 17, ground := Go.Ground.phase }, { on := 18, ground := Go.Ground.phase }, { on := 19, ground := Go.Ground.phase }, { on := 20, ground := Go.Ground.phase }, { on := 21, ground := Go.Ground.phase }, { on := 22, ground := Go.Ground.phase }, { on := 23, ground := Go.Ground.phase }, { on := 24, ground := Go.Ground.phase }, { on := 25, ground := Go.Ground.phase }, { on := 26, ground := Go.Ground.phase }, { on := 27, ground := Go.Ground.phase }, { on := 28, ground := Go.Ground.phase }], guard := none }) (v := ?vp25) rfl (by kernel_rfl) (by kernel_rfl) (by kernel_rfl) (fun _ _ _ h => h) (Or.inl ⟨by rfl, ?yp25⟩) (by assumption) ?rp25
              case yp25 => (intro w hSw; clear hSw; go_simp; try with_reducible rfl)
              try simp only [Act.put, List.setIfInBounds_toArray, List.set_cons_zero, List.set_cons_succ]
              refine wpAnyH_done (by kernel_rfl) ?_ _
              refine NoPanic.normal ?_
              go_wp2
              go_ret
              exact ⟨rfl, hHeld.2⟩
            exact AllReadyH.nil
          exact AllReadyH.nil
        exact AllReadyH.nil
      exact AllReadyH.nil
    exact AllReadyH.nil
  · refine wpAnyH_take (i := 0) (oi := { dst := some 23, op := Go.Op.move (Go.Operand.tmp 7), type := 3, pos := "law.go:42", after := #[], guard := none }) (v := ?vq1) rfl (by kernel_rfl) (by kernel_rfl) (by kernel_rfl) (fun _ _ _ h => h) (Or.inl ⟨by rfl, ?yq1⟩) (by assumption) ?rq1
    case yq1 => (intro w hSw; clear hSw; go_simp; try with_reducible rfl)
    try simp only [Act.put, List.setIfInBounds_toArray, List.set_cons_zero, List.set_cons_succ]
    refine wpAnyH_take (i := 1) (oi := { dst := some 24, op := Go.Op.binOp Go.BinOp.geq 3 (Go.Operand.tmp 23) (Go.Operand.const (Go.Value.int Go.IntKind.i64 0)) 3, type := 4, pos := "law.go:42", after := #[{ on := 0, ground := Go.Ground.data }], guard := none }) (v := ?vq2) rfl (by kernel_rfl) (by kernel_rfl) (by kernel_rfl) (fun _ _ _ h => h) (Or.inl ⟨by rfl, ?yq2⟩) (by assumption) ?rq2
    case yq2 => (intro w hSw; clear hSw; go_simp; try with_reducible rfl)
    try simp only [Act.put, List.setIfInBounds_toArray, List.set_cons_zero, List.set_cons_succ]
    refine wpAnyH_take (i := 2) (oi := { dst := some 25, op := Go.Op.move (Go.Operand.tmp 24), type := 4, pos := "law.go:42", after := #[{ on := 1, ground := Go.Ground.data }], guard := none }) (v := ?vq3) rfl (by kernel_rfl) (by kernel_rfl) (by kernel_rfl) (fun _ _ _ h => h) (Or.inl ⟨by rfl, ?yq3⟩) (by assumption) ?rq3
    case yq3 => (intro w hSw; clear hSw; go_simp; try with_reducible rfl)
    try simp only [Act.put, List.setIfInBounds_toArray, List.set_cons_zero, List.set_cons_succ]
    refine wpAnyH_take (i := 3) (oi := { dst := some 26, op := Go.Op.move (Go.Operand.tmp 7), type := 3, pos := "law.go:42", after := #[{ on := 2, ground := Go.Ground.guard }], guard := some (2, true) }) (v := ?vq4) rfl (by kernel_rfl) (by kernel_rfl) (by kernel_rfl) (fun _ _ _ h => h) (Or.inl ⟨by rfl, ?yq4⟩) (by assumption) ?rq4
    case yq4 => (intro w hSw; clear hSw; go_simp; try with_reducible rfl)
    try simp only [Act.put, List.setIfInBounds_toArray, List.set_cons_zero, List.set_cons_succ]
    refine wpAnyH_take (i := 4) (oi := { dst := some 27, op := Go.Op.binOp Go.BinOp.lss 3 (Go.Operand.tmp 26) (Go.Operand.const (Go.Value.int Go.IntKind.i64 256)) 3, type := 4, pos := "law.go:42", after := #[{ on := 3, ground := Go.Ground.data }, { on := 2, ground := Go.Ground.guard }], guard := some (2, true) }) (v := ?vq5) rfl (by kernel_rfl) (by kernel_rfl) (by kernel_rfl) (fun _ _ _ h => h) (Or.inl ⟨by rfl, ?yq5⟩) (by assumption) ?rq5
    case yq5 => (intro w hSw; clear hSw; go_simp; try with_reducible rfl)
    try simp only [Act.put, List.setIfInBounds_toArray, List.set_cons_zero, List.set_cons_succ]
    refine wpAnyH_take (i := 5) (oi := { dst := some 28, op := Go.Op.pick (Go.Operand.tmp 25) (Go.Operand.tmp 27) (Go.Operand.const (Go.Value.bool false)), type := 4, pos := "law.go:42", after := #[{ on := 2, ground := Go.Ground.data }, { on := 4, ground := Go.Ground.data }], guard := none }) (v := ?vq6) rfl (by kernel_rfl) (by kernel_rfl) (by kernel_rfl) (fun _ _ _ h => h) (Or.inl ⟨by rfl, ?yq6⟩) (by assumption) ?rq6
    case yq6 => (intro w hSw; clear hSw; go_simp; try with_reducible rfl)
    try simp only [Act.put, List.setIfInBounds_toArray, List.set_cons_zero, List.set_cons_succ]
    refine wpAnyH_take (i := 6) (oi := { dst := some 29, op := Go.Op.move (Go.Operand.tmp 28), type := 4, pos := "law.go:42", after := #[{ on := 5, ground := Go.Ground.data }, { on := 2, ground := Go.Ground.chain }], guard := none }) (v := ?vq7) rfl (by kernel_rfl) (by kernel_rfl) (by kernel_rfl) (fun _ _ _ h => h) (Or.inl ⟨by rfl, ?yq7⟩) (by assumption) ?rq7
    case yq7 => (intro w hSw; clear hSw; go_simp; try with_reducible rfl)
    try simp only [Act.put, List.setIfInBounds_toArray, List.set_cons_zero, List.set_cons_succ]
    refine wpAnyH_take (i := 7) (oi := { dst := some 30, op := Go.Op.load 28 (Go.Operand.tmp 6), type := 28, pos := "law.go:42", after := #[{ on := 6, ground := Go.Ground.guard }], guard := some (6, true) }) (v := .agg L.toArray) rfl (by kernel_rfl) (by kernel_rfl) (by kernel_rfl) (fun _ _ _ h => h) (yieldsIf_load_mid (by rfl) _ _ rfl _ _ rfl L _ (fun w h => h.at (by simp)) Try.underlying28 rfl hs1) (by assumption) ?_
    try simp only [Act.put, List.setIfInBounds_toArray, List.set_cons_zero, List.set_cons_succ]
    refine wpAnyH_take (i := 8) (oi := { dst := some 31, op := Go.Op.move (Go.Operand.tmp 7), type := 3, pos := "law.go:42", after := #[{ on := 6, ground := Go.Ground.guard }], guard := some (6, true) }) (v := ?vq9) rfl (by kernel_rfl) (by kernel_rfl) (by kernel_rfl) (fun _ _ _ h => h) (Or.inl ⟨by rfl, ?yq9⟩) (by assumption) ?rq9
    case yq9 => (intro w hSw; clear hSw; go_simp; try with_reducible rfl)
    try simp only [Act.put, List.setIfInBounds_toArray, List.set_cons_zero, List.set_cons_succ]
    refine wpAnyH_take (i := 10) (oi := { dst := some 33, op := Go.Op.load 28 (Go.Operand.tmp 8), type := 28, pos := "law.go:42", after := #[{ on := 6, ground := Go.Ground.guard }], guard := some (6, true) }) (v := .agg LN.toArray) rfl (by kernel_rfl) (by kernel_rfl) (by kernel_rfl) (fun _ _ _ h => h) (yieldsIf_load_mid (by rfl) _ _ rfl _ _ rfl LN _ (fun w h => h.at (by simp)) Try.underlying28 rfl hsN) (by assumption) ?_
    try simp only [Act.put, List.setIfInBounds_toArray, List.set_cons_zero, List.set_cons_succ]
    refine wpAnyH_take (i := 11) (oi := { dst := some 34, op := Go.Op.move (Go.Operand.tmp 7), type := 3, pos := "law.go:42", after := #[{ on := 6, ground := Go.Ground.guard }], guard := some (6, true) }) (v := ?vq11) rfl (by kernel_rfl) (by kernel_rfl) (by kernel_rfl) (fun _ _ _ h => h) (Or.inl ⟨by rfl, ?yq11⟩) (by assumption) ?rq11
    case yq11 => (intro w hSw; clear hSw; go_simp; try with_reducible rfl)
    try simp only [Act.put, List.setIfInBounds_toArray, List.set_cons_zero, List.set_cons_succ]
    refine wpAnyH_ready (rs := [9]) (by kernel_rfl) (by simp) ?_
    refine AllReadyH.cons (o := { dst := some 32, op := Go.Op.call { callee := Go.Callee.value (Go.Operand.func 14), args := #[Go.Operand.tmp 30, Go.Operand.tmp 31], argTypes := #[28, 3] }, type := 4, pos := "law.go:42", after := #[{ on := 7, ground := Go.Ground.data }, { on := 8, ground := Go.Ground.data }, { on := 6, ground := Go.Ground.chain }, { on := 6, ground := Go.Ground.guard }], guard := some (6, true) }) rfl (fun K hK => ?_) ?_
    · go_simp
      (go_at_call 14; with_reducible refine (HH.out _).mono ?_; rintro e w5 ⟨rfl, hx⟩)
      go_wp2_with fail
      refine hK.out _ _ (Held.keep (by assumption) hx) (fun hHeld => ?_)
      clear hK K hx
      try simp only [Act.put, List.setIfInBounds_toArray, List.set_cons_zero, List.set_cons_succ]
      refine wpAnyH_ready (rs := [12]) (by kernel_rfl) (by simp) ?_
      refine AllReadyH.cons (o := { dst := some 35, op := Go.Op.call { callee := Go.Callee.value (Go.Operand.func 14), args := #[Go.Operand.tmp 33, Go.Operand.tmp 34], argTypes := #[28, 3] }, type := 4, pos := "law.go:42", after := #[{ on := 10, ground := Go.Ground.data }, { on := 11, ground := Go.Ground.data }, { on := 9, ground := Go.Ground.chain }, { on := 6, ground := Go.Ground.guard }], guard := some (6, true) }) rfl (fun K hK => ?_) ?_
      · go_simp
        (go_at_call 14; with_reducible refine (HH'.out _).mono ?_; rintro e w5 ⟨rfl, hx⟩)
        go_wp2_with fail
        refine hK.out _ _ (Held.keep (by assumption) hx) (fun hHeld => ?_)
        clear hK K hx
        try simp only [Act.put, List.setIfInBounds_toArray, List.set_cons_zero, List.set_cons_succ]
        refine wpAnyH_take (i := 13) (oi := { dst := some 36, op := Go.Op.binOp Go.BinOp.neq 4 (Go.Operand.tmp 32) (Go.Operand.tmp 35) 4, type := 4, pos := "law.go:42", after := #[{ on := 9, ground := Go.Ground.data }, { on := 12, ground := Go.Ground.data }, { on := 6, ground := Go.Ground.guard }], guard := some (6, true) }) (v := ?vq12) rfl (by kernel_rfl) (by kernel_rfl) (by kernel_rfl) (fun _ _ _ h => h) (Or.inl ⟨by rfl, ?yq12⟩) (by assumption) ?rq12
        case yq12 => (intro w hSw; clear hSw; go_simp; try with_reducible rfl)
        try simp only [Act.put, List.setIfInBounds_toArray, List.set_cons_zero, List.set_cons_succ]
        refine wpAnyH_take (i := 14) (oi := { dst := some 37, op := Go.Op.pick (Go.Operand.tmp 29) (Go.Operand.tmp 36) (Go.Operand.const (Go.Value.bool false)), type := 4, pos := "law.go:42", after := #[{ on := 6, ground := Go.Ground.data }, { on := 13, ground := Go.Ground.data }], guard := none }) (v := ?vq13) rfl (by kernel_rfl) (by kernel_rfl) (by kernel_rfl) (fun _ _ _ h => h) (Or.inl ⟨by rfl, ?yq13⟩) (by assumption) ?rq13
        case yq13 => (intro w hSw; clear hSw; go_simp; try with_reducible rfl)
        try simp only [Act.put, List.setIfInBounds_toArray, List.set_cons_zero, List.set_cons_succ]
        refine wpAnyH_take (i := 15) (oi := { dst := some 38, op := Go.Op.move (Go.Operand.tmp 37), type := 4, pos := "law.go:42", after := #[{ on := 14, ground := Go.Ground.data }, { on := 12, ground := Go.Ground.chain }], guard := none }) (v := ?vq14) rfl (by kernel_rfl) (by kernel_rfl) (by kernel_rfl) (fun _ _ _ h => h) (Or.inl ⟨by rfl, ?yq14⟩) (by assumption) ?rq14
        case yq14 => (intro w hSw; clear hSw; go_simp; try with_reducible rfl)
        try simp only [Act.put, List.setIfInBounds_toArray, List.set_cons_zero, List.set_cons_succ]
        refine wpAnyH_take (i := 16) (oi := { dst := some 39, op := Go.Op.load 28 (Go.Operand.tmp 6), type := 28, pos := "law.go:42", after := #[{ on := 15, ground := Go.Ground.guard }], guard := some (15, true) }) (v := .agg L.toArray) rfl (by kernel_rfl) (by kernel_rfl) (by kernel_rfl) (fun _ _ _ h => h) (yieldsIf_load_mid (by rfl) _ _ rfl _ _ rfl L _ (fun w h => h.at (by simp)) Try.underlying28 rfl hs1) (by assumption) ?_
        try simp only [Act.put, List.setIfInBounds_toArray, List.set_cons_zero, List.set_cons_succ]
        refine wpAnyH_take (i := 18) (oi := { dst := some 41, op := Go.Op.load 28 (Go.Operand.tmp 8), type := 28, pos := "law.go:42", after := #[{ on := 15, ground := Go.Ground.guard }], guard := some (15, true) }) (v := .agg LN.toArray) rfl (by kernel_rfl) (by kernel_rfl) (by kernel_rfl) (fun _ _ _ h => h) (yieldsIf_load_mid (by rfl) _ _ rfl _ _ rfl LN _ (fun w h => h.at (by simp)) Try.underlying28 rfl hsN) (by assumption) ?_
        try simp only [Act.put, List.setIfInBounds_toArray, List.set_cons_zero, List.set_cons_succ]
        refine wpAnyH_ready (rs := [17]) (by kernel_rfl) (by simp) ?_
        refine AllReadyH.cons (o := { dst := some 40, op := Go.Op.call { callee := Go.Callee.value (Go.Operand.func 13), args := #[Go.Operand.tmp 39], argTypes := #[28] }, type := 3, pos := "law.go:42", after := #[{ on := 16, ground := Go.Ground.data }, { on := 15, ground := Go.Ground.chain }, { on := 15, ground := Go.Ground.guard }], guard := some (15, true) }) rfl (fun K hK => ?_) ?_
        · go_simp
          (go_at_call 13; with_reducible refine (HC.out _).mono ?_; rintro e w5 ⟨rfl, hx⟩)
          go_wp2_with fail
          refine hK.out _ _ (Held.keep (by assumption) hx) (fun hHeld => ?_)
          clear hK K hx
          try simp only [Act.put, List.setIfInBounds_toArray, List.set_cons_zero, List.set_cons_succ]
          refine wpAnyH_ready (rs := [19]) (by kernel_rfl) (by simp) ?_
          refine AllReadyH.cons (o := { dst := some 42, op := Go.Op.call { callee := Go.Callee.value (Go.Operand.func 13), args := #[Go.Operand.tmp 41], argTypes := #[28] }, type := 3, pos := "law.go:42", after := #[{ on := 18, ground := Go.Ground.data }, { on := 17, ground := Go.Ground.chain }, { on := 15, ground := Go.Ground.guard }], guard := some (15, true) }) rfl (fun K hK => ?_) ?_
          · go_simp
            (go_at_call 13; with_reducible refine (HC'.out _).mono ?_; rintro e w5 ⟨rfl, hx⟩)
            go_wp2_with fail
            refine hK.out _ _ (Held.keep (by assumption) hx) (fun hHeld => ?_)
            clear hK K hx
            try simp only [Act.put, List.setIfInBounds_toArray, List.set_cons_zero, List.set_cons_succ]
            refine wpAnyH_take (i := 20) (oi := { dst := some 43, op := Go.Op.binOp Go.BinOp.add 3 (Go.Operand.tmp 40) (Go.Operand.tmp 42) 3, type := 3, pos := "law.go:42", after := #[{ on := 17, ground := Go.Ground.data }, { on := 19, ground := Go.Ground.data }, { on := 15, ground := Go.Ground.guard }], guard := some (15, true) }) (v := ?vq17) rfl (by kernel_rfl) (by kernel_rfl) (by kernel_rfl) (fun _ _ _ h => h) (Or.inl ⟨by rfl, ?yq17⟩) (by assumption) ?rq17
            case yq17 => (intro w hSw; clear hSw; go_simp; try with_reducible rfl)
            try simp only [Act.put, List.setIfInBounds_toArray, List.set_cons_zero, List.set_cons_succ]
            refine wpAnyH_take (i := 21) (oi := { dst := some 44, op := Go.Op.binOp Go.BinOp.eql 3 (Go.Operand.tmp 43) (Go.Operand.const (Go.Value.int Go.IntKind.i64 256)) 3, type := 4, pos := "law.go:42", after := #[{ on := 20, ground := Go.Ground.data }, { on := 15, ground := Go.Ground.guard }], guard := some (15, true) }) (v := ?vq18) rfl (by kernel_rfl) (by kernel_rfl) (by kernel_rfl) (fun _ _ _ h => h) (Or.inl ⟨by rfl, ?yq18⟩) (by assumption) ?rq18
            case yq18 => (intro w hSw; clear hSw; go_simp; try with_reducible rfl)
            try simp only [Act.put, List.setIfInBounds_toArray, List.set_cons_zero, List.set_cons_succ]
            refine wpAnyH_take (i := 22) (oi := { dst := some 45, op := Go.Op.pick (Go.Operand.tmp 38) (Go.Operand.tmp 44) (Go.Operand.const (Go.Value.bool false)), type := 4, pos := "law.go:42", after := #[{ on := 15, ground := Go.Ground.data }, { on := 21, ground := Go.Ground.data }], guard := none }) (v := ?vq19) rfl (by kernel_rfl) (by kernel_rfl) (by kernel_rfl) (fun _ _ _ h => h) (Or.inl ⟨by rfl, ?yq19⟩) (by assumption) ?rq19
            case yq19 => (intro w hSw; clear hSw; go_simp; try with_reducible rfl)
            try simp only [Act.put, List.setIfInBounds_toArray, List.set_cons_zero, List.set_cons_succ]
            refine wpAnyH_take (i := 23) (oi := { dst := some 46, op := Go.Op.move (Go.Operand.tmp 45), type := 4, pos := "law.go:42", after := #[{ on := 22, ground := Go.Ground.data }, { on := 19, ground := Go.Ground.chain }], guard := none }) (v := ?vq20) rfl (by kernel_rfl) (by kernel_rfl) (by kernel_rfl) (fun _ _ _ h => h) (Or.inl ⟨by rfl, ?yq20⟩) (by assumption) ?rq20
            case yq20 => (intro w hSw; clear hSw; go_simp; try with_reducible rfl)
            try simp only [Act.put, List.setIfInBounds_toArray, List.set_cons_zero, List.set_cons_succ]
            refine wpAnyH_take (i := 24) (oi := { dst := some 47, op := Go.Op.load 28 (Go.Operand.tmp 8), type := 28, pos := "law.go:42", after := #[{ on := 23, ground := Go.Ground.guard }], guard := some (23, true) }) (v := .agg LN.toArray) rfl (by kernel_rfl) (by kernel_rfl) (by kernel_rfl) (fun _ _ _ h => h) (yieldsIf_load_mid (by rfl) _ _ rfl _ _ rfl LN _ (fun w h => h.at (by simp)) Try.underlying28 rfl hsN) (by assumption) ?_
            try simp only [Act.put, List.setIfInBounds_toArray, List.set_cons_zero, List.set_cons_succ]
            refine wpAnyH_take (i := 26) (oi := { dst := some 49, op := Go.Op.load 28 (Go.Operand.tmp 6), type := 28, pos := "law.go:42", after := #[{ on := 23, ground := Go.Ground.guard }], guard := some (23, true) }) (v := .agg L.toArray) rfl (by kernel_rfl) (by kernel_rfl) (by kernel_rfl) (fun _ _ _ h => h) (yieldsIf_load_mid (by rfl) _ _ rfl _ _ rfl L _ (fun w h => h.at (by simp)) Try.underlying28 rfl hs1) (by assumption) ?_
            try simp only [Act.put, List.setIfInBounds_toArray, List.set_cons_zero, List.set_cons_succ]
            refine wpAnyH_ready (rs := [25]) (by kernel_rfl) (by simp) ?_
            refine AllReadyH.cons (o := { dst := some 48, op := Go.Op.call { callee := Go.Callee.value (Go.Operand.func 15), args := #[Go.Operand.tmp 47], argTypes := #[28] }, type := 28, pos := "law.go:42", after := #[{ on := 24, ground := Go.Ground.data }, { on := 23, ground := Go.Ground.chain }, { on := 23, ground := Go.Ground.guard }], guard := some (23, true) }) rfl (fun K hK => ?_) ?_
            · go_simp
              (go_at_call 15; with_reducible refine (HN'.out _).mono ?_; rintro e w5 ⟨rfl, hx⟩)
              go_wp2_with fail
              refine hK.out _ _ (Held.keep (by assumption) hx) (fun hHeld => ?_)
              clear hK K hx
              try simp only [Act.put, List.setIfInBounds_toArray, List.set_cons_zero, List.set_cons_succ]
              refine wpAnyH_take (i := 27) (oi := { dst := some 50, op := Go.Op.binOp Go.BinOp.eql 28 (Go.Operand.tmp 48) (Go.Operand.tmp 49) 28, type := 4, pos := "law.go:42", after := #[{ on := 25, ground := Go.Ground.data }, { on := 26, ground := Go.Ground.data }, { on := 23, ground := Go.Ground.guard }], guard := some (23, true) }) (v := ?vq23) rfl (by kernel_rfl) (by kernel_rfl) (by kernel_rfl) (fun _ _ _ h => h) (Or.inl ⟨by rfl, ?yq23⟩) (by assumption) ?rq23
              case yq23 => (intro w hSw; clear hSw; go_simp; try with_reducible rfl)
              try simp only [Act.put, List.setIfInBounds_toArray, List.set_cons_zero, List.set_cons_succ]
              refine wpAnyH_take (i := 28) (oi := { dst := some 51, op := Go.Op.pick (Go.Operand.tmp 46) (Go.Operand.tmp 50) (Go.Operand.const (Go.Value.bool false)), type := 4, pos := "law.go:42", after := #[{ on := 23, ground := Go.Ground.data }, { on := 27, ground := Go.Ground.data }], guard := none }) (v := ?vq24) rfl (by kernel_rfl) (by kernel_rfl) (by kernel_rfl) (fun _ _ _ h => h) (Or.inl ⟨by rfl, ?yq24⟩) (by assumption) ?rq24
              case yq24 => (intro w hSw; clear hSw; go_simp; try with_reducible rfl)
              try simp only [Act.put, List.setIfInBounds_toArray, List.set_cons_zero, List.set_cons_succ]
              refine wpAnyH_take (i := 29) (oi := { dst := some 4, op := Go.Op.assign (Go.Operand.tmp 51), type := 4, pos := "law.go:42", after := #[{ on := 28, ground := Go.Ground.data }, { on := 25, ground := Go.Ground.chain }, { on := 0, ground := Go.Ground.phase }, { on := 1, ground := Go.Ground.phase }, { on := 2, ground := Go.Ground.phase }, { on := 3, ground := Go.Ground.phase }, { on := 4, ground := Go.Ground.phase }, { on := 5, ground := Go.Ground.phase }, { on := 6, ground := Go.Ground.phase }, { on := 7, ground := Go.Ground.phase }, { on := 8, ground := Go.Ground.phase }, { on := 9, ground := Go.Ground.phase }, { on := 10, ground := Go.Ground.phase }, { on := 11, ground := Go.Ground.phase }, { on := 12, ground := Go.Ground.phase }, { on := 13, ground := Go.Ground.phase }, { on := 14, ground := Go.Ground.phase }, { on := 15, ground := Go.Ground.phase }, { on := 16, ground := Go.Ground.phase }, { on := 17, ground := Go.Ground.phase }, { on := 18, ground := Go.Ground.phase }, { on := 19, ground := Go.Ground.phase }, { on := 20, ground := Go.Ground.phase }, { on := 21, ground := Go.Ground.phase }, { on := 22, ground := Go.Ground.phase }, { on := 23, ground := Go.Ground.phase }, { on := 24, ground := Go.Ground.phase }, { on := 25, ground := Go.Ground.phase }, { on := 26, ground := Go.Ground.phase }, { on := 27, ground := Go.Ground.phase }, { on := 28, ground := Go.Ground.phase }], guard := none }) (v := ?vq25) rfl (by kernel_rfl) (by kernel_rfl) (by kernel_rfl) (fun _ _ _ h => h) (Or.inl ⟨by rfl, ?yq25⟩) (by assumption) ?rq25
              case yq25 => (intro w hSw; clear hSw; go_simp; try with_reducible rfl)
              try simp only [Act.put, List.setIfInBounds_toArray, List.set_cons_zero, List.set_cons_succ]
              refine wpAnyH_done (by kernel_rfl) ?_ _
              refine NoPanic.normal ?_
              go_wp2
              go_ret
              exact ⟨rfl, hHeld.2⟩
            exact AllReadyH.nil
          exact AllReadyH.nil
        exact AllReadyH.nil
      exact AllReadyH.nil
    exact AllReadyH.nil

end Go.Proofs.Ytilimmimidikcaa
