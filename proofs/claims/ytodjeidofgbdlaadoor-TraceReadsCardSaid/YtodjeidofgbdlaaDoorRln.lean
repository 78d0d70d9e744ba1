/- A promise as a line, by the reference. -/
import Derived.Test.YtodjeidofgbdlaaDoorEnv
namespace Go.Proofs.YtodjeidofgbdlaaDoor
open Go.ChangeShapes Go.WideShapes Go.ChangeAt Go.RowKit
set_option linter.unusedVariables false
set_option linter.unusedSimpArgs false

theorem wu8 (n : Int) (h0 : 0 ≤ n) (h1 : n < 256) : IntKind.u8.wrap n = n := by rw [IntKind.wrap_u8]; omega

theorem numI_any (n : Int) (h0 : 0 ≤ n) (h : n ≤ 1099511627776) (w : World) : Calls Tryd.prog 25 #[.int .i64 n] w fun e w' => e = .returned (.string (decB n.toNat)) ∧ Below w.heap.size w w' := by
  obtain ⟨m, rfl⟩ := Int.eq_ofNat_of_zero_le h0
  exact number_any m (by omega) w
theorem conv_is {w : World} {g n cap : Nat} {l : List UInt8} (h : RowIs w g (cb l)) (hn : l.length = n) : (convert 47 9 (.slice (some ⟨g, 0, none⟩) n cap)).run Tryd.prog w = .ok (.string (bl l)) w := by
  subst hn
  exact run_convert_bytes_back (P := Tryd.prog) w 47 9 5 ⟨g, 0, none⟩ cap l Tryd.underlying47 Tryd.underlying5 Tryd.underlying9 (fun j hj => by
    rw [add_spot0, Nat.zero_add]
    exact h.at (by unfold cb; rw [List.getElem?_map, List.getElem?_eq_getElem hj]; rfl))
theorem sp_size : ({ data := #[32] } : ByteArray).size = 1 := rfl

set_option maxRecDepth 100000 in
set_option maxHeartbeats 1000000 in
theorem rline_no (ps : Int) (pa : Nat) (pc : ByteArray) (pf pu : Int) (hr : ¬ rightPr ⟨ps, pa, pc, pf, pu⟩) (w : World) : Calls Tryd.prog 9 #[.agg #[.int .i64 ps, .int .u32 pa, .string pc, .int .i64 pf, .int .i64 pu]] w fun e w' => e = .returned (.tuple #[.string { data := #[] }, .int .i64 1]) ∧ Below w.heap.size w w' := by
  have HD := Lib.hid (show decide (rightPr ⟨ps, pa, pc, pf, pu⟩) = false from decide_eq_false hr)
  have H0 := Lib.hid ((HeldB.nil (low0 w (.cells #[.int .i64 ps, .int .u32 pa, .string pc, .int .i64 pf, .int .i64 pu] 25))).cons (Blk.new w #[.int .i64 ps, .int .u32 pa, .string pc, .int .i64 pf, .int .i64 pu] 25))
  clear hr
  go_enter Tryd.func9, Tryd.ntmps9
  go_wp2_with (go_at_call 13; (with_reducible refine (rtright_any _ _ _ _ _ _).mono ?_); rintro e w1 ⟨he, hx⟩; rw [HD.out] at he; subst he; have H1 := Lib.hid (H0.out.keep hx); clear hx; obtain ⟨p0_0, p0_1, p0_2, p0_3, p0_4⟩ := (H1.out).b0.cells5)
  go_ret2
  exact ⟨rfl, H1.out.2⟩
set_option maxRecDepth 100000 in
set_option maxHeartbeats 1000000 in
theorem rline_yes (ps : Int) (pa : Nat) (pc : ByteArray) (pf pu : Int) (hr : rightPr ⟨ps, pa, pc, pf, pu⟩) (hp : pa < 4294967296) (w : World) : Calls Tryd.prog 9 #[.agg #[.int .i64 ps, .int .u32 pa, .string pc, .int .i64 pf, .int .i64 pu]] w fun e w' => e = .returned (.tuple #[.string (lineB ⟨ps, pa, pc, pf, pu⟩), .int .i64 0]) ∧ Below w.heap.size w w' := by
  have HD := Lib.hid (show decide (rightPr ⟨ps, pa, pc, pf, pu⟩) = true from decide_eq_true hr)
  have H0 := Lib.hid ((HeldB.nil (low0 w (.cells #[.int .i64 ps, .int .u32 pa, .string pc, .int .i64 pf, .int .i64 pu] 25))).cons (Blk.new w #[.int .i64 ps, .int .u32 pa, .string pc, .int .i64 pf, .int .i64 pu] 25))
  have hc : pc.size ≤ 32 := hr.2.1.2
  have HCL := Lib.hid (show pc.data.toList.length = pc.size from Array.length_toList)
  obtain ⟨i0, hi, hz0, hz1, hz2⟩ := info_parts Tryd.info5
  have HRP := Lib.hid hr
  clear hr
  go_enter Tryd.func9, Tryd.ntmps9
  go_wp2_with (go_at_call 13; (with_reducible refine (rtright_any _ _ _ _ _ _).mono ?_); rintro e w1 ⟨he, hx⟩; rw [HD.out] at he; subst he; have H1 := Lib.hid (H0.out.keep hx); clear hx; obtain ⟨p0_0, p0_1, p0_2, p0_3, p0_4⟩ := (H1.out).b0.cells5)
  go_loopw [5, 6] (fun v i wr => ∃ k : Nat, k ≤ pc.size ∧ i = .int .i64 k ∧ wr.ownsRow (w.heap.size + 1) 5 1 v (2 * k) (cb (hexL (pc.data.toList.take k))) ∧ HeldB w [(w.heap.size, #[.int .i64 ps, .int .u32 pa, .string pc, .int .i64 pf, .int .i64 pu], 25)] wr) (fun _ i _ => pc.size - (intOf i).toNat)
  case atStart => exact ⟨0, by omega, rfl, World.ownsRow_nil _ _ _ _, H1.out⟩
  case round =>
    obtain ⟨k, hk, rfl, hown, hb⟩ := hrel
    have HO := Lib.hid hown
    have HB := Lib.hid hb
    clear hown hb
    obtain ⟨q0_0, q0_1, q0_2, q0_3, q0_4⟩ := (HB.out).b0.cells5
    by_cases hlt : k < pc.size
    · have HN := Lib.hid (hex_snoc pc.data.toList k (by rw [HCL.out]; exact hlt))
      obtain ⟨x, hx⟩ : ∃ x : Nat, x = (pc.data.toList.getD k 0).toNat := ⟨_, rfl⟩
      have hx2 : x < 256 := by rw [hx]; exact UInt8.toNat_lt _
      have hxx : x = (pc[k]'hlt).toNat := by
        rw [hx, List.getD_eq_getElem?_getD, List.getElem?_eq_getElem (by rw [HCL.out]; exact hlt)]
        rfl
      have HXX := Lib.hid hxx
      have HXE := Lib.hid hx
      have HF1 := Lib.hid (show ∀ w, Calls Tryd.prog 24 #[.int .i64 ((x : Int) / 16)] w fun e w' => e = .returned (.int .u8 ((fig (x / 16)).toNat : Int)) ∧ w = w' from fun w => by
        rw [show (x : Int) / 16 = ((x / 16 : Nat) : Int) by omega]
        exact figure_any _ (by omega) w)
      have HF2 := Lib.hid (show ∀ w, Calls Tryd.prog 24 #[.int .i64 ((x : Int) % 16)] w fun e w' => e = .returned (.int .u8 ((fig (x % 16)).toNat : Int)) ∧ w = w' from fun w => by
        rw [show (x : Int) % 16 = ((x % 16 : Nat) : Int) by omega]
        exact figure_any _ (by omega) w)
      clear hx hxx
      go_upto_region 8 with (fail)
      clear q0_0 q0_1 q0_2 q0_3 q0_4
      refine wp_region_noPanic ?_
      refine wp_region_held_drew (S := HeldB w [(w.heap.size, #[.int .i64 ps, .int .u32 pa, .string pc, .int .i64 pf, .int .i64 pu], 25)]) (by kernel_rfl) HB.out.drew (fun hHeld => ?_)
      refine wpAnyH_take (i := 0) (oi := { dst := some 18, op := Go.Op.move (Go.Operand.tmp 5), type := 47, pos := "ref.go:45", after := #[], guard := none }) (v := ?vh0_0) rfl (by kernel_rfl) (by kernel_rfl) (by kernel_rfl) (fun _ _ _ h => h) (Or.inl ⟨by rfl, ?yh0_0⟩) (by assumption) ?rh0_0
      case yh0_0 => (intro wS hSw; go_simp; try (with_reducible rfl))
      try simp only [Act.put, List.setIfInBounds_toArray, List.set_cons_zero, List.set_cons_succ]
      refine wpAnyH_take (i := 1) (oi := { dst := some 19, op := Go.Op.fieldAddr 25 (Go.Operand.tmp 1) 2, type := 0, pos := "ref.go:45", after := #[], guard := none }) (v := ?vh1_1) rfl (by kernel_rfl) (by kernel_rfl) (by kernel_rfl) (fun _ _ _ h => h) (Or.inl ⟨by rfl, ?yh1_1⟩) (by assumption) ?rh1_1
      case yh1_1 => (intro wS hSw; go_simp; try (with_reducible rfl))
      try simp only [Act.put, List.setIfInBounds_toArray, List.set_cons_zero, List.set_cons_succ]
      refine wpAnyH_take (i := 2) (oi := { dst := some 20, op := Go.Op.load 9 (Go.Operand.tmp 19), type := 9, pos := "ref.go:45", after := #[{ on := 1, ground := Go.Ground.data }], guard := none }) (v := ?vh2_2) rfl (by kernel_rfl) (by kernel_rfl) (by kernel_rfl) (fun _ _ _ h => h) (Or.inl ⟨by rfl, ?yh2_2⟩) (by assumption) ?rh2_2
      case yh2_2 => (intro wS hSw; obtain ⟨q0_0, q0_1, q0_2, q0_3, q0_4⟩ := (hSw).b0.cells5; go_simp; try (with_reducible rfl))
      try simp only [Act.put, List.setIfInBounds_toArray, List.set_cons_zero, List.set_cons_succ]
      refine wpAnyH_take (i := 3) (oi := { dst := some 21, op := Go.Op.move (Go.Operand.tmp 6), type := 3, pos := "ref.go:45", after := #[], guard := none }) (v := ?vh3_3) rfl (by kernel_rfl) (by kernel_rfl) (by kernel_rfl) (fun _ _ _ h => h) (Or.inl ⟨by rfl, ?yh3_3⟩) (by assumption) ?rh3_3
      case yh3_3 => (intro wS hSw; go_simp; try (with_reducible rfl))
      try simp only [Act.put, List.setIfInBounds_toArray, List.set_cons_zero, List.set_cons_succ]
      refine wpAnyH_take (i := 4) (oi := { dst := some 22, op := Go.Op.index 9 (Go.Operand.tmp 20) (Go.Operand.tmp 21), type := 5, pos := "ref.go:45", after := #[{ on := 2, ground := Go.Ground.data }, { on := 3, ground := Go.Ground.data }], guard := none }) (v := .int .u8 (x : Int)) rfl (by kernel_rfl) (by kernel_rfl) (by kernel_rfl) (fun _ _ _ h => h) (Or.inl ⟨by rfl, ?yh4_4⟩) (by assumption) ?rh4_4
      case yh4_4 => (intro wS hSw; go_simp; try (first | (rw [dif_pos (by omega), HXX.out]; rfl) | rw [HXX.out]))
      try simp only [Act.put, List.setIfInBounds_toArray, List.set_cons_zero, List.set_cons_succ]
      refine wpAnyH_take (i := 5) (oi := { dst := some 23, op := Go.Op.binOp Go.BinOp.quo 5 (Go.Operand.tmp 22) (Go.Operand.const (Go.Value.int Go.IntKind.u8 16)) 5, type := 5, pos := "ref.go:45", after := #[{ on := 4, ground := Go.Ground.data }], guard := none }) (v := .int .u8 ((x : Int) / 16)) rfl (by kernel_rfl) (by kernel_rfl) (by kernel_rfl) (fun _ _ _ h => h) (Or.inl ⟨by rfl, ?yh5_5⟩) (by assumption) ?rh5_5
      case yh5_5 => (intro wS hSw; go_simp; try (first | with_reducible rfl | exact wu8 _ (by omega) (by omega)))
      try simp only [Act.put, List.setIfInBounds_toArray, List.set_cons_zero, List.set_cons_succ]
      refine wpAnyH_take (i := 6) (oi := { dst := some 24, op := Go.Op.convert 5 3 (Go.Operand.tmp 23), type := 3, pos := "ref.go:45", after := #[{ on := 5, ground := Go.Ground.data }], guard := none }) (v := .int .i64 ((x : Int) / 16)) rfl (by kernel_rfl) (by kernel_rfl) (by kernel_rfl) (fun _ _ _ h => h) (Or.inl ⟨by rfl, ?yh6_6⟩) (by assumption) ?rh6_6
      case yh6_6 => (intro wS hSw; go_simp; try (first | with_reducible rfl | exact IntWalk.i64_in _ (by omega)))
      try simp only [Act.put, List.setIfInBounds_toArray, List.set_cons_zero, List.set_cons_succ]
      refine wpAnyH_takeQ (i := 7) (oi := { dst := some 25, op := Go.Op.call { callee := Go.Callee.value (Go.Operand.func 24), args := #[Go.Operand.tmp 24], argTypes := #[3] }, type := 5, pos := "ref.go:45", after := #[{ on := 6, ground := Go.Ground.data }], guard := none }) (v := .int .u8 ((fig (x / 16)).toNat : Int)) rfl (by kernel_rfl) (by kernel_rfl) (by kernel_rfl) (fun _ _ _ h => h) (by rfl) ?ch7_7 (by assumption) ?rh7_7
      case ch7_7 => (intro wS hSw K hK; go_simp; (go_at_call 24; (with_reducible refine (HF1.out _).mono ?_); rintro e w5 ⟨rfl, rfl⟩); go_wp2_with fail; exact hK.out)
      try simp only [Act.put, List.setIfInBounds_toArray, List.set_cons_zero, List.set_cons_succ]
      refine wpAnyH_take (i := 8) (oi := { dst := some 26, op := Go.Op.fieldAddr 25 (Go.Operand.tmp 1) 2, type := 0, pos := "ref.go:45", after := #[], guard := none }) (v := ?vh8_8) rfl (by kernel_rfl) (by kernel_rfl) (by kernel_rfl) (fun _ _ _ h => h) (Or.inl ⟨by rfl, ?yh8_8⟩) (by assumption) ?rh8_8
      case yh8_8 => (intro wS hSw; go_simp; try (with_reducible rfl))
      try simp only [Act.put, List.setIfInBounds_toArray, List.set_cons_zero, List.set_cons_succ]
      refine wpAnyH_take (i := 9) (oi := { dst := some 27, op := Go.Op.load 9 (Go.Operand.tmp 26), type := 9, pos := "ref.go:45", after := #[{ on := 8, ground := Go.Ground.data }], guard := none }) (v := ?vh9_9) rfl (by kernel_rfl) (by kernel_rfl) (by kernel_rfl) (fun _ _ _ h => h) (Or.inl ⟨by rfl, ?yh9_9⟩) (by assumption) ?rh9_9
      case yh9_9 => (intro wS hSw; obtain ⟨q0_0, q0_1, q0_2, q0_3, q0_4⟩ := (hSw).b0.cells5; go_simp; try (with_reducible rfl))
      try simp only [Act.put, List.setIfInBounds_toArray, List.set_cons_zero, List.set_cons_succ]
      refine wpAnyH_take (i := 10) (oi := { dst := some 28, op := Go.Op.move (Go.Operand.tmp 6), type := 3, pos := "ref.go:45", after := #[], guard := none }) (v := ?vh10_10) rfl (by kernel_rfl) (by kernel_rfl) (by kernel_rfl) (fun _ _ _ h => h) (Or.inl ⟨by rfl, ?yh10_10⟩) (by assumption) ?rh10_10
      case yh10_10 => (intro wS hSw; go_simp; try (with_reducible rfl))
      try simp only [Act.put, List.setIfInBounds_toArray, List.set_cons_zero, List.set_cons_succ]
      refine wpAnyH_take (i := 11) (oi := { dst := some 29, op := Go.Op.index 9 (Go.Operand.tmp 27) (Go.Operand.tmp 28), type := 5, pos := "ref.go:45", after := #[{ on := 9, ground := Go.Ground.data }, { on := 10, ground := Go.Ground.data }], guard := none }) (v := .int .u8 (x : Int)) rfl (by kernel_rfl) (by kernel_rfl) (by kernel_rfl) (fun _ _ _ h => h) (Or.inl ⟨by rfl, ?yh11_11⟩) (by assumption) ?rh11_11
      case yh11_11 => (intro wS hSw; go_simp; try (first | (rw [dif_pos (by omega), HXX.out]; rfl) | rw [HXX.out]))
      try simp only [Act.put, List.setIfInBounds_toArray, List.set_cons_zero, List.set_cons_succ]
      refine wpAnyH_take (i := 12) (oi := { dst := some 30, op := Go.Op.binOp Go.BinOp.rem 5 (Go.Operand.tmp 29) (Go.Operand.const (Go.Value.int Go.IntKind.u8 16)) 5, type := 5, pos := "ref.go:45", after := #[{ on := 11, ground := Go.Ground.data }], guard := none }) (v := .int .u8 ((x : Int) % 16)) rfl (by kernel_rfl) (by kernel_rfl) (by kernel_rfl) (fun _ _ _ h => h) (Or.inl ⟨by rfl, ?yh12_12⟩) (by assumption) ?rh12_12
      case yh12_12 => (intro wS hSw; go_simp; try (first | with_reducible rfl | exact Int.tmod_eq_emod_of_nonneg (by omega) | (rw [Int.tmod_eq_emod_of_nonneg (by omega)]; exact wu8 _ (by omega) (by omega))))
      try simp only [Act.put, List.setIfInBounds_toArray, List.set_cons_zero, List.set_cons_succ]
      refine wpAnyH_take (i := 13) (oi := { dst := some 31, op := Go.Op.convert 5 3 (Go.Operand.tmp 30), type := 3, pos := "ref.go:45", after := #[{ on := 12, ground := Go.Ground.data }], guard := none }) (v := .int .i64 ((x : Int) % 16)) rfl (by kernel_rfl) (by kernel_rfl) (by kernel_rfl) (fun _ _ _ h => h) (Or.inl ⟨by rfl, ?yh13_13⟩) (by assumption) ?rh13_13
      case yh13_13 => (intro wS hSw; go_simp; try (first | with_reducible rfl | exact IntWalk.i64_in _ (by omega)))
      try simp only [Act.put, List.setIfInBounds_toArray, List.set_cons_zero, List.set_cons_succ]
      refine wpAnyH_takeQ (i := 14) (oi := { dst := some 32, op := Go.Op.call { callee := Go.Callee.value (Go.Operand.func 24), args := #[Go.Operand.tmp 31], argTypes := #[3] }, type := 5, pos := "ref.go:45", after := #[{ on := 13, ground := Go.Ground.data }, { on := 7, ground := Go.Ground.chain }], guard := none }) (v := .int .u8 ((fig (x % 16)).toNat : Int)) rfl (by kernel_rfl) (by kernel_rfl) (by kernel_rfl) (fun _ _ _ h => h) (by rfl) ?ch14_14 (by assumption) ?rh14_14
      case ch14_14 => (intro wS hSw K hK; go_simp; (go_at_call 24; (with_reducible refine (HF2.out _).mono ?_); rintro e w5 ⟨rfl, rfl⟩); go_wp2_with fail; exact hK.out)
      try simp only [Act.put, List.setIfInBounds_toArray, List.set_cons_zero, List.set_cons_succ]
      refine wpAnyH_ready (rs := [15]) (by kernel_rfl) (by simp) ?_
      refine AllReadyH.cons (o := { dst := some 33, op := Go.Op.buildSlice 47 2 #[(0, Go.Operand.tmp 25), (1, Go.Operand.tmp 32)], type := 47, pos := "ref.go:45", after := #[{ on := 7, ground := Go.Ground.data }, { on := 14, ground := Go.Ground.data }], guard := none }) rfl (fun K hK => ?_) AllReadyH.nil
      go_simp
      refine hK.out _ _ (hHeld.alloc (.cells #[.int .u8 ((fig (x / 16)).toNat : Int), .int .u8 ((fig (x % 16)).toNat : Int)] 5)) (fun hHeld => ?_)
      clear hK K
      try simp only [Act.put, List.setIfInBounds_toArray, List.set_cons_zero, List.set_cons_succ]
      refine wpAnyH_ready (rs := [16]) (by kernel_rfl) (by simp) ?_
      refine AllReadyH.cons (o := { dst := some 34, op := Go.Op.call { callee := Go.Callee.builtin Go.Builtin.append, args := #[Go.Operand.tmp 18, Go.Operand.tmp 33], argTypes := #[47, 47] }, type := 47, pos := "ref.go:45", after := #[{ on := 0, ground := Go.Ground.data }, { on := 15, ground := Go.Ground.data }, { on := 14, ground := Go.Ground.chain }], guard := none }) rfl (fun K hK => ?_) AllReadyH.nil
      rw [if_pos (by rfl)]
      refine wp_append_own _ (.tmp 18) (.tmp 33) 47 rfl (w.heap.size + 1) 5 i0 (.int .u8 0) 1 1 Tryd.underlying47 hi hz0 hz1 hz2 rfl (by decide) _ (2 * k) _ rfl (HO.out.drew.alloc (.cells #[.int .u8 ((fig (x / 16)).toNat : Int), .int .u8 ((fig (x % 16)).toNat : Int)] 5)) ⟨_, 0, none⟩ 2 2 [.int .u8 ((fig (x / 16)).toNat : Int), .int .u8 ((fig (x % 16)).toNat : Int)] rfl rfl (two_new _ _ _ _) (by intro u hu; simp at hu; rcases hu with rfl | rfl <;> rfl) (by unfold maxLen; omega) (by omega) (by have := HB.out.b0.lt; simp; omega) ?_
      intro v1 w3 hown3 hgr3 _
      refine hK.out _ _ (hHeld.grownOwn (HO.out.drew.alloc (.cells #[.int .u8 ((fig (x / 16)).toNat : Int), .int .u8 ((fig (x % 16)).toNat : Int)] 5)) hgr3 (by omega) (by simp)) (fun hHeld => ?_)
      clear hK K
      have HO3 := Lib.hid hown3
      clear hown3 hgr3
      try simp only [Act.put, List.setIfInBounds_toArray, List.set_cons_zero, List.set_cons_succ]
      refine wpAnyH_take (i := 17) (oi := { dst := some 5, op := Go.Op.assign (Go.Operand.tmp 34), type := 47, pos := "ref.go:45", after := #[{ on := 16, ground := Go.Ground.data }, { on := 16, ground := Go.Ground.chain }, { on := 0, ground := Go.Ground.phase }, { on := 1, ground := Go.Ground.phase }, { on := 2, ground := Go.Ground.phase }, { on := 3, ground := Go.Ground.phase }, { on := 4, ground := Go.Ground.phase }, { on := 5, ground := Go.Ground.phase }, { on := 6, ground := Go.Ground.phase }, { on := 7, ground := Go.Ground.phase }, { on := 8, ground := Go.Ground.phase }, { on := 9, ground := Go.Ground.phase }, { on := 10, ground := Go.Ground.phase }, { on := 11, ground := Go.Ground.phase }, { on := 12, ground := Go.Ground.phase }, { on := 13, ground := Go.Ground.phase }, { on := 14, ground := Go.Ground.phase }, { on := 15, ground := Go.Ground.phase }, { on := 16, ground := Go.Ground.phase }], guard := none }) (v := ?vh17_15) rfl (by kernel_rfl) (by kernel_rfl) (by kernel_rfl) (fun _ _ _ h => h) (Or.inl ⟨by rfl, ?yh17_15⟩) (by assumption) ?rh17_15
      case yh17_15 => (intro wS hSw; go_simp; try (with_reducible rfl))
      try simp only [Act.put, List.setIfInBounds_toArray, List.set_cons_zero, List.set_cons_succ]
      refine wpAnyH_done (by kernel_rfl) ?_ _
      refine NoPanic.normal ?_
      go_wp2
      exact ⟨⟨k + 1, by omega, by go_num, by rw [HN.out, cb_append, ← HXE.out]; exact HO3.out, hHeld⟩, by simp [intOf]; omega⟩
    · obtain rfl : k = pc.size := by omega
      have HT : Hid (pc.data.toList.take pc.size = pc.data.toList) := by rw [← HCL.out]; exact List.take_length
      have ho := HO.out
      rw [HT] at ho
      obtain ⟨g, cap, rfl, hg1, hg2, hg3, hrw⟩ := own_row ho (by have := HRP.out.2.1.1; simp only at this; omega)
      have HRW := Lib.hid hrw
      have HXL := Lib.hid (show (hexL pc.data.toList).length = 2 * pc.size by rw [hexL_length, HCL.out])
      obtain ⟨⟨r1, r2⟩, _, r3, r4, r5⟩ := HRP.out
      simp only at r1 r2 r3 r4 r5
      have HR := Lib.hid (show (0 ≤ ps ∧ ps ≤ 1099511627776) ∧ (0 ≤ pf ∧ pf ≤ 1099511627776) ∧ 0 ≤ pu ∧ pu ≤ 1099511627776 from ⟨⟨r1, by omega⟩, ⟨r3, by omega⟩, by omega, r5⟩)
      have HP := Lib.hid hp
      have y1 : (decB ps.toNat).size ≤ 100 := Nat.le_trans (decB_size (by omega)) (by decide)
      have y2 : (bl (addrL pa)).size ≤ 100 := by rw [bl_size]; exact Nat.le_trans (addrL_len hp) (by decide)
      have y3 : (bl (hexL pc.data.toList)).size ≤ 100 := by rw [bl_size, hexL_length, HCL.out]; omega
      have y4 : (decB pf.toNat).size ≤ 100 := Nat.le_trans (decB_size (by omega)) (by decide)
      have y5 : (decB pu.toNat).size ≤ 100 := Nat.le_trans (decB_size (by omega)) (by decide)
      have y6 := sp_size
      have z1 : ((decB ps.toNat : ByteArray) ++ { data := #[32] } : ByteArray).size ≤ 200 := by rw [ByteArray.size_append]; omega
      have z2 : (((decB ps.toNat : ByteArray) ++ { data := #[32] } : ByteArray) ++ bl (addrL pa) : ByteArray).size ≤ 300 := by rw [ByteArray.size_append]; omega
      have z3 : ((((decB ps.toNat : ByteArray) ++ { data := #[32] } : ByteArray) ++ bl (addrL pa) : ByteArray) ++ { data := #[32] } : ByteArray).size ≤ 400 := by rw [ByteArray.size_append]; omega
      have z4 : (((((decB ps.toNat : ByteArray) ++ { data := #[32] } : ByteArray) ++ bl (addrL pa) : ByteArray) ++ { data := #[32] } : ByteArray) ++ bl (hexL pc.data.toList) : ByteArray).size ≤ 500 := by rw [ByteArray.size_append]; omega
      have z5 : ((((((decB ps.toNat : ByteArray) ++ { data := #[32] } : ByteArray) ++ bl (addrL pa) : ByteArray) ++ { data := #[32] } : ByteArray) ++ bl (hexL pc.data.toList) : ByteArray) ++ { data := #[32] } : ByteArray).size ≤ 600 := by rw [ByteArray.size_append]; omega
      have z6 : (((((((decB ps.toNat : ByteArray) ++ { data := #[32] } : ByteArray) ++ bl (addrL pa) : ByteArray) ++ { data := #[32] } : ByteArray) ++ bl (hexL pc.data.toList) : ByteArray) ++ { data := #[32] } : ByteArray) ++ decB pf.toNat : ByteArray).size ≤ 700 := by rw [ByteArray.size_append]; omega
      have z7 : ((((((((decB ps.toNat : ByteArray) ++ { data := #[32] } : ByteArray) ++ bl (addrL pa) : ByteArray) ++ { data := #[32] } : ByteArray) ++ bl (hexL pc.data.toList) : ByteArray) ++ { data := #[32] } : ByteArray) ++ decB pf.toNat : ByteArray) ++ { data := #[32] } : ByteArray).size ≤ 800 := by rw [ByteArray.size_append]; omega
      have z8 : (((((((((decB ps.toNat : ByteArray) ++ { data := #[32] } : ByteArray) ++ bl (addrL pa) : ByteArray) ++ { data := #[32] } : ByteArray) ++ bl (hexL pc.data.toList) : ByteArray) ++ { data := #[32] } : ByteArray) ++ decB pf.toNat : ByteArray) ++ { data := #[32] } : ByteArray) ++ decB pu.toNat : ByteArray).size ≤ 900 := by rw [ByteArray.size_append]; omega
      have LE := Lib.hid (show (((((((((decB ps.toNat : ByteArray) ++ { data := #[32] } : ByteArray) ++ bl (addrL pa) : ByteArray) ++ { data := #[32] } : ByteArray) ++ bl (hexL pc.data.toList) : ByteArray) ++ { data := #[32] } : ByteArray) ++ decB pf.toNat : ByteArray) ++ { data := #[32] } : ByteArray) ++ decB pu.toNat : ByteArray) = lineB ⟨ps, pa, pc, pf, pu⟩ from by
        unfold decB lineB lineL
        apply ba_eq
        simp only [app_data, bl_data, Int.toNat_natCast]
        simp)
      clear ho hg1 hg2 hg3 hrw r1 r2 r3 r4 r5 hp
      go_upto_region 9 with (fail)
      clear q0_0 q0_1 q0_2 q0_3 q0_4
      refine wp_region_seq (S := fun wS => HeldB w [(w.heap.size, #[.int .i64 ps, .int .u32 pa, .string pc, .int .i64 pf, .int .i64 pu], 25)] wS ∧ RowIs wS g (cb (hexL pc.data.toList))) 24 (by kernel_rfl) (by kernel_rfl) ⟨HB.out.drew, HRW.out.drew⟩ ?_
      simp only [List.take_succ_cons, List.take_zero, List.drop_succ_cons, List.drop_zero]
      refine wpHeld_val (v := ?vn0) (by rfl) ?yn0 ?rn0
      case yn0 => (intro wS hSw; go_simp; try (with_reducible rfl))
      try simp only [Act.put, List.setIfInBounds_toArray, List.set_cons_zero, List.set_cons_succ]
      refine wpHeld_val (v := ?vn1) (by rfl) ?yn1 ?rn1
      case yn1 => (intro wS hSw; have hSw1 := hSw.1; obtain ⟨q0_0, q0_1, q0_2, q0_3, q0_4⟩ := (hSw1).b0.cells5; go_simp; try (with_reducible rfl))
      try simp only [Act.put, List.setIfInBounds_toArray, List.set_cons_zero, List.set_cons_succ]
      refine wpHeld_run (.string (decB ps.toNat)) (by rfl) ?cn2 ?rn2
      case cn2 => (intro wS hSw K hK; go_simp; (go_at_call 25; (with_reducible refine (numI_any ps HR.out.1.1 HR.out.1.2 _).mono ?_); rintro e w5 ⟨rfl, hx⟩); go_wp2_with fail; exact hK.out _ (⟨hSw.1.keep hx, hSw.2.keep hx⟩))
      try simp only [Act.put, List.setIfInBounds_toArray, List.set_cons_zero, List.set_cons_succ]
      refine wpHeld_val (v := .string ((decB ps.toNat : ByteArray) ++ { data := #[32] } : ByteArray)) (by rfl) ?yn3 ?rn3
      case yn3 => (intro wS hSw; go_simp; try (first | with_reducible rfl | omega | (rw [if_neg (by omega)])))
      try simp only [Act.put, List.setIfInBounds_toArray, List.set_cons_zero, List.set_cons_succ]
      refine wpHeld_val (v := ?vn4) (by rfl) ?yn4 ?rn4
      case yn4 => (intro wS hSw; go_simp; try (with_reducible rfl))
      try simp only [Act.put, List.setIfInBounds_toArray, List.set_cons_zero, List.set_cons_succ]
      refine wpHeld_val (v := ?vn5) (by rfl) ?yn5 ?rn5
      case yn5 => (intro wS hSw; have hSw1 := hSw.1; obtain ⟨q0_0, q0_1, q0_2, q0_3, q0_4⟩ := (hSw1).b0.cells5; go_simp; try (with_reducible rfl))
      try simp only [Act.put, List.setIfInBounds_toArray, List.set_cons_zero, List.set_cons_succ]
      refine wpHeld_run (.string (bl (addrL pa))) (by rfl) ?cn6 ?rn6
      case cn6 => (intro wS hSw K hK; go_simp; (go_at_call 26; (with_reducible refine (rtext_any pa HP.out _).mono ?_); rintro e w5 ⟨rfl, hx⟩); go_wp2_with fail; exact hK.out _ (⟨hSw.1.keep hx, hSw.2.keep hx⟩))
      try simp only [Act.put, List.setIfInBounds_toArray, List.set_cons_zero, List.set_cons_succ]
      refine wpHeld_val (v := .string (((decB ps.toNat : ByteArray) ++ { data := #[32] } : ByteArray) ++ bl (addrL pa) : ByteArray)) (by rfl) ?yn7 ?rn7
      case yn7 => (intro wS hSw; go_simp; try (first | with_reducible rfl | omega | (rw [if_neg (by omega)])))
      try simp only [Act.put, List.setIfInBounds_toArray, List.set_cons_zero, List.set_cons_succ]
      refine wpHeld_val (v := .string ((((decB ps.toNat : ByteArray) ++ { data := #[32] } : ByteArray) ++ bl (addrL pa) : ByteArray) ++ { data := #[32] } : ByteArray)) (by rfl) ?yn8 ?rn8
      case yn8 => (intro wS hSw; go_simp; try (first | with_reducible rfl | omega | (rw [if_neg (by omega)])))
      try simp only [Act.put, List.setIfInBounds_toArray, List.set_cons_zero, List.set_cons_succ]
      refine wpHeld_val (v := ?vn9) (by rfl) ?yn9 ?rn9
      case yn9 => (intro wS hSw; go_simp; try (with_reducible rfl))
      try simp only [Act.put, List.setIfInBounds_toArray, List.set_cons_zero, List.set_cons_succ]
      refine wpHeld_val (v := .string (bl (hexL pc.data.toList))) (by rfl) ?yn10 ?rn10
      case yn10 => (intro wS hSw; have cvx := conv_is (cap := cap) hSw.2 HXL.out; go_simp; try (first | with_reducible rfl | (split <;> omega)))
      try simp only [Act.put, List.setIfInBounds_toArray, List.set_cons_zero, List.set_cons_succ]
      refine wpHeld_val (v := .string (((((decB ps.toNat : ByteArray) ++ { data := #[32] } : ByteArray) ++ bl (addrL pa) : ByteArray) ++ { data := #[32] } : ByteArray) ++ bl (hexL pc.data.toList) : ByteArray)) (by rfl) ?yn11 ?rn11
      case yn11 => (intro wS hSw; go_simp; try (first | with_reducible rfl | omega | (rw [if_neg (by omega)])))
      try simp only [Act.put, List.setIfInBounds_toArray, List.set_cons_zero, List.set_cons_succ]
      refine wpHeld_val (v := .string ((((((decB ps.toNat : ByteArray) ++ { data := #[32] } : ByteArray) ++ bl (addrL pa) : ByteArray) ++ { data := #[32] } : ByteArray) ++ bl (hexL pc.data.toList) : ByteArray) ++ { data := #[32] } : ByteArray)) (by rfl) ?yn12 ?rn12
      case yn12 => (intro wS hSw; go_simp; try (first | with_reducible rfl | omega | (rw [if_neg (by omega)])))
      try simp only [Act.put, List.setIfInBounds_toArray, List.set_cons_zero, List.set_cons_succ]
      refine wpHeld_val (v := ?vn13) (by rfl) ?yn13 ?rn13
      case yn13 => (intro wS hSw; go_simp; try (with_reducible rfl))
      try simp only [Act.put, List.setIfInBounds_toArray, List.set_cons_zero, List.set_cons_succ]
      refine wpHeld_val (v := ?vn14) (by rfl) ?yn14 ?rn14
      case yn14 => (intro wS hSw; have hSw1 := hSw.1; obtain ⟨q0_0, q0_1, q0_2, q0_3, q0_4⟩ := (hSw1).b0.cells5; go_simp; try (with_reducible rfl))
      try simp only [Act.put, List.setIfInBounds_toArray, List.set_cons_zero, List.set_cons_succ]
      refine wpHeld_run (.string (decB pf.toNat)) (by rfl) ?cn15 ?rn15
      case cn15 => (intro wS hSw K hK; go_simp; (go_at_call 25; (with_reducible refine (numI_any pf HR.out.2.1.1 HR.out.2.1.2 _).mono ?_); rintro e w5 ⟨rfl, hx⟩); go_wp2_with fail; exact hK.out _ (⟨hSw.1.keep hx, hSw.2.keep hx⟩))
      try simp only [Act.put, List.setIfInBounds_toArray, List.set_cons_zero, List.set_cons_succ]
      refine wpHeld_val (v := .string (((((((decB ps.toNat : ByteArray) ++ { data := #[32] } : ByteArray) ++ bl (addrL pa) : ByteArray) ++ { data := #[32] } : ByteArray) ++ bl (hexL pc.data.toList) : ByteArray) ++ { data := #[32] } : ByteArray) ++ decB pf.toNat : ByteArray)) (by rfl) ?yn16 ?rn16
      case yn16 => (intro wS hSw; go_simp; try (first | with_reducible rfl | omega | (rw [if_neg (by omega)])))
      try simp only [Act.put, List.setIfInBounds_toArray, List.set_cons_zero, List.set_cons_succ]
      refine wpHeld_val (v := .string ((((((((decB ps.toNat : ByteArray) ++ { data := #[32] } : ByteArray) ++ bl (addrL pa) : ByteArray) ++ { data := #[32] } : ByteArray) ++ bl (hexL pc.data.toList) : ByteArray) ++ { data := #[32] } : ByteArray) ++ decB pf.toNat : ByteArray) ++ { data := #[32] } : ByteArray)) (by rfl) ?yn17 ?rn17
      case yn17 => (intro wS hSw; go_simp; try (first | with_reducible rfl | omega | (rw [if_neg (by omega)])))
      try simp only [Act.put, List.setIfInBounds_toArray, List.set_cons_zero, List.set_cons_succ]
      refine wpHeld_val (v := ?vn18) (by rfl) ?yn18 ?rn18
      case yn18 => (intro wS hSw; go_simp; try (with_reducible rfl))
      try simp only [Act.put, List.setIfInBounds_toArray, List.set_cons_zero, List.set_cons_succ]
      refine wpHeld_val (v := ?vn19) (by rfl) ?yn19 ?rn19
      case yn19 => (intro wS hSw; have hSw1 := hSw.1; obtain ⟨q0_0, q0_1, q0_2, q0_3, q0_4⟩ := (hSw1).b0.cells5; go_simp; try (with_reducible rfl))
      try simp only [Act.put, List.setIfInBounds_toArray, List.set_cons_zero, List.set_cons_succ]
      refine wpHeld_run (.string (decB pu.toNat)) (by rfl) ?cn20 ?rn20
      case cn20 => (intro wS hSw K hK; go_simp; (go_at_call 25; (with_reducible refine (numI_any pu HR.out.2.2.1 HR.out.2.2.2 _).mono ?_); rintro e w5 ⟨rfl, hx⟩); go_wp2_with fail; exact hK.out _ (⟨hSw.1.keep hx, hSw.2.keep hx⟩))
      try simp only [Act.put, List.setIfInBounds_toArray, List.set_cons_zero, List.set_cons_succ]
      refine wpHeld_val (v := .string (((((((((decB ps.toNat : ByteArray) ++ { data := #[32] } : ByteArray) ++ bl (addrL pa) : ByteArray) ++ { data := #[32] } : ByteArray) ++ bl (hexL pc.data.toList) : ByteArray) ++ { data := #[32] } : ByteArray) ++ decB pf.toNat : ByteArray) ++ { data := #[32] } : ByteArray) ++ decB pu.toNat : ByteArray)) (by rfl) ?yn21 ?rn21
      case yn21 => (intro wS hSw; go_simp; try (first | with_reducible rfl | omega | (rw [if_neg (by omega)])))
      try simp only [Act.put, List.setIfInBounds_toArray, List.set_cons_zero, List.set_cons_succ]
      refine wpHeld_val (v := ?vn22) (by rfl) ?yn22 ?rn22
      case yn22 => (intro wS hSw; go_simp; try (with_reducible rfl))
      try simp only [Act.put, List.setIfInBounds_toArray, List.set_cons_zero, List.set_cons_succ]
      refine wpHeld_val (v := ?vn23) (by rfl) ?yn23 ?rn23
      case yn23 => (intro wS hSw; go_simp; try (with_reducible rfl))
      try simp only [Act.put, List.setIfInBounds_toArray, List.set_cons_zero, List.set_cons_succ]
      refine wpHeld_nil ?_
      intro wS hSw
      have hb := Lib.hid hSw.1.2
      clear hSw
      go_wp2
      go_ret2
      exact ⟨congrArg (fun z => Ending.returned (.tuple #[.string z, .int .i64 0])) LE.out, hb.out⟩

end Go.Proofs.YtodjeidofgbdlaaDoor
