/- The lease of bytes, by the reference. -/
import Derived.Test.YtihekjoeibljpaaPla
namespace Go.Proofs.Ytihekjoeibljpaa
open Go.ChangeShapes Go.WideShapes Go.ChangeAt Go.RowKit
set_option linter.unusedVariables false
set_option linter.unusedSimpArgs false

set_option maxRecDepth 100000 in
theorem rdec_short (a : Option Addr) (n c : Nat) (hn : n < 36) (w : World) : Calls Try.prog 17 #[.slice a n c] w fun e w' => e = .returned (.tuple #[.agg #[.int .u32 0, .int .i64 0, .string { data := #[] }, .int .i64 0, .int .i64 0, .int .i64 0, .int .i64 0, .int .i64 0], .int .i64 2]) ∧ Below w.heap.size w w' := by
  have hn1 : (n : Int) < 36 := by omega
  have H0 := Lib.hid ((HeldB.nil (low0 w (.cells #[.int .u32 0, .int .i64 0, .string { data := #[] }, .int .i64 0, .int .i64 0, .int .i64 0, .int .i64 0, .int .i64 0] 25))).cons (Blk.new w #[.int .u32 0, .int .i64 0, .string { data := #[] }, .int .i64 0, .int .i64 0, .int .i64 0, .int .i64 0, .int .i64 0] 25))
  go_enter Try.func17, Try.ntmps17
  go_wp2
  refine bodyPost_ret (v := .tuple #[.agg #[.int .u32 0, .int .i64 0, .string { data := #[] }, .int .i64 0, .int .i64 0, .int .i64 0, .int .i64 0, .int .i64 0], .int .i64 2]) (by simp [results, Try.results17, go_sem]) rfl ⟨rfl, ?_⟩
  first
    | exact H0.out.2
    | (repeat (refine Below.setCell ?_ (by first | omega | (simp; done) | (simp; omega)) _); exact H0.out.2)
theorem str_ne {a c : ByteArray} (h : a ≠ c) : (a.toList == c.toList) = false := by
  rw [beq_eq_false_iff_ne]
  intro e
  rw [Lib.toList_data, Lib.toList_data] at e
  exact h (by rw [← Lib.mk_data a, e, Lib.mk_data])
theorem str_ne' {a c : ByteArray} (h : a ≠ c) : (a.toList != c.toList) = true := by
  unfold bne
  rw [str_ne h]
  rfl
theorem of_pv (xs : List Int) (hx : ∀ z ∈ xs, 0 ≤ z ∧ z ≤ 255) (hn : 36 ≤ xs.length) (i : Nat) (hi : i < 5) {g o k c : Nat} {w : World} (hk : k = 5 + 6 * i) (h : RowAt w g o (xs.map (Value.int .u8))) :
    Calls Try.prog 22 #[.slice (some ⟨g, o + k, none⟩) 6 c] w fun e w' => e = .returned (.int .i64 (pv xs 5 0 i)) ∧ w = w' := by
  subst hk
  rw [pv_at xs i hi]
  refine of_any ((xs.drop (5 + 6 * i)).take 6) (fun z hz => hx z (List.mem_of_mem_drop (List.mem_of_mem_take hz))) g (o + (5 + 6 * i)) 6 c w (by rw [List.length_take, List.length_drop]; omega) (by rw [List.length_take]; omega) ?_
  rw [List.map_take, List.map_drop]
  exact (h.drop (5 + 6 * i)).take 6
theorem of_four (xs : List Int) (hx : ∀ z ∈ xs, 0 ≤ z ∧ z ≤ 255) (hn : 36 ≤ xs.length) {g o c : Nat} {w : World} (h : RowAt w g o (xs.map (Value.int .u8))) :
    Calls Try.prog 22 #[.slice (some ⟨g, o, none⟩) 4 c] w fun e w' => e = .returned (.int .i64 (numV (xs.take 4))) ∧ w = w' := by
  refine of_any (xs.take 4) (fun z hz => hx z (List.mem_of_mem_take hz)) g o 4 c w (by rw [List.length_take]; omega) (by rw [List.length_take]; omega) ?_
  rw [List.map_take]
  exact h.take 4
theorem num4_bound (xs : List Int) (hx : ∀ z ∈ xs, 0 ≤ z ∧ z ≤ 255) (hn : 36 ≤ xs.length) : 0 ≤ numV (xs.take 4) ∧ numV (xs.take 4) ≤ 4294967295 := by
  have h := numV_bound xs hx 4 (by omega)
  have e : (256 : Int) ^ 4 = 4294967296 := by decide
  omega
def RDecPost (xs : List Int) (w : World) (e : Ending) (w' : World) : Prop :=
  ((DecP xs ∧ xs.getD 35 0 = (xs.length : Int) - 36) → e = .returned (.tuple #[.agg (decV xs), .int .i64 0])) ∧ (¬ (DecP xs ∧ xs.getD 35 0 = (xs.length : Int) - 36) → e = .returned (.tuple #[.agg #[.int .u32 0, .int .i64 0, .string { data := #[] }, .int .i64 0, .int .i64 0, .int .i64 0, .int .i64 0, .int .i64 0], .int .i64 2])) ∧ Below w.heap.size w w'
theorem RDecPost.yes {xs : List Int} {w w' : World} {A : Array Value} (h : DecP xs ∧ xs.getD 35 0 = (xs.length : Int) - 36) (hA : A = decV xs) (hb : Below w.heap.size w w') : RDecPost xs w (.returned (.tuple #[.agg A, .int .i64 0])) w' :=
  ⟨fun _ => by rw [hA], fun hn => absurd h hn, hb⟩
theorem RDecPost.no {xs : List Int} {w w' : World} (h : ¬ (DecP xs ∧ xs.getD 35 0 = (xs.length : Int) - 36)) (hb : Below w.heap.size w w') : RDecPost xs w (.returned (.tuple #[.agg #[.int .u32 0, .int .i64 0, .string { data := #[] }, .int .i64 0, .int .i64 0, .int .i64 0, .int .i64 0, .int .i64 0], .int .i64 2])) w' :=
  ⟨fun hn => absurd hn h, fun _ => rfl, hb⟩

theorem wrap_u32 {n : Int} (h : 0 ≤ n ∧ n ≤ 4294967295) : IntKind.u32.wrap n = n := by
  rw [IntKind.wrap_u32']
  omega
set_option maxRecDepth 100000 in
set_option maxHeartbeats 2000000 in
theorem rdec_big (xs : List Int) (hx : ∀ z ∈ xs, 0 ≤ z ∧ z ≤ 255) (g o c : Nat) (w : World) (hn : 36 ≤ xs.length) (hn2 : xs.length ≤ 1000) (hc : xs.length ≤ c) (hc2 : c ≤ maxLen) (h : RowAt w g o (xs.map (Value.int .u8))) : Calls Try.prog 17 #[.slice (some ⟨g, o, none⟩) xs.length c] w (RDecPost xs w) := by
  unfold maxLen at hc2
  have H0 := Lib.hid ((HeldB.nil (low0 w (.cells #[.int .u32 0, .int .i64 0, .string { data := #[] }, .int .i64 0, .int .i64 0, .int .i64 0, .int .i64 0, .int .i64 0] 25))).cons (Blk.new w #[.int .u32 0, .int .i64 0, .string { data := #[] }, .int .i64 0, .int .i64 0, .int .i64 0, .int .i64 0, .int .i64 0] 25))
  have HR := Lib.hid (h.keep (low0 w (.cells #[.int .u32 0, .int .i64 0, .string { data := #[] }, .int .i64 0, .int .i64 0, .int .i64 0, .int .i64 0, .int .i64 0] 25)))
  have HX := Lib.hid hx
  have HC36 := Lib.hid hn
  have HB4 := Lib.hid (num4_bound xs hx hn)
  have HWA := Lib.hid (WalkArith.wf_u32 (num4_bound xs hx hn))
  obtain ⟨n, hn0⟩ : ∃ n, n = xs.length := ⟨_, rfl⟩
  rw [← hn0] at hn hn2 hc ⊢
  have HN := Lib.hid hn0
  have HC := Lib.hid (show 36 ≤ n ∧ n ≤ c from ⟨hn, hc⟩)
  obtain ⟨y4, hy4⟩ : ∃ y, y = xs.getD 4 0 := ⟨_, rfl⟩
  obtain ⟨y35, hy35⟩ : ∃ y, y = xs.getD 35 0 := ⟨_, rfl⟩
  have hv4 : 0 ≤ y4 ∧ y4 ≤ 255 := hy4 ▸ u8_range xs hx 4
  have Y4 := Lib.hid hy4
  have Y35 := Lib.hid hy35
  clear hy4 hy35 hn0
  have hn1 : ¬ (n : Int) < 36 := by omega
  have hn3 : decide ((n : Int) < 36) = false := decide_eq_false hn1
  have i4 : (4 : Int) < n := by omega
  have i36 : (36 : Int) ≤ n := by omega
  have i36c : (36 : Int) ≤ c := by omega
  have inc : (n : Int) ≤ c := by omega
  have i4c : (4 : Int) ≤ c := by omega
  have i4c2 : 4 ≤ c := by omega
  have ic5 : ¬ c = 5 := by omega
  have id5 : (5 : Int) ≤ c := by omega
  have ic11 : ¬ c = 11 := by omega
  have id11 : (11 : Int) ≤ c := by omega
  have ic17 : ¬ c = 17 := by omega
  have id17 : (17 : Int) ≤ c := by omega
  have ic23 : ¬ c = 23 := by omega
  have id23 : (23 : Int) ≤ c := by omega
  have ic29 : ¬ c = 29 := by omega
  have id29 : (29 : Int) ≤ c := by omega
  have id35 : (35 : Int) ≤ c := by omega
  clear h hx
  go_enter Try.func17, Try.ntmps17
  go_upto_region 3 with (fail)
  refine wp_region_noPanic ?_
  refine wp_region_held_drew (S := fun w' => HeldB w [(w.heap.size, #[.int .u32 0, .int .i64 0, .string { data := #[] }, .int .i64 0, .int .i64 0, .int .i64 0, .int .i64 0, .int .i64 0], 25)] w' ∧ RowAt w' g o (xs.map (Value.int .u8))) (by kernel_rfl) (show _ ∧ _ from ⟨H0.out.drew, HR.out⟩) (fun hHeld => ?_)
  refine wpAnyH_take (i := 0) (oi := { dst := some 11, op := Go.Op.move (Go.Operand.tmp 0), type := 27, pos := "ref.go:67", after := #[], guard := none }) (v := ?vd0_0) rfl (by kernel_rfl) (by kernel_rfl) (by kernel_rfl) (fun _ _ _ h => h) (Or.inl ⟨by rfl, ?yd0_0⟩) (by assumption) ?rd0_0
  case yd0_0 => (intro wS hSw; go_simp; try (with_reducible rfl))
  try simp only [Act.put, List.setIfInBounds_toArray, List.set_cons_zero, List.set_cons_succ]
  refine wpAnyH_take (i := 1) (oi := { dst := some 12, op := Go.Op.slice 27 (Go.Operand.tmp 11) none (some (Go.Operand.const (Go.Value.int Go.IntKind.i64 4))) none, type := 27, pos := "ref.go:67", after := #[{ on := 0, ground := Go.Ground.data }], guard := none }) (v := ?vd1_1) rfl (by kernel_rfl) (by kernel_rfl) (by kernel_rfl) (fun _ _ _ h => h) (Or.inl ⟨by rfl, ?yd1_1⟩) (by assumption) ?rd1_1
  case yd1_1 => (intro wS hSw; go_simp; try (with_reducible rfl))
  try simp only [Act.put, List.setIfInBounds_toArray, List.set_cons_zero, List.set_cons_succ]
  refine wpAnyH_takeQ (i := 2) (oi := { dst := some 13, op := Go.Op.call { callee := Go.Callee.value (Go.Operand.func 22), args := #[Go.Operand.tmp 12], argTypes := #[27] }, type := 3, pos := "ref.go:67", after := #[{ on := 1, ground := Go.Ground.data }], guard := none }) (v := .int .i64 (numV (xs.take 4))) rfl (by kernel_rfl) (by kernel_rfl) (by kernel_rfl) (fun _ _ _ h => h) (by rfl) ?cd2_2 (by assumption) ?rd2_2
  case cd2_2 => (intro wS hSw K hK; go_simp; ((with_reducible refine (of_four xs HX.out HC36.out hSw.2).mono ?_); rintro e w5 ⟨rfl, rfl⟩); go_wp2_with fail; exact hK.out)
  try simp only [Act.put, List.setIfInBounds_toArray, List.set_cons_zero, List.set_cons_succ]
  refine wpAnyH_take (i := 3) (oi := { dst := some 14, op := Go.Op.convert 3 23 (Go.Operand.tmp 13), type := 23, pos := "ref.go:67", after := #[{ on := 2, ground := Go.Ground.data }], guard := none }) (v := .int .u32 (numV (xs.take 4))) rfl (by kernel_rfl) (by kernel_rfl) (by kernel_rfl) (fun _ _ _ h => h) (Or.inl ⟨by rfl, ?yd3_3⟩) (by assumption) ?rd3_3
  case yd3_3 => (intro wS hSw; go_simp; try (exact wrap_u32 HB4.out))
  try simp only [Act.put, List.setIfInBounds_toArray, List.set_cons_zero, List.set_cons_succ]
  refine wpAnyH_take (i := 4) (oi := { dst := some 15, op := Go.Op.move (Go.Operand.tmp 0), type := 27, pos := "ref.go:67", after := #[], guard := none }) (v := ?vd4_4) rfl (by kernel_rfl) (by kernel_rfl) (by kernel_rfl) (fun _ _ _ h => h) (Or.inl ⟨by rfl, ?yd4_4⟩) (by assumption) ?rd4_4
  case yd4_4 => (intro wS hSw; go_simp; try (with_reducible rfl))
  try simp only [Act.put, List.setIfInBounds_toArray, List.set_cons_zero, List.set_cons_succ]
  refine wpAnyH_take (i := 5) (oi := { dst := some 16, op := Go.Op.indexAddr 27 (Go.Operand.tmp 15) (Go.Operand.const (Go.Value.int Go.IntKind.i64 4)), type := 0, pos := "ref.go:67", after := #[{ on := 4, ground := Go.Ground.data }], guard := none }) (v := ?vd5_5) rfl (by kernel_rfl) (by kernel_rfl) (by kernel_rfl) (fun _ _ _ h => h) (Or.inl ⟨by rfl, ?yd5_5⟩) (by assumption) ?rd5_5
  case yd5_5 => (intro wS hSw; go_simp; try (with_reducible rfl))
  try simp only [Act.put, List.setIfInBounds_toArray, List.set_cons_zero, List.set_cons_succ]
  refine wpAnyH_take (i := 6) (oi := { dst := some 17, op := Go.Op.load 5 (Go.Operand.tmp 16), type := 5, pos := "ref.go:67", after := #[{ on := 5, ground := Go.Ground.data }], guard := none }) (v := ?vd6_6) rfl (by kernel_rfl) (by kernel_rfl) (by kernel_rfl) (fun _ _ _ h => h) (Or.inl ⟨by rfl, ?yd6_6⟩) (by assumption) ?rd6_6
  case yd6_6 => (intro wS hSw; have cx := hSw.2.at (j := 4) (v := .int .u8 y4) (Y4.out ▸ getx xs (by have := HC36.out; omega)); go_simp; try (with_reducible rfl))
  try simp only [Act.put, List.setIfInBounds_toArray, List.set_cons_zero, List.set_cons_succ]
  refine wpAnyH_take (i := 7) (oi := { dst := some 18, op := Go.Op.convert 5 3 (Go.Operand.tmp 17), type := 3, pos := "ref.go:67", after := #[{ on := 6, ground := Go.Ground.data }], guard := none }) (v := .int .i64 y4) rfl (by kernel_rfl) (by kernel_rfl) (by kernel_rfl) (fun _ _ _ h => h) (Or.inl ⟨by rfl, ?yd7_7⟩) (by assumption) ?rd7_7
  case yd7_7 => (intro wS hSw; go_simp; try (exact IntWalk.i64_in _ (by omega)))
  try simp only [Act.put, List.setIfInBounds_toArray, List.set_cons_zero, List.set_cons_succ]
  refine wpAnyH_take (i := 8) (oi := { dst := some 19, op := Go.Op.move (Go.Operand.tmp 0), type := 27, pos := "ref.go:67", after := #[], guard := none }) (v := ?vd8_8) rfl (by kernel_rfl) (by kernel_rfl) (by kernel_rfl) (fun _ _ _ h => h) (Or.inl ⟨by rfl, ?yd8_8⟩) (by assumption) ?rd8_8
  case yd8_8 => (intro wS hSw; go_simp; try (with_reducible rfl))
  try simp only [Act.put, List.setIfInBounds_toArray, List.set_cons_zero, List.set_cons_succ]
  refine wpAnyH_take (i := 9) (oi := { dst := some 20, op := Go.Op.slice 27 (Go.Operand.tmp 19) (some (Go.Operand.const (Go.Value.int Go.IntKind.i64 5))) (some (Go.Operand.const (Go.Value.int Go.IntKind.i64 11))) none, type := 27, pos := "ref.go:67", after := #[{ on := 8, ground := Go.Ground.data }], guard := none }) (v := ?vd9_9) rfl (by kernel_rfl) (by kernel_rfl) (by kernel_rfl) (fun _ _ _ h => h) (Or.inl ⟨by rfl, ?yd9_9⟩) (by assumption) ?rd9_9
  case yd9_9 => (intro wS hSw; go_simp; try (with_reducible rfl))
  try simp only [Act.put, List.setIfInBounds_toArray, List.set_cons_zero, List.set_cons_succ]
  refine wpAnyH_takeQ (i := 10) (oi := { dst := some 21, op := Go.Op.call { callee := Go.Callee.value (Go.Operand.func 22), args := #[Go.Operand.tmp 20], argTypes := #[27] }, type := 3, pos := "ref.go:67", after := #[{ on := 9, ground := Go.Ground.data }, { on := 2, ground := Go.Ground.chain }], guard := none }) (v := .int .i64 (pv xs 5 0 0)) rfl (by kernel_rfl) (by kernel_rfl) (by kernel_rfl) (fun _ _ _ h => h) (by rfl) ?cd10_10 (by assumption) ?rd10_10
  case cd10_10 => (intro wS hSw K hK; go_simp; ((with_reducible refine (of_pv xs HX.out HC36.out 0 (by omega) rfl hSw.2).mono ?_); rintro e w5 ⟨rfl, rfl⟩); go_wp2_with fail; exact hK.out)
  try simp only [Act.put, List.setIfInBounds_toArray, List.set_cons_zero, List.set_cons_succ]
  refine wpAnyH_take (i := 11) (oi := { dst := some 22, op := Go.Op.move (Go.Operand.tmp 0), type := 27, pos := "ref.go:67", after := #[], guard := none }) (v := ?vd11_11) rfl (by kernel_rfl) (by kernel_rfl) (by kernel_rfl) (fun _ _ _ h => h) (Or.inl ⟨by rfl, ?yd11_11⟩) (by assumption) ?rd11_11
  case yd11_11 => (intro wS hSw; go_simp; try (with_reducible rfl))
  try simp only [Act.put, List.setIfInBounds_toArray, List.set_cons_zero, List.set_cons_succ]
  refine wpAnyH_take (i := 12) (oi := { dst := some 23, op := Go.Op.slice 27 (Go.Operand.tmp 22) (some (Go.Operand.const (Go.Value.int Go.IntKind.i64 11))) (some (Go.Operand.const (Go.Value.int Go.IntKind.i64 17))) none, type := 27, pos := "ref.go:67", after := #[{ on := 11, ground := Go.Ground.data }], guard := none }) (v := ?vd12_12) rfl (by kernel_rfl) (by kernel_rfl) (by kernel_rfl) (fun _ _ _ h => h) (Or.inl ⟨by rfl, ?yd12_12⟩) (by assumption) ?rd12_12
  case yd12_12 => (intro wS hSw; go_simp; try (with_reducible rfl))
  try simp only [Act.put, List.setIfInBounds_toArray, List.set_cons_zero, List.set_cons_succ]
  refine wpAnyH_takeQ (i := 13) (oi := { dst := some 24, op := Go.Op.call { callee := Go.Callee.value (Go.Operand.func 22), args := #[Go.Operand.tmp 23], argTypes := #[27] }, type := 3, pos := "ref.go:67", after := #[{ on := 12, ground := Go.Ground.data }, { on := 10, ground := Go.Ground.chain }], guard := none }) (v := .int .i64 (pv xs 5 0 1)) rfl (by kernel_rfl) (by kernel_rfl) (by kernel_rfl) (fun _ _ _ h => h) (by rfl) ?cd13_13 (by assumption) ?rd13_13
  case cd13_13 => (intro wS hSw K hK; go_simp; ((with_reducible refine (of_pv xs HX.out HC36.out 1 (by omega) rfl hSw.2).mono ?_); rintro e w5 ⟨rfl, rfl⟩); go_wp2_with fail; exact hK.out)
  try simp only [Act.put, List.setIfInBounds_toArray, List.set_cons_zero, List.set_cons_succ]
  refine wpAnyH_take (i := 14) (oi := { dst := some 25, op := Go.Op.move (Go.Operand.tmp 0), type := 27, pos := "ref.go:67", after := #[], guard := none }) (v := ?vd14_14) rfl (by kernel_rfl) (by kernel_rfl) (by kernel_rfl) (fun _ _ _ h => h) (Or.inl ⟨by rfl, ?yd14_14⟩) (by assumption) ?rd14_14
  case yd14_14 => (intro wS hSw; go_simp; try (with_reducible rfl))
  try simp only [Act.put, List.setIfInBounds_toArray, List.set_cons_zero, List.set_cons_succ]
  refine wpAnyH_take (i := 15) (oi := { dst := some 26, op := Go.Op.slice 27 (Go.Operand.tmp 25) (some (Go.Operand.const (Go.Value.int Go.IntKind.i64 17))) (some (Go.Operand.const (Go.Value.int Go.IntKind.i64 23))) none, type := 27, pos := "ref.go:67", after := #[{ on := 14, ground := Go.Ground.data }], guard := none }) (v := ?vd15_15) rfl (by kernel_rfl) (by kernel_rfl) (by kernel_rfl) (fun _ _ _ h => h) (Or.inl ⟨by rfl, ?yd15_15⟩) (by assumption) ?rd15_15
  case yd15_15 => (intro wS hSw; go_simp; try (with_reducible rfl))
  try simp only [Act.put, List.setIfInBounds_toArray, List.set_cons_zero, List.set_cons_succ]
  refine wpAnyH_takeQ (i := 16) (oi := { dst := some 27, op := Go.Op.call { callee := Go.Callee.value (Go.Operand.func 22), args := #[Go.Operand.tmp 26], argTypes := #[27] }, type := 3, pos := "ref.go:67", after := #[{ on := 15, ground := Go.Ground.data }, { on := 13, ground := Go.Ground.chain }], guard := none }) (v := .int .i64 (pv xs 5 0 2)) rfl (by kernel_rfl) (by kernel_rfl) (by kernel_rfl) (fun _ _ _ h => h) (by rfl) ?cd16_16 (by assumption) ?rd16_16
  case cd16_16 => (intro wS hSw K hK; go_simp; ((with_reducible refine (of_pv xs HX.out HC36.out 2 (by omega) rfl hSw.2).mono ?_); rintro e w5 ⟨rfl, rfl⟩); go_wp2_with fail; exact hK.out)
  try simp only [Act.put, List.setIfInBounds_toArray, List.set_cons_zero, List.set_cons_succ]
  refine wpAnyH_take (i := 17) (oi := { dst := some 28, op := Go.Op.move (Go.Operand.tmp 0), type := 27, pos := "ref.go:67", after := #[], guard := none }) (v := ?vd17_17) rfl (by kernel_rfl) (by kernel_rfl) (by kernel_rfl) (fun _ _ _ h => h) (Or.inl ⟨by rfl, ?yd17_17⟩) (by assumption) ?rd17_17
  case yd17_17 => (intro wS hSw; go_simp; try (with_reducible rfl))
  try simp only [Act.put, List.setIfInBounds_toArray, List.set_cons_zero, List.set_cons_succ]
  refine wpAnyH_take (i := 18) (oi := { dst := some 29, op := Go.Op.slice 27 (Go.Operand.tmp 28) (some (Go.Operand.const (Go.Value.int Go.IntKind.i64 23))) (some (Go.Operand.const (Go.Value.int Go.IntKind.i64 29))) none, type := 27, pos := "ref.go:67", after := #[{ on := 17, ground := Go.Ground.data }], guard := none }) (v := ?vd18_18) rfl (by kernel_rfl) (by kernel_rfl) (by kernel_rfl) (fun _ _ _ h => h) (Or.inl ⟨by rfl, ?yd18_18⟩) (by assumption) ?rd18_18
  case yd18_18 => (intro wS hSw; go_simp; try (with_reducible rfl))
  try simp only [Act.put, List.setIfInBounds_toArray, List.set_cons_zero, List.set_cons_succ]
  refine wpAnyH_takeQ (i := 19) (oi := { dst := some 30, op := Go.Op.call { callee := Go.Callee.value (Go.Operand.func 22), args := #[Go.Operand.tmp 29], argTypes := #[27] }, type := 3, pos := "ref.go:67", after := #[{ on := 18, ground := Go.Ground.data }, { on := 16, ground := Go.Ground.chain }], guard := none }) (v := .int .i64 (pv xs 5 0 3)) rfl (by kernel_rfl) (by kernel_rfl) (by kernel_rfl) (fun _ _ _ h => h) (by rfl) ?cd19_19 (by assumption) ?rd19_19
  case cd19_19 => (intro wS hSw K hK; go_simp; ((with_reducible refine (of_pv xs HX.out HC36.out 3 (by omega) rfl hSw.2).mono ?_); rintro e w5 ⟨rfl, rfl⟩); go_wp2_with fail; exact hK.out)
  try simp only [Act.put, List.setIfInBounds_toArray, List.set_cons_zero, List.set_cons_succ]
  refine wpAnyH_take (i := 20) (oi := { dst := some 31, op := Go.Op.move (Go.Operand.tmp 0), type := 27, pos := "ref.go:67", after := #[], guard := none }) (v := ?vd20_20) rfl (by kernel_rfl) (by kernel_rfl) (by kernel_rfl) (fun _ _ _ h => h) (Or.inl ⟨by rfl, ?yd20_20⟩) (by assumption) ?rd20_20
  case yd20_20 => (intro wS hSw; go_simp; try (with_reducible rfl))
  try simp only [Act.put, List.setIfInBounds_toArray, List.set_cons_zero, List.set_cons_succ]
  refine wpAnyH_take (i := 21) (oi := { dst := some 32, op := Go.Op.slice 27 (Go.Operand.tmp 31) (some (Go.Operand.const (Go.Value.int Go.IntKind.i64 29))) (some (Go.Operand.const (Go.Value.int Go.IntKind.i64 35))) none, type := 27, pos := "ref.go:67", after := #[{ on := 20, ground := Go.Ground.data }], guard := none }) (v := ?vd21_21) rfl (by kernel_rfl) (by kernel_rfl) (by kernel_rfl) (fun _ _ _ h => h) (Or.inl ⟨by rfl, ?yd21_21⟩) (by assumption) ?rd21_21
  case yd21_21 => (intro wS hSw; go_simp; try (with_reducible rfl))
  try simp only [Act.put, List.setIfInBounds_toArray, List.set_cons_zero, List.set_cons_succ]
  refine wpAnyH_takeQ (i := 22) (oi := { dst := some 33, op := Go.Op.call { callee := Go.Callee.value (Go.Operand.func 22), args := #[Go.Operand.tmp 32], argTypes := #[27] }, type := 3, pos := "ref.go:67", after := #[{ on := 21, ground := Go.Ground.data }, { on := 19, ground := Go.Ground.chain }], guard := none }) (v := .int .i64 (pv xs 5 0 4)) rfl (by kernel_rfl) (by kernel_rfl) (by kernel_rfl) (fun _ _ _ h => h) (by rfl) ?cd22_22 (by assumption) ?rd22_22
  case cd22_22 => (intro wS hSw K hK; go_simp; ((with_reducible refine (of_pv xs HX.out HC36.out 4 (by omega) rfl hSw.2).mono ?_); rintro e w5 ⟨rfl, rfl⟩); go_wp2_with fail; exact hK.out)
  try simp only [Act.put, List.setIfInBounds_toArray, List.set_cons_zero, List.set_cons_succ]
  refine wpAnyH_take (i := 23) (oi := { dst := some 34, op := Go.Op.move (Go.Operand.tmp 0), type := 27, pos := "ref.go:67", after := #[], guard := none }) (v := ?vd23_23) rfl (by kernel_rfl) (by kernel_rfl) (by kernel_rfl) (fun _ _ _ h => h) (Or.inl ⟨by rfl, ?yd23_23⟩) (by assumption) ?rd23_23
  case yd23_23 => (intro wS hSw; go_simp; try (with_reducible rfl))
  try simp only [Act.put, List.setIfInBounds_toArray, List.set_cons_zero, List.set_cons_succ]
  refine wpAnyH_take (i := 24) (oi := { dst := some 35, op := Go.Op.slice 27 (Go.Operand.tmp 34) (some (Go.Operand.const (Go.Value.int Go.IntKind.i64 36))) none none, type := 27, pos := "ref.go:67", after := #[{ on := 23, ground := Go.Ground.data }], guard := none }) (v := ?vd24_24) rfl (by kernel_rfl) (by kernel_rfl) (by kernel_rfl) (fun _ _ _ h => h) (Or.inl ⟨by rfl, ?yd24_24⟩) (by assumption) ?rd24_24
  case yd24_24 => (intro wS hSw; go_simp; try (with_reducible rfl))
  try simp only [Act.put, List.setIfInBounds_toArray, List.set_cons_zero, List.set_cons_succ]
  refine wpAnyH_take (i := 25) (oi := { dst := some 36, op := Go.Op.convert 27 9 (Go.Operand.tmp 35), type := 9, pos := "ref.go:67", after := #[{ on := 24, ground := Go.Ground.data }], guard := none }) (v := ?vd25_25) rfl (by kernel_rfl) (by kernel_rfl) (by kernel_rfl) (fun _ _ _ h => h) (Or.inl ⟨by rfl, ?yd25_25⟩) (by assumption) ?rd25_25
  case yd25_25 => (intro wS hSw; have cv := conv36 hSw.2 HN.out.symm HC.out.1 HC.out.2; go_simp; try (with_reducible rfl))
  try simp only [Act.put, List.setIfInBounds_toArray, List.set_cons_zero, List.set_cons_succ]
  refine wpAnyH_take (i := 26) (oi := { dst := some 37, op := Go.Op.build 25 #[(0, Go.Operand.tmp 14), (1, Go.Operand.tmp 18), (3, Go.Operand.tmp 21), (4, Go.Operand.tmp 24), (5, Go.Operand.tmp 27), (6, Go.Operand.tmp 30), (7, Go.Operand.tmp 33), (2, Go.Operand.tmp 36)], type := 25, pos := "ref.go:67", after := #[{ on := 3, ground := Go.Ground.data }, { on := 7, ground := Go.Ground.data }, { on := 10, ground := Go.Ground.data }, { on := 13, ground := Go.Ground.data }, { on := 16, ground := Go.Ground.data }, { on := 19, ground := Go.Ground.data }, { on := 22, ground := Go.Ground.data }, { on := 25, ground := Go.Ground.data }], guard := none }) (v := ?vd26_26) rfl (by kernel_rfl) (by kernel_rfl) (by kernel_rfl) (fun _ _ _ h => h) (Or.inl ⟨by rfl, ?yd26_26⟩) (by assumption) ?rd26_26
  case yd26_26 => (intro wS hSw; go_simp; try (with_reducible rfl))
  try simp only [Act.put, List.setIfInBounds_toArray, List.set_cons_zero, List.set_cons_succ]
  refine wpAnyH_ready (rs := [27]) (by kernel_rfl) (by simp) ?_
  refine AllReadyH.cons (o := { dst := some 4, op := Go.Op.alloc 25, type := 0, pos := "ref.go:67", after := #[], guard := none }) rfl (fun K hK => ?_) AllReadyH.nil
  go_simp
  refine hK.out _ _ ⟨hHeld.1.alloc (.cells #[.int .u32 0, .int .i64 0, .string { data := #[] }, .int .i64 0, .int .i64 0, .int .i64 0, .int .i64 0, .int .i64 0] 25), hHeld.2.keep (low0 _ _)⟩ (fun hHeld => ?_)
  clear hK K
  try simp only [Act.put, List.setIfInBounds_toArray, List.set_cons_zero, List.set_cons_succ]
  refine wpAnyH_ready (rs := [28]) (by kernel_rfl) (by simp) ?_
  refine AllReadyH.cons (o := { dst := none, op := Go.Op.store 25 (Go.Operand.tmp 4) (Go.Operand.tmp 37), type := 0, pos := "ref.go:67", after := #[{ on := 27, ground := Go.Ground.data }, { on := 26, ground := Go.Ground.data }, { on := 22, ground := Go.Ground.chain }, { on := 0, ground := Go.Ground.phase }, { on := 1, ground := Go.Ground.phase }, { on := 2, ground := Go.Ground.phase }, { on := 3, ground := Go.Ground.phase }, { on := 4, ground := Go.Ground.phase }, { on := 5, ground := Go.Ground.phase }, { on := 6, ground := Go.Ground.phase }, { on := 7, ground := Go.Ground.phase }, { on := 8, ground := Go.Ground.phase }, { on := 9, ground := Go.Ground.phase }, { on := 10, ground := Go.Ground.phase }, { on := 11, ground := Go.Ground.phase }, { on := 12, ground := Go.Ground.phase }, { on := 13, ground := Go.Ground.phase }, { on := 14, ground := Go.Ground.phase }, { on := 15, ground := Go.Ground.phase }, { on := 16, ground := Go.Ground.phase }, { on := 17, ground := Go.Ground.phase }, { on := 18, ground := Go.Ground.phase }, { on := 19, ground := Go.Ground.phase }, { on := 20, ground := Go.Ground.phase }, { on := 21, ground := Go.Ground.phase }, { on := 22, ground := Go.Ground.phase }, { on := 23, ground := Go.Ground.phase }, { on := 24, ground := Go.Ground.phase }, { on := 25, ground := Go.Ground.phase }, { on := 26, ground := Go.Ground.phase }, { on := 27, ground := Go.Ground.phase }], guard := none }) rfl (fun K hK => ?_) AllReadyH.nil
  go_simp
  refine hK.out _ _ (show _ ∧ _ from ⟨(H0.out.alloc (.cells #[.int .u32 (numV (xs.take 4)), .int .i64 y4, .string (strOf (xs.drop 36)), .int .i64 (pv xs 5 0 0), .int .i64 (pv xs 5 0 1), .int .i64 (pv xs 5 0 2), .int .i64 (pv xs 5 0 3), .int .i64 (pv xs 5 0 4)] 25)).drew, HR.out.keep (low0 _ _).drew⟩) (fun hHeld => ?_)
  clear hK K
  try simp only [Act.put, List.setIfInBounds_toArray, List.set_cons_zero, List.set_cons_succ]
  refine wpAnyH_done (by kernel_rfl) ?_ _
  refine NoPanic.normal ?_
  have H3 := Lib.hid (show HeldB w [((w.heap.size + 1), #[.int .u32 (numV (xs.take 4)), .int .i64 y4, .string (strOf (xs.drop 36)), .int .i64 (pv xs 5 0 0), .int .i64 (pv xs 5 0 1), .int .i64 (pv xs 5 0 2), .int .i64 (pv xs 5 0 3), .int .i64 (pv xs 5 0 4)], 25), (w.heap.size, #[.int .u32 0, .int .i64 0, .string { data := #[] }, .int .i64 0, .int .i64 0, .int .i64 0, .int .i64 0, .int .i64 0], 25)] _ from (((HeldB.nil (lowA (low0 w (.cells #[.int .u32 0, .int .i64 0, .string { data := #[] }, .int .i64 0, .int .i64 0, .int .i64 0, .int .i64 0, .int .i64 0] 25)) (.cells #[.int .u32 (numV (xs.take 4)), .int .i64 y4, .string (strOf (xs.drop 36)), .int .i64 (pv xs 5 0 0), .int .i64 (pv xs 5 0 1), .int .i64 (pv xs 5 0 2), .int .i64 (pv xs 5 0 3), .int .i64 (pv xs 5 0 4)] 25))).cons (Blk.new2' w #[.int .u32 0, .int .i64 0, .string { data := #[] }, .int .i64 0, .int .i64 0, .int .i64 0, .int .i64 0, .int .i64 0] 25 (.cells #[.int .u32 (numV (xs.take 4)), .int .i64 y4, .string (strOf (xs.drop 36)), .int .i64 (pv xs 5 0 0), .int .i64 (pv xs 5 0 1), .int .i64 (pv xs 5 0 2), .int .i64 (pv xs 5 0 3), .int .i64 (pv xs 5 0 4)] 25))).cons (Blk.new2 w (.cells #[.int .u32 0, .int .i64 0, .string { data := #[] }, .int .i64 0, .int .i64 0, .int .i64 0, .int .i64 0, .int .i64 0] 25) #[.int .u32 (numV (xs.take 4)), .int .i64 y4, .string (strOf (xs.drop 36)), .int .i64 (pv xs 5 0 0), .int .i64 (pv xs 5 0 1), .int .i64 (pv xs 5 0 2), .int .i64 (pv xs 5 0 3), .int .i64 (pv xs 5 0 4)] 25)).drew)
  have R3 := Lib.hid hHeld.2
  clear hHeld H0 HR
  generalize ((w.alloc (.cells #[.int .u32 0, .int .i64 0, .string { data := #[] }, .int .i64 0, .int .i64 0, .int .i64 0, .int .i64 0, .int .i64 0] 25)).alloc (.cells #[.int .u32 (numV (xs.take 4)), .int .i64 y4, .string (strOf (xs.drop 36)), .int .i64 (pv xs 5 0 0), .int .i64 (pv xs 5 0 1), .int .i64 (pv xs 5 0 2), .int .i64 (pv xs 5 0 3), .int .i64 (pv xs 5 0 4)] 25)).drew = w3 at *
  generalize (if c = 36 then some (⟨g, o, none⟩ : Addr) else some (⟨g, o + 36, none⟩ : Addr)) = ad at *
  obtain ⟨p0_0, p0_1, p0_2, p0_3, p0_4, p0_5, p0_6, p0_7⟩ := (H3.out).b0.cells8; obtain ⟨p1_0, p1_1, p1_2, p1_3, p1_4, p1_5, p1_6, p1_7⟩ := (H3.out).tl.b0.cells8
  by_cases hr : RightP y4 (strOf (xs.drop 36)) (pv xs 5 0 0) (pv xs 5 0 1) (pv xs 5 0 2) (pv xs 5 0 3) (pv xs 5 0 4)
  · have HRR := Lib.hid hr
    clear hr
    by_cases h35 : y35 = (n : Int) - 36
    · have hs := enc_same xs HX.out HC36.out (DecP.len (by unfold DecP; rw [← Y4.out]; exact HRR.out) HC36.out) (by rw [← Y35.out, h35, HN.out])
      rw [← Y4.out] at hs
      have HS := Lib.hid hs
      have H35 := Lib.hid h35
      clear hs h35
      go_wp2_with (go_at_call 9; refine (renc_any _ _ _ _ _ _ _ _ HWA.out _ HRR.out).mono ?_; rintro e w8 ⟨v, rfl, hown, hx⟩; have H9 := Lib.hid (H3.out.keep hx); obtain ⟨g1, c1, rfl, _, hn9, hm9, hrow⟩ := own_row hown (by omega); have cv1 := conv_row (P := Try.prog) (src := 27) (dst := 9) (n := 36 + (strOf (xs.drop 36)).size) (cap := c1) Try.underlying27 Try.underlying5 Try.underlying9 hrow (encL_length _ _ _ _ _ _ _ _); have cv2 := conv_at (P := Try.prog) (src := 27) (dst := 9) (n := n) (cap := c) Try.underlying27 Try.underlying5 Try.underlying9 (R3.out.keep hx) HN.out.symm; rw [HS.out] at cv1; clear hx hown hrow; obtain ⟨z0_0, z0_1, z0_2, z0_3, z0_4, z0_5, z0_6, z0_7⟩ := (H9.out).b0.cells8; have zf0 := (H9.out).b0.free; obtain ⟨z1_0, z1_1, z1_2, z1_3, z1_4, z1_5, z1_6, z1_7⟩ := (H9.out).tl.b0.cells8; have zf1 := (H9.out).tl.b0.free)
      refine bodyPost_ret (v := .tuple #[.agg #[.int .u32 (numV (xs.take 4)), .int .i64 y4, .string (strOf (xs.drop 36)), .int .i64 (pv xs 5 0 0), .int .i64 (pv xs 5 0 1), .int .i64 (pv xs 5 0 2), .int .i64 (pv xs 5 0 3), .int .i64 (pv xs 5 0 4)], .int .i64 0]) (by simp [results, Try.results17, go_sem, z1_0, z1_1, z1_2, z1_3, z1_4, z1_5, z1_6, z1_7]) rfl ?_
      refine RDecPost.yes ⟨by unfold DecP; rw [← Y4.out]; exact HRR.out, by rw [← Y35.out, H35.out, HN.out]⟩ (by unfold decV; rw [← Y4.out]; rfl) ?_
      repeat (refine Below.setCell ?_ (by first | omega | (simp; done) | (simp; omega)) _)
      exact H9.out.2
    · have hs := enc_other xs HX.out HC36.out (DecP.len (by unfold DecP; rw [← Y4.out]; exact HRR.out) HC36.out) (by rw [← Y35.out, ← HN.out]; exact h35)
      rw [← Y4.out] at hs
      have hs2 : strOf (encL (numV (xs.take 4)) y4 (strOf (xs.drop 36)) (pv xs 5 0 0) (pv xs 5 0 1) (pv xs 5 0 2) (pv xs 5 0 3) (pv xs 5 0 4)) ≠ strOf xs := fun e => hs (strOf_inj (encL_u8 _ _ _ _ _ _ _ _) HX.out e)
      have b3 := str_ne hs2
      have b4 := str_ne' hs2
      have H35 := Lib.hid h35
      clear hs hs2 h35
      go_wp2_with (go_at_call 9; refine (renc_any _ _ _ _ _ _ _ _ HWA.out _ HRR.out).mono ?_; rintro e w8 ⟨v, rfl, hown, hx⟩; have H9 := Lib.hid (H3.out.keep hx); obtain ⟨g1, c1, rfl, _, hn9, hm9, hrow⟩ := own_row hown (by omega); have cv1 := conv_row (P := Try.prog) (src := 27) (dst := 9) (n := 36 + (strOf (xs.drop 36)).size) (cap := c1) Try.underlying27 Try.underlying5 Try.underlying9 hrow (encL_length _ _ _ _ _ _ _ _); have cv2 := conv_at (P := Try.prog) (src := 27) (dst := 9) (n := n) (cap := c) Try.underlying27 Try.underlying5 Try.underlying9 (R3.out.keep hx) HN.out.symm; clear hx hown hrow; obtain ⟨z0_0, z0_1, z0_2, z0_3, z0_4, z0_5, z0_6, z0_7⟩ := (H9.out).b0.cells8; have zf0 := (H9.out).b0.free; obtain ⟨z1_0, z1_1, z1_2, z1_3, z1_4, z1_5, z1_6, z1_7⟩ := (H9.out).tl.b0.cells8; have zf1 := (H9.out).tl.b0.free)
      refine bodyPost_ret (v := .tuple #[.agg #[.int .u32 0, .int .i64 0, .string { data := #[] }, .int .i64 0, .int .i64 0, .int .i64 0, .int .i64 0, .int .i64 0], .int .i64 2]) (by simp [results, Try.results17, go_sem, z1_0, z1_1, z1_2, z1_3, z1_4, z1_5, z1_6, z1_7]) rfl ?_
      refine RDecPost.no (fun h => H35.out (by rw [Y35.out, HN.out]; exact h.2)) ?_
      repeat (refine Below.setCell ?_ (by first | omega | (simp; done) | (simp; omega)) _)
      exact H9.out.2
  · have HRR := Lib.hid hr
    clear hr
    go_wp2_with (go_at_call 9; (with_reducible refine (renc_no _ _ _ _ _ _ _ _ _ HRR.out).mono ?_); rintro e w8 ⟨rfl, hx⟩; have H9 := Lib.hid (H3.out.keep hx); clear hx; obtain ⟨z0_0, z0_1, z0_2, z0_3, z0_4, z0_5, z0_6, z0_7⟩ := (H9.out).b0.cells8; have zf0 := (H9.out).b0.free; obtain ⟨z1_0, z1_1, z1_2, z1_3, z1_4, z1_5, z1_6, z1_7⟩ := (H9.out).tl.b0.cells8; have zf1 := (H9.out).tl.b0.free)
    refine bodyPost_ret (v := .tuple #[.agg #[.int .u32 0, .int .i64 0, .string { data := #[] }, .int .i64 0, .int .i64 0, .int .i64 0, .int .i64 0, .int .i64 0], .int .i64 2]) (by simp [results, Try.results17, go_sem, z1_0, z1_1, z1_2, z1_3, z1_4, z1_5, z1_6, z1_7]) rfl ?_
    refine RDecPost.no (fun h => HRR.out (by rw [Y4.out]; exact h.1)) ?_
    repeat (refine Below.setCell ?_ (by first | omega | (simp; done) | (simp; omega)) _)
    exact H9.out.2

end Go.Proofs.Ytihekjoeibljpaa
