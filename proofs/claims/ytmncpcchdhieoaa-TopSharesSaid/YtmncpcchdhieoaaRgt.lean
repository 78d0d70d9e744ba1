/- Which leases may be; who has none. -/
import Derived.Test.YtmncpcchdhieoaaChecked
import Derived.Test.YtmncpcchdhieoaaLz
import Derived.WalkKit
import Derived.ProofKit
import Derived.WalkLawsBesides
import Derived.WalkSpells
import Derived.Test.YtmncpcchdhieoaaBlk
import Derived.Test.YtmncpcchdhieoaaSeq
import Derived.Deep.DeepCutAuto
import Derived.Lib.Strings
namespace Go.Proofs.Ytmncpcchdhieoaa
open Go.ChangeShapes Go.WideShapes Go.ChangeAt Go.RowKit
set_option linter.unusedVariables false
set_option linter.unusedSimpArgs false

theorem str_empty {s : ByteArray} (h : s.size = 0) : s.toList.isEmpty = true := by
  rw [Lib.toList_data, List.isEmpty_iff_length_eq_zero, Array.length_toList]
  exact h
theorem str_nil_iff {s : ByteArray} : s.toList = [] ↔ s.size = 0 := by
  rw [Lib.toList_data, ← List.length_eq_zero_iff, Array.length_toList]
  exact Iff.rfl
theorem str_nonempty {s : ByteArray} (h : s.size ≠ 0) : s.toList.isEmpty = false := by
  cases he : s.toList.isEmpty with
  | false => rfl
  | true =>
    rw [Lib.toList_data, List.isEmpty_iff_length_eq_zero, Array.length_toList] at he
    exact absurd he h

/-- Is a number a moment? -/
def okT (n : Int) : Prop := 0 ≤ n ∧ n ≤ 1099511627776
instance (n : Int) : Decidable (okT n) := by unfold okT; infer_instance
/-- May a lease be? -/
def RightP (lb : Int) (lc : ByteArray) (lu lk lt lz lv : Int) : Prop :=
  (okT lu ∧ okT lk ∧ okT lt ∧ okT lz ∧ okT lv) ∧ ((2 ≤ lb ∧ lb ≤ 4 ∧ 1 ≤ lc.size ∧ lc.size ≤ 32) ∨ ((lb = 0 ∨ lb = 1 ∨ lb = 5) ∧ lc.size = 0 ∧ lu = 0 ∧ lk = 0 ∧ lt = 0 ∧ lz = 0))
instance (lb : Int) (lc : ByteArray) (lu lk lt lz lv : Int) : Decidable (RightP lb lc lu lk lt lz lv) := by unfold RightP; infer_instance
/-- Nothing of a client's. -/
def EmptyP (lc : ByteArray) (lu lk lt lz : Int) : Prop := lc.size = 0 ∧ lu = 0 ∧ lk = 0 ∧ lt = 0 ∧ lz = 0
instance (lc : ByteArray) (lu lk lt lz : Int) : Decidable (EmptyP lc lu lk lt lz) := by unfold EmptyP; infer_instance
theorem empty_right {lb : Int} {lc : ByteArray} {lu lk lt lz lv : Int} (hb : lb = 0 ∨ lb = 1 ∨ lb = 5) (h : okT lu ∧ okT lk ∧ okT lt ∧ okT lz ∧ okT lv) : EmptyP lc lu lk lt lz ↔ RightP lb lc lu lk lt lz lv := by
  unfold EmptyP RightP
  constructor
  · exact fun e => ⟨h, .inr ⟨hb, e⟩⟩
  · rintro ⟨_, h1 | h1⟩
    · omega
    · exact h1.2
theorem held_any (x : Int) (w : World) : Calls Try.prog 32 #[.int .i64 x] w fun e w' => e = .returned (.bool (decide (2 ≤ x ∧ x ≤ 4))) ∧ w = w' := by
  go_enter Try.func32, Try.ntmps32
  go_wp2
  all_goals
    go_ret
    exact ⟨ret_bool (by grind), rfl⟩
theorem bare_any (a bind ver : Int) (w : World) : Calls Try.prog 13 #[.int .u32 a, .int .i64 bind, .int .i64 ver] w fun e w' => e = .returned (.agg #[.int .u32 a, .int .i64 bind, .string { data := #[] }, .int .i64 0, .int .i64 0, .int .i64 0, .int .i64 0, .int .i64 ver]) ∧ Below w.heap.size w w' := by
  go_enter Try.func13, Try.ntmps13
  go_wp2
  exact bodyPost_ret (v := .agg #[.int .u32 a, .int .i64 bind, .string { data := #[] }, .int .i64 0, .int .i64 0, .int .i64 0, .int .i64 0, .int .i64 ver]) (by simp [results, Try.results13, go_sem]) rfl ⟨rfl, low0 w _⟩

set_option maxRecDepth 100000 in
theorem times_any (g : Nat) (w : World) : Calls Try.prog 31 #[.pointer (some ⟨g, 0, none⟩)] w fun e w' => e = .returned (.agg #[.pointer (some ⟨g, 3, none⟩), .pointer (some ⟨g, 4, none⟩), .pointer (some ⟨g, 5, none⟩), .pointer (some ⟨g, 6, none⟩), .pointer (some ⟨g, 7, none⟩)]) ∧ Below w.heap.size w w' := by
  go_enter Try.func31, Try.ntmps31
  go_wp2
  have HH0 := Lib.hid ((HeldB.nil (low0 w (.cells #[.pointer none, .pointer none, .pointer none, .pointer none, .pointer none] 80))).cons (Blk.new w #[.pointer none, .pointer none, .pointer none, .pointer none, .pointer none] 80))
  refine wp_region_seq (S := HeldB w [(w.heap.size, #[.pointer none, .pointer none, .pointer none, .pointer none, .pointer none], 80)]) 16 (by kernel_rfl) (by kernel_rfl) HH0.out.drew ?_
  simp only [List.take_succ_cons, List.take_zero, List.drop_succ_cons, List.drop_zero]
  refine wpHeld_val (v := ?vt0) (by rfl) ?yt0 ?rt0
  case yt0 => (intro wS hSw; go_simp; try (with_reducible rfl))
  try simp only [Act.put, List.setIfInBounds_toArray, List.set_cons_zero, List.set_cons_succ]
  refine wpHeld_val (v := ?vt1) (by rfl) ?yt1 ?rt1
  case yt1 => (intro wS hSw; go_simp; try (with_reducible rfl))
  try simp only [Act.put, List.setIfInBounds_toArray, List.set_cons_zero, List.set_cons_succ]
  refine wpHeld_val (v := ?vt2) (by rfl) ?yt2 ?rt2
  case yt2 => (intro wS hSw; go_simp; try (with_reducible rfl))
  try simp only [Act.put, List.setIfInBounds_toArray, List.set_cons_zero, List.set_cons_succ]
  refine wpHeld_val (v := ?vt3) (by rfl) ?yt3 ?rt3
  case yt3 => (intro wS hSw; go_simp; try (with_reducible rfl))
  try simp only [Act.put, List.setIfInBounds_toArray, List.set_cons_zero, List.set_cons_succ]
  refine wpHeld_val (v := ?vt4) (by rfl) ?yt4 ?rt4
  case yt4 => (intro wS hSw; go_simp; try (with_reducible rfl))
  try simp only [Act.put, List.setIfInBounds_toArray, List.set_cons_zero, List.set_cons_succ]
  refine wpHeld_val (v := ?vt5) (by rfl) ?yt5 ?rt5
  case yt5 => (intro wS hSw; go_simp; try (with_reducible rfl))
  try simp only [Act.put, List.setIfInBounds_toArray, List.set_cons_zero, List.set_cons_succ]
  refine wpHeld_val (v := ?vt6) (by rfl) ?yt6 ?rt6
  case yt6 => (intro wS hSw; go_simp; try (with_reducible rfl))
  try simp only [Act.put, List.setIfInBounds_toArray, List.set_cons_zero, List.set_cons_succ]
  refine wpHeld_val (v := ?vt7) (by rfl) ?yt7 ?rt7
  case yt7 => (intro wS hSw; go_simp; try (with_reducible rfl))
  try simp only [Act.put, List.setIfInBounds_toArray, List.set_cons_zero, List.set_cons_succ]
  refine wpHeld_val (v := ?vt8) (by rfl) ?yt8 ?rt8
  case yt8 => (intro wS hSw; go_simp; try (with_reducible rfl))
  try simp only [Act.put, List.setIfInBounds_toArray, List.set_cons_zero, List.set_cons_succ]
  refine wpHeld_val (v := ?vt9) (by rfl) ?yt9 ?rt9
  case yt9 => (intro wS hSw; go_simp; try (with_reducible rfl))
  try simp only [Act.put, List.setIfInBounds_toArray, List.set_cons_zero, List.set_cons_succ]
  refine wpHeld_val (v := ?vt10) (by rfl) ?yt10 ?rt10
  case yt10 => (intro wS hSw; go_simp; try (with_reducible rfl))
  try simp only [Act.put, List.setIfInBounds_toArray, List.set_cons_zero, List.set_cons_succ]
  refine wpHeld_val (v := ?vt11) (by rfl) ?yt11 ?rt11
  case yt11 => (intro wS hSw; go_simp; try (with_reducible rfl))
  try simp only [Act.put, List.setIfInBounds_toArray, List.set_cons_zero, List.set_cons_succ]
  refine wpHeld_val (v := ?vt12) (by rfl) ?yt12 ?rt12
  case yt12 => (intro wS hSw; go_simp; try (with_reducible rfl))
  try simp only [Act.put, List.setIfInBounds_toArray, List.set_cons_zero, List.set_cons_succ]
  refine wpHeld_val (v := ?vt13) (by rfl) ?yt13 ?rt13
  case yt13 => (intro wS hSw; go_simp; try (with_reducible rfl))
  try simp only [Act.put, List.setIfInBounds_toArray, List.set_cons_zero, List.set_cons_succ]
  refine wpHeld_val (v := ?vt14) (by rfl) ?yt14 ?rt14
  case yt14 => (intro wS hSw; go_simp; try (with_reducible rfl))
  try simp only [Act.put, List.setIfInBounds_toArray, List.set_cons_zero, List.set_cons_succ]
  refine wpHeld_val (v := ?vt15) (by rfl) ?yt15 ?rt15
  case yt15 => (intro wS hSw; go_simp; try (with_reducible rfl))
  try simp only [Act.put, List.setIfInBounds_toArray, List.set_cons_zero, List.set_cons_succ]
  refine wpHeld_nil ?_
  intro wS hSw
  obtain ⟨q0_0, q0_1, q0_2, q0_3, q0_4⟩ := (hSw).b0.cells5; have qf0 := (hSw).b0.free
  have H8' := Lib.hid hSw.2
  clear hSw
  go_wp2
  refine bodyPost_ret (v := .agg #[.pointer (some ⟨g, 3, none⟩), .pointer (some ⟨g, 4, none⟩), .pointer (some ⟨g, 5, none⟩), .pointer (some ⟨g, 6, none⟩), .pointer (some ⟨g, 7, none⟩)]) (by simp [results, Try.results31, go_sem, q0_0, q0_1, q0_2, q0_3, q0_4]) rfl ⟨rfl, ?_⟩
  repeat (refine Below.setCell ?_ (by first | omega | (simp; done) | (simp; omega)) _)
  exact H8'.out

set_option maxRecDepth 100000 in
set_option maxHeartbeats 2000000 in
theorem right_any (la lb : Int) (lc : ByteArray) (lu lk lt lz lv : Int) (w : World) : Calls Try.prog 14 #[.agg #[.int .u32 la, .int .i64 lb, .string lc, .int .i64 lu, .int .i64 lk, .int .i64 lt, .int .i64 lz, .int .i64 lv]] w fun e w' => e = .returned (.bool (decide (RightP lb lc lu lk lt lz lv))) ∧ Below w.heap.size w w' := by
  have ix0 : ∀ w' : World, (Instr.index 80 (.agg #[.pointer (some ⟨w.heap.size, 3, none⟩), .pointer (some ⟨w.heap.size, 4, none⟩), .pointer (some ⟨w.heap.size, 5, none⟩), .pointer (some ⟨w.heap.size, 6, none⟩), .pointer (some ⟨w.heap.size, 7, none⟩)]) (.int .i64 0)).run Try.prog w' = .ok (.pointer (some ⟨w.heap.size, 3, none⟩)) w' := fun _ => by kernel_rfl
  have ix1 : ∀ w' : World, (Instr.index 80 (.agg #[.pointer (some ⟨w.heap.size, 3, none⟩), .pointer (some ⟨w.heap.size, 4, none⟩), .pointer (some ⟨w.heap.size, 5, none⟩), .pointer (some ⟨w.heap.size, 6, none⟩), .pointer (some ⟨w.heap.size, 7, none⟩)]) (.int .i64 1)).run Try.prog w' = .ok (.pointer (some ⟨w.heap.size, 4, none⟩)) w' := fun _ => by kernel_rfl
  have ix2 : ∀ w' : World, (Instr.index 80 (.agg #[.pointer (some ⟨w.heap.size, 3, none⟩), .pointer (some ⟨w.heap.size, 4, none⟩), .pointer (some ⟨w.heap.size, 5, none⟩), .pointer (some ⟨w.heap.size, 6, none⟩), .pointer (some ⟨w.heap.size, 7, none⟩)]) (.int .i64 2)).run Try.prog w' = .ok (.pointer (some ⟨w.heap.size, 5, none⟩)) w' := fun _ => by kernel_rfl
  have ix3 : ∀ w' : World, (Instr.index 80 (.agg #[.pointer (some ⟨w.heap.size, 3, none⟩), .pointer (some ⟨w.heap.size, 4, none⟩), .pointer (some ⟨w.heap.size, 5, none⟩), .pointer (some ⟨w.heap.size, 6, none⟩), .pointer (some ⟨w.heap.size, 7, none⟩)]) (.int .i64 3)).run Try.prog w' = .ok (.pointer (some ⟨w.heap.size, 6, none⟩)) w' := fun _ => by kernel_rfl
  have ix4 : ∀ w' : World, (Instr.index 80 (.agg #[.pointer (some ⟨w.heap.size, 3, none⟩), .pointer (some ⟨w.heap.size, 4, none⟩), .pointer (some ⟨w.heap.size, 5, none⟩), .pointer (some ⟨w.heap.size, 6, none⟩), .pointer (some ⟨w.heap.size, 7, none⟩)]) (.int .i64 4)).run Try.prog w' = .ok (.pointer (some ⟨w.heap.size, 7, none⟩)) w' := fun _ => by kernel_rfl
  go_enter Try.func14, Try.ntmps14
  go_wp2_with (go_at_call 31; with_reducible refine (times_any _ _).mono ?_; rintro e w1 ⟨rfl, hx⟩; have H1 := Lib.hid (((HeldB.nil (low0 w (.cells #[.int .u32 la, .int .i64 lb, .string lc, .int .i64 lu, .int .i64 lk, .int .i64 lt, .int .i64 lz, .int .i64 lv] 35))).cons (Blk.new w #[.int .u32 la, .int .i64 lb, .string lc, .int .i64 lu, .int .i64 lk, .int .i64 lt, .int .i64 lz, .int .i64 lv] 35)).keep hx); clear hx; obtain ⟨q0_0, q0_1, q0_2, q0_3, q0_4, q0_5, q0_6, q0_7⟩ := (H1.out).b0.cells8)
  go_loopw [6] (fun i wr => ∃ k : Nat, k ≤ 5 ∧ i = .int .i64 k ∧ w1 = wr ∧ (1 ≤ k → okT lu) ∧ (2 ≤ k → okT lk) ∧ (3 ≤ k → okT lt) ∧ (4 ≤ k → okT lz) ∧ (5 ≤ k → okT lv)) (fun i _ => 5 - (intOf i).toNat)
  case atStart => exact ⟨0, by omega, rfl, rfl, by omega, by omega, by omega, by omega, by omega⟩
  case round =>
    obtain ⟨k, hk, rfl, rfl, r0, r1, r2, r3, r4⟩ := hrel
    have R0 := Lib.hid r0
    have R1 := Lib.hid r1
    have R2 := Lib.hid r2
    have R3 := Lib.hid r3
    have R4 := Lib.hid r4
    clear r0 r1 r2 r3 r4
    have hk6 : k = 0 ∨ k = 1 ∨ k = 2 ∨ k = 3 ∨ k = 4 ∨ k = 5 := by omega
    clear hk
    rcases hk6 with rfl | rfl | rfl | rfl | rfl | rfl
    · by_cases hin : okT lu
      · obtain ⟨i1, i2⟩ := id hin
        have HIN := Lib.hid hin
        clear hin
        go_wp2
        go_roundw
        case rel => exact ⟨1, by omega, by first | rfl | go_num, trivial, fun _ => HIN.out, by omega, by omega, by omega, by omega⟩
        case measure => simp [intOf]
      · have HIN := Lib.hid hin
        clear hin
        go_wp2
        all_goals
          first
            | (go_ret; exact ⟨ret_bool (decide_eq_false (fun h => HIN.out h.1.1)).symm, H1.out.2⟩)
            | (exfalso; refine HIN.out ?_; unfold okT; omega)
    · by_cases hin : okT lk
      · obtain ⟨i1, i2⟩ := id hin
        have HIN := Lib.hid hin
        clear hin
        go_wp2
        go_roundw
        case rel => exact ⟨2, by omega, by first | rfl | go_num, trivial, fun _ => R0.out (by omega), fun _ => HIN.out, by omega, by omega, by omega⟩
        case measure => simp [intOf]
      · have HIN := Lib.hid hin
        clear hin
        go_wp2
        all_goals
          first
            | (go_ret; exact ⟨ret_bool (decide_eq_false (fun h => HIN.out h.1.2.1)).symm, H1.out.2⟩)
            | (exfalso; refine HIN.out ?_; unfold okT; omega)
    · by_cases hin : okT lt
      · obtain ⟨i1, i2⟩ := id hin
        have HIN := Lib.hid hin
        clear hin
        go_wp2
        go_roundw
        case rel => exact ⟨3, by omega, by first | rfl | go_num, trivial, fun _ => R0.out (by omega), fun _ => R1.out (by omega), fun _ => HIN.out, by omega, by omega⟩
        case measure => simp [intOf]
      · have HIN := Lib.hid hin
        clear hin
        go_wp2
        all_goals
          first
            | (go_ret; exact ⟨ret_bool (decide_eq_false (fun h => HIN.out h.1.2.2.1)).symm, H1.out.2⟩)
            | (exfalso; refine HIN.out ?_; unfold okT; omega)
    · by_cases hin : okT lz
      · obtain ⟨i1, i2⟩ := id hin
        have HIN := Lib.hid hin
        clear hin
        go_wp2
        go_roundw
        case rel => exact ⟨4, by omega, by first | rfl | go_num, trivial, fun _ => R0.out (by omega), fun _ => R1.out (by omega), fun _ => R2.out (by omega), fun _ => HIN.out, by omega⟩
        case measure => simp [intOf]
      · have HIN := Lib.hid hin
        clear hin
        go_wp2
        all_goals
          first
            | (go_ret; exact ⟨ret_bool (decide_eq_false (fun h => HIN.out h.1.2.2.2.1)).symm, H1.out.2⟩)
            | (exfalso; refine HIN.out ?_; unfold okT; omega)
    · by_cases hin : okT lv
      · obtain ⟨i1, i2⟩ := id hin
        have HIN := Lib.hid hin
        clear hin
        go_wp2
        go_roundw
        case rel => exact ⟨5, by omega, by first | rfl | go_num, trivial, fun _ => R0.out (by omega), fun _ => R1.out (by omega), fun _ => R2.out (by omega), fun _ => R3.out (by omega), fun _ => HIN.out⟩
        case measure => simp [intOf]
      · have HIN := Lib.hid hin
        clear hin
        go_wp2
        all_goals
          first
            | (go_ret; exact ⟨ret_bool (decide_eq_false (fun h => HIN.out h.1.2.2.2.2)).symm, H1.out.2⟩)
            | (exfalso; refine HIN.out ?_; unfold okT; omega)
    · have hall : Hid (okT lu ∧ okT lk ∧ okT lt ∧ okT lz ∧ okT lv) := Lib.hid ⟨R0.out (by omega), R1.out (by omega), R2.out (by omega), R3.out (by omega), R4.out (by omega)⟩
      clear R0 R1 R2 R3 R4
      rcases (show (lb < 0 ∨ 5 < lb) ∨ (2 ≤ lb ∧ lb ≤ 4) ∨ (lb = 0 ∨ lb = 1 ∨ lb = 5) by omega) with hb | hb | hb
      · have HD := Lib.hid (show decide (RightP lb lc lu lk lt lz lv) = false from decide_eq_false (fun h => by unfold RightP at h; omega))
        rcases hb with hb | hb
        all_goals
          go_wp2
          go_ret
          exact ⟨ret_bool HD.out.symm, H1.out.2⟩
      · obtain ⟨hb1, hb2⟩ := hb
        by_cases hz : lc.size = 0
        · have HD := Lib.hid (show decide (RightP lb lc lu lk lt lz lv) = false from decide_eq_false (fun h => by unfold RightP at h; omega))
          have he : lc.toList.isEmpty = true := str_empty hz
          have he2 : lc.toList = [] := List.isEmpty_iff.1 he
          go_wp2_with (go_at_call 32; with_reducible refine (held_any _ _).mono ?_; rintro e w5 ⟨rfl, rfl⟩)
          go_ret
          exact ⟨ret_bool HD.out.symm, H1.out.2⟩
        · have he : lc.toList.isEmpty = false := str_nonempty hz
          have he2 : lc.toList ≠ [] := fun h => by rw [h] at he; cases he
          by_cases h32 : lc.size ≤ 32
          · have HD := Lib.hid (show decide (RightP lb lc lu lk lt lz lv) = true from decide_eq_true ⟨hall.out, .inl ⟨hb1, hb2, by omega, h32⟩⟩)
            go_wp2_with (go_at_call 32; with_reducible refine (held_any _ _).mono ?_; rintro e w5 ⟨rfl, rfl⟩)
            go_ret
            exact ⟨ret_bool (HD.out ▸ (by simp; omega)), H1.out.2⟩
          · have HD := Lib.hid (show decide (RightP lb lc lu lk lt lz lv) = false from decide_eq_false (fun h => by unfold RightP at h; omega))
            have h33 : (32 : Int) < lc.size := by omega
            go_wp2_with (go_at_call 32; with_reducible refine (held_any _ _).mono ?_; rintro e w5 ⟨rfl, rfl⟩)
            go_ret
            exact ⟨ret_bool (HD.out ▸ (by simp; omega)), H1.out.2⟩
      · have hb1 : lb < 2 ∨ 4 < lb := by omega
        have hd : decide (2 ≤ lb ∧ lb ≤ 4) = false := decide_eq_false (by omega)
        have h0 : 0 ≤ lb := by omega
        have h5 : lb ≤ 5 := by omega
        have HB := Lib.hid hb
        clear hb hb1
        go_upto_region 11 with (go_at_call 32; with_reducible refine (held_any _ _).mono ?_; rintro e w5 ⟨rfl, rfl⟩)
        refine wp_region_seq (S := HeldB w [(w.heap.size, #[.int .u32 la, .int .i64 lb, .string lc, .int .i64 lu, .int .i64 lk, .int .i64 lt, .int .i64 lz, .int .i64 lv], 35)]) 10 (by kernel_rfl) (by kernel_rfl) H1.out.drew ?_
        simp only [List.take_succ_cons, List.take_zero, List.drop_succ_cons, List.drop_zero]
        refine wpHeld_val (v := ?vr0) (by rfl) ?yr0 ?rr0
        case yr0 => (intro wS hSw; obtain ⟨q0_0, q0_1, q0_2, q0_3, q0_4, q0_5, q0_6, q0_7⟩ := (hSw).b0.cells8; go_simp; try (with_reducible rfl))
        try simp only [Act.put, List.setIfInBounds_toArray, List.set_cons_zero, List.set_cons_succ]
        refine wpHeld_val (v := ?vr1) (by rfl) ?yr1 ?rr1
        case yr1 => (intro wS hSw; go_simp; try (with_reducible rfl))
        try simp only [Act.put, List.setIfInBounds_toArray, List.set_cons_zero, List.set_cons_succ]
        refine wpHeld_val (v := ?vr2) (by rfl) ?yr2 ?rr2
        case yr2 => (intro wS hSw; obtain ⟨q0_0, q0_1, q0_2, q0_3, q0_4, q0_5, q0_6, q0_7⟩ := (hSw).b0.cells8; go_simp; try (with_reducible rfl))
        try simp only [Act.put, List.setIfInBounds_toArray, List.set_cons_zero, List.set_cons_succ]
        refine wpHeld_val (v := ?vr3) (by rfl) ?yr3 ?rr3
        case yr3 => (intro wS hSw; go_simp; try (with_reducible rfl))
        try simp only [Act.put, List.setIfInBounds_toArray, List.set_cons_zero, List.set_cons_succ]
        refine wpHeld_val (v := ?vr4) (by rfl) ?yr4 ?rr4
        case yr4 => (intro wS hSw; obtain ⟨q0_0, q0_1, q0_2, q0_3, q0_4, q0_5, q0_6, q0_7⟩ := (hSw).b0.cells8; go_simp; try (with_reducible rfl))
        try simp only [Act.put, List.setIfInBounds_toArray, List.set_cons_zero, List.set_cons_succ]
        refine wpHeld_val (v := ?vr5) (by rfl) ?yr5 ?rr5
        case yr5 => (intro wS hSw; go_simp; try (with_reducible rfl))
        try simp only [Act.put, List.setIfInBounds_toArray, List.set_cons_zero, List.set_cons_succ]
        refine wpHeld_val (v := ?vr6) (by rfl) ?yr6 ?rr6
        case yr6 => (intro wS hSw; obtain ⟨q0_0, q0_1, q0_2, q0_3, q0_4, q0_5, q0_6, q0_7⟩ := (hSw).b0.cells8; go_simp; try (with_reducible rfl))
        try simp only [Act.put, List.setIfInBounds_toArray, List.set_cons_zero, List.set_cons_succ]
        refine wpHeld_run (.agg #[.int .u32 la, .int .i64 lb, .string { data := #[] }, .int .i64 0, .int .i64 0, .int .i64 0, .int .i64 0, .int .i64 lv]) (by rfl) ?cr7 ?rr7
        case cr7 => (intro wS hSw K hK; go_simp; (go_at_call 13; with_reducible refine (bare_any _ _ _ _).mono ?_; rintro e w5 ⟨rfl, hx⟩); go_wp2_with fail; exact hK.out _ (hSw.keep hx))
        try simp only [Act.put, List.setIfInBounds_toArray, List.set_cons_zero, List.set_cons_succ]
        refine wpHeld_val (v := .bool (decide (EmptyP lc lu lk lt lz))) (by rfl) ?yr8 ?rr8
        case yr8 => (intro wS hSw; go_simp; try ((repeat' split) <;> simp_all [EmptyP, str_nil_iff]))
        try simp only [Act.put, List.setIfInBounds_toArray, List.set_cons_zero, List.set_cons_succ]
        refine wpHeld_val (v := ?vr9) (by rfl) ?yr9 ?rr9
        case yr9 => (intro wS hSw; go_simp; try (with_reducible rfl))
        try simp only [Act.put, List.setIfInBounds_toArray, List.set_cons_zero, List.set_cons_succ]
        refine wpHeld_nil ?_
        intro wS hSw
        go_wp2
        go_ret
        exact ⟨ret_bool (decide_eq_decide.2 (empty_right HB.out hall.out)), hSw.2⟩

end Go.Proofs.Ytmncpcchdhieoaa
