/- A number as bytes. -/
import Derived.Test.YtihekjoeibljpaaEnc
import Derived.Test.YtihekjoeibljpaaOpen
namespace Go.Proofs.Ytihekjoeibljpaa
open Go.ChangeShapes Go.WideShapes Go.ChangeAt Go.RowKit
set_option linter.unusedVariables false
set_option linter.unusedSimpArgs false

/-- A row's cells as an append asks them. -/
theorem Blk.news {w : World} {g : Nat} {A : Array Value} {t : TypeId} (h : Blk w g A t) : ∀ j u, A.toList[j]? = some u → w.cell? ((⟨g, 0, none⟩ : Addr).add j) = some u := by
  intro j u hj
  rw [add_spot rfl, Nat.zero_add, h.cell j, ← Array.getElem?_toList]
  exact hj
theorem Blk.owns {w : World} {g : Nat} {A : Array Value} {t : TypeId} (h : Blk w g A t) {base n : Nat} (hb : base ≤ g) (hn : A.size = n) (hm : n ≤ maxLen) : w.ownsRow base t 1 (.slice (some ⟨g, 0, none⟩) n n) n A.toList := by
  subst hn
  exact ⟨by simp, .inr ⟨g, A.size, A, rfl, hb, h, Nat.le_refl _, hm, by simp, List.take_of_length_le (by simp)⟩⟩

def arr4 (n : Int) : Nat → Array Value
  | 0 => #[.int .u8 (n / 16777216 % 256), .int .u8 (n / 65536 % 256), .int .u8 (n / 256 % 256), .int .u8 (n % 256)]
  | 1 => #[.int .u8 0, .int .u8 (n / 65536 % 256), .int .u8 (n / 256 % 256), .int .u8 (n % 256)]
  | 2 => #[.int .u8 0, .int .u8 0, .int .u8 (n / 256 % 256), .int .u8 (n % 256)]
  | 3 => #[.int .u8 0, .int .u8 0, .int .u8 0, .int .u8 (n % 256)]
  | _ => #[.int .u8 0, .int .u8 0, .int .u8 0, .int .u8 0]
def quo4 (n : Int) : Nat → Int
  | 0 => n / 4294967296
  | 1 => n / 16777216
  | 2 => n / 65536
  | 3 => n / 256
  | _ => n
set_option maxRecDepth 100000 in
set_option maxHeartbeats 2000000 in
theorem number4 (n : Int) (hn : 0 ≤ n) (hn2 : n ≤ 1099511627776) (w : World) : Calls Try.prog 19 #[.int .i64 n, .int .i64 4] w fun e w' => e = .returned (.slice (some ⟨w.heap.size, 0, none⟩) 4 4) ∧ Blk w' w.heap.size #[.int .u8 (n / 16777216 % 256), .int .u8 (n / 65536 % 256), .int .u8 (n / 256 % 256), .int .u8 (n % 256)] 5 ∧ Below w.heap.size w w' := by
  have hmk : ∀ w : World, (Instr.makeSlice 27 (.int .i64 4) (.int .i64 4)).run Try.prog w = .ok (.slice (some ⟨w.heap.size, 0, none⟩) 4 4) (w.alloc (.cells #[.int .u8 0, .int .u8 0, .int .u8 0, .int .u8 0] 5)) := fun _ => by kernel_rfl
  have H0 := Lib.hid ((HeldB.nil (low0 w (.cells #[.int .u8 0, .int .u8 0, .int .u8 0, .int .u8 0] 5))).cons (Blk.new w #[.int .u8 0, .int .u8 0, .int .u8 0, .int .u8 0] 5))
  go_enter Try.func19, Try.ntmps19
  go_wp2
  go_loopw [0, 6] (fun nv iv wr => ∃ j : Nat, j ≤ 4 ∧ iv = .int .i64 ((j : Int) - 1) ∧ nv = .int .i64 (quo4 n j) ∧ HeldB w [(w.heap.size, arr4 n j, 5)] wr) (fun _ iv _ => (intOf iv + 1).toNat)
  case atStart => exact ⟨4, by omega, rfl, rfl, H0.out⟩
  case round =>
    obtain ⟨j, hj, rfl, rfl, HI⟩ := hrel
    have HI := Lib.hid HI
    rcases (show j = 0 ∨ j = 1 ∨ j = 2 ∨ j = 3 ∨ j = 4 by omega) with rfl | rfl | rfl | rfl | rfl
    all_goals simp only [quo4]
    · go_wp2
      go_ret
      exact ⟨rfl, HI.out.b0, HI.out.2⟩
    · have hq : 0 ≤ n / 16777216 := by omega
      have hq2 : n / 16777216 ≤ 1099511627776 := by omega
      obtain ⟨q0_0, q0_1, q0_2, q0_3⟩ := ((show HeldB w [(w.heap.size, #[.int .u8 0, .int .u8 (n / 65536 % 256), .int .u8 (n / 256 % 256), .int .u8 (n % 256)], 5)] wr from HI.out)).b0.cells4; have qf0 := ((show HeldB w [(w.heap.size, #[.int .u8 0, .int .u8 (n / 65536 % 256), .int .u8 (n / 256 % 256), .int .u8 (n % 256)], 5)] wr from HI.out)).b0.free
      go_wp2
      have H1 := (show HeldB w [(w.heap.size, #[.int .u8 0, .int .u8 (n / 65536 % 256), .int .u8 (n / 256 % 256), .int .u8 (n % 256)], 5)] wr from HI.out).set (by first | omega | (simp; done) | (simp; omega)) (by simp) 0 (.int .u8 (n / 16777216 % 256))
      simp only [List.setIfInBounds_toArray, List.set_cons_zero] at H1
      have H1' := Lib.hid H1
      clear H1
      go_roundw
      case rel => exact ⟨0, by omega, by first | rfl | go_num, congrArg (Value.int .i64) (show _ = n / 4294967296 by omega), H1'.out⟩
      case measure => simp [intOf]
    · have hq : 0 ≤ n / 65536 := by omega
      have hq2 : n / 65536 ≤ 1099511627776 := by omega
      obtain ⟨q0_0, q0_1, q0_2, q0_3⟩ := ((show HeldB w [(w.heap.size, #[.int .u8 0, .int .u8 0, .int .u8 (n / 256 % 256), .int .u8 (n % 256)], 5)] wr from HI.out)).b0.cells4; have qf0 := ((show HeldB w [(w.heap.size, #[.int .u8 0, .int .u8 0, .int .u8 (n / 256 % 256), .int .u8 (n % 256)], 5)] wr from HI.out)).b0.free
      go_wp2
      have H1 := (show HeldB w [(w.heap.size, #[.int .u8 0, .int .u8 0, .int .u8 (n / 256 % 256), .int .u8 (n % 256)], 5)] wr from HI.out).set (by first | omega | (simp; done) | (simp; omega)) (by simp) 1 (.int .u8 (n / 65536 % 256))
      simp only [List.setIfInBounds_toArray, List.set_cons_zero, List.set_cons_succ] at H1
      have H1' := Lib.hid H1
      clear H1
      go_roundw
      case rel => exact ⟨1, by omega, by first | rfl | go_num, congrArg (Value.int .i64) (show _ = n / 16777216 by omega), H1'.out⟩
      case measure => simp [intOf]
    · have hq : 0 ≤ n / 256 := by omega
      have hq2 : n / 256 ≤ 1099511627776 := by omega
      obtain ⟨q0_0, q0_1, q0_2, q0_3⟩ := ((show HeldB w [(w.heap.size, #[.int .u8 0, .int .u8 0, .int .u8 0, .int .u8 (n % 256)], 5)] wr from HI.out)).b0.cells4; have qf0 := ((show HeldB w [(w.heap.size, #[.int .u8 0, .int .u8 0, .int .u8 0, .int .u8 (n % 256)], 5)] wr from HI.out)).b0.free
      go_wp2
      have H1 := (show HeldB w [(w.heap.size, #[.int .u8 0, .int .u8 0, .int .u8 0, .int .u8 (n % 256)], 5)] wr from HI.out).set (by first | omega | (simp; done) | (simp; omega)) (by simp) 2 (.int .u8 (n / 256 % 256))
      simp only [List.setIfInBounds_toArray, List.set_cons_zero, List.set_cons_succ] at H1
      have H1' := Lib.hid H1
      clear H1
      go_roundw
      case rel => exact ⟨2, by omega, by first | rfl | go_num, congrArg (Value.int .i64) (show _ = n / 65536 by omega), H1'.out⟩
      case measure => simp [intOf]
    · have hq : 0 ≤ n := by omega
      have hq2 : n ≤ 1099511627776 := by omega
      obtain ⟨q0_0, q0_1, q0_2, q0_3⟩ := ((show HeldB w [(w.heap.size, #[.int .u8 0, .int .u8 0, .int .u8 0, .int .u8 0], 5)] wr from HI.out)).b0.cells4; have qf0 := ((show HeldB w [(w.heap.size, #[.int .u8 0, .int .u8 0, .int .u8 0, .int .u8 0], 5)] wr from HI.out)).b0.free
      go_wp2
      have H1 := (show HeldB w [(w.heap.size, #[.int .u8 0, .int .u8 0, .int .u8 0, .int .u8 0], 5)] wr from HI.out).set (by first | omega | (simp; done) | (simp; omega)) (by simp) 3 (.int .u8 (n % 256))
      simp only [List.setIfInBounds_toArray, List.set_cons_zero, List.set_cons_succ] at H1
      have H1' := Lib.hid H1
      clear H1
      go_roundw
      case rel => exact ⟨3, by omega, by first | rfl | go_num, congrArg (Value.int .i64) (show _ = n / 256 by omega), H1'.out⟩
      case measure => simp [intOf]

def arr6 (n : Int) : Nat → Array Value
  | 0 => #[.int .u8 (n / 1099511627776 % 256), .int .u8 (n / 4294967296 % 256), .int .u8 (n / 16777216 % 256), .int .u8 (n / 65536 % 256), .int .u8 (n / 256 % 256), .int .u8 (n % 256)]
  | 1 => #[.int .u8 0, .int .u8 (n / 4294967296 % 256), .int .u8 (n / 16777216 % 256), .int .u8 (n / 65536 % 256), .int .u8 (n / 256 % 256), .int .u8 (n % 256)]
  | 2 => #[.int .u8 0, .int .u8 0, .int .u8 (n / 16777216 % 256), .int .u8 (n / 65536 % 256), .int .u8 (n / 256 % 256), .int .u8 (n % 256)]
  | 3 => #[.int .u8 0, .int .u8 0, .int .u8 0, .int .u8 (n / 65536 % 256), .int .u8 (n / 256 % 256), .int .u8 (n % 256)]
  | 4 => #[.int .u8 0, .int .u8 0, .int .u8 0, .int .u8 0, .int .u8 (n / 256 % 256), .int .u8 (n % 256)]
  | 5 => #[.int .u8 0, .int .u8 0, .int .u8 0, .int .u8 0, .int .u8 0, .int .u8 (n % 256)]
  | _ => #[.int .u8 0, .int .u8 0, .int .u8 0, .int .u8 0, .int .u8 0, .int .u8 0]
def quo6 (n : Int) : Nat → Int
  | 0 => n / 281474976710656
  | 1 => n / 1099511627776
  | 2 => n / 4294967296
  | 3 => n / 16777216
  | 4 => n / 65536
  | 5 => n / 256
  | _ => n
set_option maxRecDepth 100000 in
set_option maxHeartbeats 2000000 in
theorem number6 (n : Int) (hn : 0 ≤ n) (hn2 : n ≤ 1099511627776) (w : World) : Calls Try.prog 19 #[.int .i64 n, .int .i64 6] w fun e w' => e = .returned (.slice (some ⟨w.heap.size, 0, none⟩) 6 6) ∧ Blk w' w.heap.size #[.int .u8 (n / 1099511627776 % 256), .int .u8 (n / 4294967296 % 256), .int .u8 (n / 16777216 % 256), .int .u8 (n / 65536 % 256), .int .u8 (n / 256 % 256), .int .u8 (n % 256)] 5 ∧ Below w.heap.size w w' := by
  have hmk : ∀ w : World, (Instr.makeSlice 27 (.int .i64 6) (.int .i64 6)).run Try.prog w = .ok (.slice (some ⟨w.heap.size, 0, none⟩) 6 6) (w.alloc (.cells #[.int .u8 0, .int .u8 0, .int .u8 0, .int .u8 0, .int .u8 0, .int .u8 0] 5)) := fun _ => by kernel_rfl
  have H0 := Lib.hid ((HeldB.nil (low0 w (.cells #[.int .u8 0, .int .u8 0, .int .u8 0, .int .u8 0, .int .u8 0, .int .u8 0] 5))).cons (Blk.new w #[.int .u8 0, .int .u8 0, .int .u8 0, .int .u8 0, .int .u8 0, .int .u8 0] 5))
  go_enter Try.func19, Try.ntmps19
  go_wp2
  go_loopw [0, 6] (fun nv iv wr => ∃ j : Nat, j ≤ 6 ∧ iv = .int .i64 ((j : Int) - 1) ∧ nv = .int .i64 (quo6 n j) ∧ HeldB w [(w.heap.size, arr6 n j, 5)] wr) (fun _ iv _ => (intOf iv + 1).toNat)
  case atStart => exact ⟨6, by omega, rfl, rfl, H0.out⟩
  case round =>
    obtain ⟨j, hj, rfl, rfl, HI⟩ := hrel
    have HI := Lib.hid HI
    rcases (show j = 0 ∨ j = 1 ∨ j = 2 ∨ j = 3 ∨ j = 4 ∨ j = 5 ∨ j = 6 by omega) with rfl | rfl | rfl | rfl | rfl | rfl | rfl
    all_goals simp only [quo6]
    · go_wp2
      go_ret
      exact ⟨rfl, HI.out.b0, HI.out.2⟩
    · have hq : 0 ≤ n / 1099511627776 := by omega
      have hq2 : n / 1099511627776 ≤ 1099511627776 := by omega
      obtain ⟨q0_0, q0_1, q0_2, q0_3, q0_4, q0_5⟩ := ((show HeldB w [(w.heap.size, #[.int .u8 0, .int .u8 (n / 4294967296 % 256), .int .u8 (n / 16777216 % 256), .int .u8 (n / 65536 % 256), .int .u8 (n / 256 % 256), .int .u8 (n % 256)], 5)] wr from HI.out)).b0.cells6; have qf0 := ((show HeldB w [(w.heap.size, #[.int .u8 0, .int .u8 (n / 4294967296 % 256), .int .u8 (n / 16777216 % 256), .int .u8 (n / 65536 % 256), .int .u8 (n / 256 % 256), .int .u8 (n % 256)], 5)] wr from HI.out)).b0.free
      go_wp2
      have H1 := (show HeldB w [(w.heap.size, #[.int .u8 0, .int .u8 (n / 4294967296 % 256), .int .u8 (n / 16777216 % 256), .int .u8 (n / 65536 % 256), .int .u8 (n / 256 % 256), .int .u8 (n % 256)], 5)] wr from HI.out).set (by first | omega | (simp; done) | (simp; omega)) (by simp) 0 (.int .u8 (n / 1099511627776 % 256))
      simp only [List.setIfInBounds_toArray, List.set_cons_zero] at H1
      have H1' := Lib.hid H1
      clear H1
      go_roundw
      case rel => exact ⟨0, by omega, by first | rfl | go_num, congrArg (Value.int .i64) (show _ = n / 281474976710656 by omega), H1'.out⟩
      case measure => simp [intOf]
    · have hq : 0 ≤ n / 4294967296 := by omega
      have hq2 : n / 4294967296 ≤ 1099511627776 := by omega
      obtain ⟨q0_0, q0_1, q0_2, q0_3, q0_4, q0_5⟩ := ((show HeldB w [(w.heap.size, #[.int .u8 0, .int .u8 0, .int .u8 (n / 16777216 % 256), .int .u8 (n / 65536 % 256), .int .u8 (n / 256 % 256), .int .u8 (n % 256)], 5)] wr from HI.out)).b0.cells6; have qf0 := ((show HeldB w [(w.heap.size, #[.int .u8 0, .int .u8 0, .int .u8 (n / 16777216 % 256), .int .u8 (n / 65536 % 256), .int .u8 (n / 256 % 256), .int .u8 (n % 256)], 5)] wr from HI.out)).b0.free
      go_wp2
      have H1 := (show HeldB w [(w.heap.size, #[.int .u8 0, .int .u8 0, .int .u8 (n / 16777216 % 256), .int .u8 (n / 65536 % 256), .int .u8 (n / 256 % 256), .int .u8 (n % 256)], 5)] wr from HI.out).set (by first | omega | (simp; done) | (simp; omega)) (by simp) 1 (.int .u8 (n / 4294967296 % 256))
      simp only [List.setIfInBounds_toArray, List.set_cons_zero, List.set_cons_succ] at H1
      have H1' := Lib.hid H1
      clear H1
      go_roundw
      case rel => exact ⟨1, by omega, by first | rfl | go_num, congrArg (Value.int .i64) (show _ = n / 1099511627776 by omega), H1'.out⟩
      case measure => simp [intOf]
    · have hq : 0 ≤ n / 16777216 := by omega
      have hq2 : n / 16777216 ≤ 1099511627776 := by omega
      obtain ⟨q0_0, q0_1, q0_2, q0_3, q0_4, q0_5⟩ := ((show HeldB w [(w.heap.size, #[.int .u8 0, .int .u8 0, .int .u8 0, .int .u8 (n / 65536 % 256), .int .u8 (n / 256 % 256), .int .u8 (n % 256)], 5)] wr from HI.out)).b0.cells6; have qf0 := ((show HeldB w [(w.heap.size, #[.int .u8 0, .int .u8 0, .int .u8 0, .int .u8 (n / 65536 % 256), .int .u8 (n / 256 % 256), .int .u8 (n % 256)], 5)] wr from HI.out)).b0.free
      go_wp2
      have H1 := (show HeldB w [(w.heap.size, #[.int .u8 0, .int .u8 0, .int .u8 0, .int .u8 (n / 65536 % 256), .int .u8 (n / 256 % 256), .int .u8 (n % 256)], 5)] wr from HI.out).set (by first | omega | (simp; done) | (simp; omega)) (by simp) 2 (.int .u8 (n / 16777216 % 256))
      simp only [List.setIfInBounds_toArray, List.set_cons_zero, List.set_cons_succ] at H1
      have H1' := Lib.hid H1
      clear H1
      go_roundw
      case rel => exact ⟨2, by omega, by first | rfl | go_num, congrArg (Value.int .i64) (show _ = n / 4294967296 by omega), H1'.out⟩
      case measure => simp [intOf]
    · have hq : 0 ≤ n / 65536 := by omega
      have hq2 : n / 65536 ≤ 1099511627776 := by omega
      obtain ⟨q0_0, q0_1, q0_2, q0_3, q0_4, q0_5⟩ := ((show HeldB w [(w.heap.size, #[.int .u8 0, .int .u8 0, .int .u8 0, .int .u8 0, .int .u8 (n / 256 % 256), .int .u8 (n % 256)], 5)] wr from HI.out)).b0.cells6; have qf0 := ((show HeldB w [(w.heap.size, #[.int .u8 0, .int .u8 0, .int .u8 0, .int .u8 0, .int .u8 (n / 256 % 256), .int .u8 (n % 256)], 5)] wr from HI.out)).b0.free
      go_wp2
      have H1 := (show HeldB w [(w.heap.size, #[.int .u8 0, .int .u8 0, .int .u8 0, .int .u8 0, .int .u8 (n / 256 % 256), .int .u8 (n % 256)], 5)] wr from HI.out).set (by first | omega | (simp; done) | (simp; omega)) (by simp) 3 (.int .u8 (n / 65536 % 256))
      simp only [List.setIfInBounds_toArray, List.set_cons_zero, List.set_cons_succ] at H1
      have H1' := Lib.hid H1
      clear H1
      go_roundw
      case rel => exact ⟨3, by omega, by first | rfl | go_num, congrArg (Value.int .i64) (show _ = n / 16777216 by omega), H1'.out⟩
      case measure => simp [intOf]
    · have hq : 0 ≤ n / 256 := by omega
      have hq2 : n / 256 ≤ 1099511627776 := by omega
      obtain ⟨q0_0, q0_1, q0_2, q0_3, q0_4, q0_5⟩ := ((show HeldB w [(w.heap.size, #[.int .u8 0, .int .u8 0, .int .u8 0, .int .u8 0, .int .u8 0, .int .u8 (n % 256)], 5)] wr from HI.out)).b0.cells6; have qf0 := ((show HeldB w [(w.heap.size, #[.int .u8 0, .int .u8 0, .int .u8 0, .int .u8 0, .int .u8 0, .int .u8 (n % 256)], 5)] wr from HI.out)).b0.free
      go_wp2
      have H1 := (show HeldB w [(w.heap.size, #[.int .u8 0, .int .u8 0, .int .u8 0, .int .u8 0, .int .u8 0, .int .u8 (n % 256)], 5)] wr from HI.out).set (by first | omega | (simp; done) | (simp; omega)) (by simp) 4 (.int .u8 (n / 256 % 256))
      simp only [List.setIfInBounds_toArray, List.set_cons_zero, List.set_cons_succ] at H1
      have H1' := Lib.hid H1
      clear H1
      go_roundw
      case rel => exact ⟨4, by omega, by first | rfl | go_num, congrArg (Value.int .i64) (show _ = n / 65536 by omega), H1'.out⟩
      case measure => simp [intOf]
    · have hq : 0 ≤ n := by omega
      have hq2 : n ≤ 1099511627776 := by omega
      obtain ⟨q0_0, q0_1, q0_2, q0_3, q0_4, q0_5⟩ := ((show HeldB w [(w.heap.size, #[.int .u8 0, .int .u8 0, .int .u8 0, .int .u8 0, .int .u8 0, .int .u8 0], 5)] wr from HI.out)).b0.cells6; have qf0 := ((show HeldB w [(w.heap.size, #[.int .u8 0, .int .u8 0, .int .u8 0, .int .u8 0, .int .u8 0, .int .u8 0], 5)] wr from HI.out)).b0.free
      go_wp2
      have H1 := (show HeldB w [(w.heap.size, #[.int .u8 0, .int .u8 0, .int .u8 0, .int .u8 0, .int .u8 0, .int .u8 0], 5)] wr from HI.out).set (by first | omega | (simp; done) | (simp; omega)) (by simp) 5 (.int .u8 (n % 256))
      simp only [List.setIfInBounds_toArray, List.set_cons_zero, List.set_cons_succ] at H1
      have H1' := Lib.hid H1
      clear H1
      go_roundw
      case rel => exact ⟨5, by omega, by first | rfl | go_num, congrArg (Value.int .i64) (show _ = n / 256 by omega), H1'.out⟩
      case measure => simp [intOf]

/-- A slice of the call's own, with these cells. -/
def NumAt (A : Array Value) (w : World) (e : Ending) (w' : World) : Prop := ∃ g, w.heap.size ≤ g ∧ e = .returned (.slice (some ⟨g, 0, none⟩) A.size A.size) ∧ Blk w' g A 5 ∧ Below w.heap.size w w'

theorem number4g (n : Int) (hn : 0 ≤ n) (hn2 : n ≤ 1099511627776) (w : World) : Calls Try.prog 19 #[.int .i64 n, .int .i64 4] w (NumAt #[.int .u8 (n / 16777216 % 256), .int .u8 (n / 65536 % 256), .int .u8 (n / 256 % 256), .int .u8 (n % 256)] w) :=
  (number4 n hn hn2 w).mono fun e w' ⟨h1, h2, h3⟩ => ⟨_, Nat.le_refl _, h1, h2, h3⟩

theorem number6g (n : Int) (hn : 0 ≤ n) (hn2 : n ≤ 1099511627776) (w : World) : Calls Try.prog 19 #[.int .i64 n, .int .i64 6] w (NumAt #[.int .u8 (n / 1099511627776 % 256), .int .u8 (n / 4294967296 % 256), .int .u8 (n / 16777216 % 256), .int .u8 (n / 65536 % 256), .int .u8 (n / 256 % 256), .int .u8 (n % 256)] w) :=
  (number6 n hn hn2 w).mono fun e w' ⟨h1, h2, h3⟩ => ⟨_, Nat.le_refl _, h1, h2, h3⟩

end Go.Proofs.Ytihekjoeibljpaa
