/- The lease of bytes. -/
import Derived.Test.YtihekjoeibljpaaOfs
namespace Go.Proofs.Ytihekjoeibljpaa
open Go.ChangeShapes Go.WideShapes Go.ChangeAt Go.RowKit
set_option linter.unusedVariables false
set_option linter.unusedSimpArgs false

/-- A lease's cells, five of them by their places. -/
def LP (A y : Int) (s : ByteArray) (u : Nat → Int) : Array Value := #[.int .u32 A, .int .i64 y, .string s, .int .i64 (u 0), .int .i64 (u 1), .int .i64 (u 2), .int .i64 (u 3), .int .i64 (u 4)]
theorem LP_cell {A y : Int} {s : ByteArray} {u : Nat → Int} {k : Nat} (hk : k < 5) : (LP A y s u)[3 + k]? = some (.int .i64 (u k)) := by
  rcases (show k = 0 ∨ k = 1 ∨ k = 2 ∨ k = 3 ∨ k = 4 by omega) with rfl | rfl | rfl | rfl | rfl <;> rfl
def updN (u : Nat → Int) (k : Nat) (x : Int) : Nat → Int := fun i => if i = k then x else u i
theorem LP_set {A y : Int} {s : ByteArray} {u : Nat → Int} {k : Nat} {x : Int} (hk : k < 5) : (LP A y s u).setIfInBounds (3 + k) (.int .i64 x) = LP A y s (updN u k x) := by
  rcases (show k = 0 ∨ k = 1 ∨ k = 2 ∨ k = 3 ∨ k = 4 by omega) with rfl | rfl | rfl | rfl | rfl <;> simp [LP, updN]
/-- The times, the first k of them, and of the next one m bytes. -/
def pv (xs : List Int) (k m : Nat) : Nat → Int := fun i => if i < k then numV ((xs.drop (5 + 6 * i)).take 6) else if i = k then numV ((xs.drop (5 + 6 * k)).take m) else 0
theorem pv_step (xs : List Int) {k m q : Nat} (hq : q = 5 + 6 * k + m) (hl : q < xs.length) (hm : m < 6) : numV ((xs.drop (5 + 6 * k)).take (m + 1)) = pv xs k m k * 256 + xs.getD q 0 := by
  subst hq
  rw [numV_take _ (by rw [List.length_drop]; omega)]
  unfold pv
  rw [if_neg (by omega), if_pos rfl]
  congr 1
  rw [List.getD_eq_getElem?_getD, List.getD_eq_getElem?_getD, List.getElem?_drop]
theorem pv_bound (xs : List Int) (hx : ∀ z ∈ xs, 0 ≤ z ∧ z ≤ 255) (k m : Nat) (hl : 5 + 6 * k + m ≤ xs.length) (hm : m < 6) : 0 ≤ pv xs k m k ∧ pv xs k m k < 1099511627776 := by
  unfold pv
  rw [if_neg (by omega), if_pos rfl]
  have h := numV_bound (xs.drop (5 + 6 * k)) (fun z hz => hx z (List.mem_of_mem_drop hz)) m (by rw [List.length_drop]; omega)
  have hp : (256 : Int) ^ m ≤ 1099511627776 := by
    rcases (show m = 0 ∨ m = 1 ∨ m = 2 ∨ m = 3 ∨ m = 4 ∨ m = 5 by omega) with rfl | rfl | rfl | rfl | rfl | rfl <;> decide
  omega
theorem pv_upd (xs : List Int) (k m : Nat) : updN (pv xs k m) k (numV ((xs.drop (5 + 6 * k)).take (m + 1))) = pv xs k (m + 1) := by
  funext i
  unfold updN pv
  by_cases h : i = k
  · subst h
    rw [if_pos rfl, if_neg (by omega), if_pos rfl]
  · rw [if_neg h]
    by_cases h2 : i < k
    · rw [if_pos h2, if_pos h2]
    · rw [if_neg h2, if_neg h2, if_neg h, if_neg h]
theorem pv_six (xs : List Int) (k : Nat) : pv xs k 6 = pv xs (k + 1) 0 := by
  funext i
  unfold pv
  by_cases h : i = k
  · subst h
    rw [if_neg (by omega), if_pos rfl, if_pos (by omega)]
  · by_cases h2 : i < k
    · rw [if_pos h2, if_pos (by omega)]
    · rw [if_neg h2, if_neg h, if_neg (by omega)]
      by_cases h3 : i = k + 1
      · rw [if_pos h3]
        rfl
      · rw [if_neg h3]

set_option maxRecDepth 100000 in
theorem dec_short (a : Option Addr) (n c : Nat) (hn : n < 36) (w : World) : Calls Try.prog 16 #[.slice a n c] w fun e w' => e = .returned (.tuple #[.agg #[.int .u32 0, .int .i64 0, .string { data := #[] }, .int .i64 0, .int .i64 0, .int .i64 0, .int .i64 0, .int .i64 0], .int .i64 2]) ∧ Below w.heap.size w w' := by
  have hn1 : (n : Int) < 36 := by omega
  have H0 := Lib.hid ((HeldB.nil (low0 w (.cells #[.int .u32 0, .int .i64 0, .string { data := #[] }, .int .i64 0, .int .i64 0, .int .i64 0, .int .i64 0, .int .i64 0] 25))).cons (Blk.new w #[.int .u32 0, .int .i64 0, .string { data := #[] }, .int .i64 0, .int .i64 0, .int .i64 0, .int .i64 0, .int .i64 0] 25))
  go_enter Try.func16, Try.ntmps16
  go_wp2
  refine bodyPost_ret (v := .tuple #[.agg #[.int .u32 0, .int .i64 0, .string { data := #[] }, .int .i64 0, .int .i64 0, .int .i64 0, .int .i64 0, .int .i64 0], .int .i64 2]) (by simp [results, Try.results16, go_sem]) rfl ⟨rfl, ?_⟩
  first
    | exact H0.out.2
    | (repeat (refine Below.setCell ?_ (by first | omega | (simp; done) | (simp; omega)) _); exact H0.out.2)

set_option maxRecDepth 100000 in
theorem dec_odd (xs : List Int) (hx : ∀ z ∈ xs, 0 ≤ z ∧ z ≤ 255) (g o c : Nat) (w : World) (hn : 36 ≤ xs.length) (hn2 : xs.length ≤ 1000) (h : RowAt w g o (xs.map (Value.int .u8))) (h35 : xs.getD 35 0 ≠ xs.length - 36) : Calls Try.prog 16 #[.slice (some ⟨g, o, none⟩) xs.length c] w fun e w' => e = .returned (.tuple #[.agg #[.int .u32 0, .int .i64 0, .string { data := #[] }, .int .i64 0, .int .i64 0, .int .i64 0, .int .i64 0, .int .i64 0], .int .i64 2]) ∧ Below w.heap.size w w' := by
  have hc : (w.alloc (.cells #[.int .u32 0, .int .i64 0, .string { data := #[] }, .int .i64 0, .int .i64 0, .int .i64 0, .int .i64 0, .int .i64 0] 25)).cell? ⟨g, o + 35, none⟩ = some (.int .u8 (xs.getD 35 0)) := (h.keep (low0 w _)).at (by rw [List.getElem?_map, List.getElem?_eq_getElem (by omega), List.getD_eq_getElem?_getD, List.getElem?_eq_getElem (by omega)]; rfl)
  have hv := u8_range xs hx 35
  generalize xs.getD 35 0 = v at *
  obtain ⟨hv1, hv2⟩ := hv
  generalize xs.length = n at *
  have hne : (v == (n : Int) - 36) = false := beq_eq_false_iff_ne.2 h35
  have hne2 : (v != (n : Int) - 36) = true := bne_iff_ne.2 h35
  have hn1 : ¬ (n : Int) < 36 := by omega
  have hn3 : decide ((n : Int) < 36) = false := decide_eq_false hn1
  clear h hx h35
  have H0 := Lib.hid ((HeldB.nil (low0 w (.cells #[.int .u32 0, .int .i64 0, .string { data := #[] }, .int .i64 0, .int .i64 0, .int .i64 0, .int .i64 0, .int .i64 0] 25))).cons (Blk.new w #[.int .u32 0, .int .i64 0, .string { data := #[] }, .int .i64 0, .int .i64 0, .int .i64 0, .int .i64 0, .int .i64 0] 25))
  go_enter Try.func16, Try.ntmps16
  go_wp2
  refine bodyPost_ret (v := .tuple #[.agg #[.int .u32 0, .int .i64 0, .string { data := #[] }, .int .i64 0, .int .i64 0, .int .i64 0, .int .i64 0, .int .i64 0], .int .i64 2]) (by simp [results, Try.results16, go_sem]) rfl ⟨rfl, ?_⟩
  first
    | exact H0.out.2
    | (repeat (refine Below.setCell ?_ (by first | omega | (simp; done) | (simp; omega)) _); exact H0.out.2)

theorem getx (xs : List Int) {k : Nat} (hk : k < xs.length) : (xs.map (Value.int .u8))[k]? = some (.int .u8 (xs.getD k 0)) := by
  rw [List.getElem?_map, List.getElem?_eq_getElem hk, List.getD_eq_getElem?_getD, List.getElem?_eq_getElem hk]
  rfl
/-- The lease that bytes tell. -/
def DecP (xs : List Int) : Prop := RightP (xs.getD 4 0) (strOf (xs.drop 36)) (pv xs 5 0 0) (pv xs 5 0 1) (pv xs 5 0 2) (pv xs 5 0 3) (pv xs 5 0 4)
def decV (xs : List Int) : Array Value := LP (numV (xs.take 4)) (xs.getD 4 0) (strOf (xs.drop 36)) (pv xs 5 0)
def DecPost (xs : List Int) (w : World) (e : Ending) (w' : World) : Prop :=
  (DecP xs → e = .returned (.tuple #[.agg (decV xs), .int .i64 0])) ∧ (¬ DecP xs → e = .returned (.tuple #[.agg #[.int .u32 0, .int .i64 0, .string { data := #[] }, .int .i64 0, .int .i64 0, .int .i64 0, .int .i64 0, .int .i64 0], .int .i64 2])) ∧ Below w.heap.size w w'
theorem DecPost.yes {xs : List Int} {w w' : World} {A : Array Value} (h : DecP xs) (hA : A = decV xs) (hb : Below w.heap.size w w') : DecPost xs w (.returned (.tuple #[.agg A, .int .i64 0])) w' :=
  ⟨fun _ => by rw [hA], fun hn => absurd h hn, hb⟩
theorem DecPost.no {xs : List Int} {w w' : World} (h : ¬ DecP xs) (hb : Below w.heap.size w w') : DecPost xs w (.returned (.tuple #[.agg #[.int .u32 0, .int .i64 0, .string { data := #[] }, .int .i64 0, .int .i64 0, .int .i64 0, .int .i64 0, .int .i64 0], .int .i64 2])) w' :=
  ⟨fun hn => absurd hn h, fun _ => rfl, hb⟩
theorem dec_ix (g : Nat) : ∀ k : Nat, k < 5 → ∀ w' : World, (Instr.index 41 (.agg #[.pointer (some ⟨g, 3, none⟩), .pointer (some ⟨g, 4, none⟩), .pointer (some ⟨g, 5, none⟩), .pointer (some ⟨g, 6, none⟩), .pointer (some ⟨g, 7, none⟩)]) (.int .i64 k)).run Try.prog w' = .ok (.pointer (some ⟨g, 3 + k, none⟩)) w' := by
  intro k hk
  rcases (show k = 0 ∨ k = 1 ∨ k = 2 ∨ k = 3 ∨ k = 4 by omega) with rfl | rfl | rfl | rfl | rfl <;> exact fun _ => by kernel_rfl
theorem conv36 {w : World} {g o n c : Nat} {xs : List Int} (h : RowAt w g o (xs.map (Value.int .u8))) (hn : xs.length = n) (h36 : 36 ≤ n) (hc : n ≤ c) :
    (convert 27 9 (.slice (if c = 36 then some ⟨g, o, none⟩ else some ⟨g, o + 36, none⟩) (n - 36) (c - 36))).run Try.prog w = .ok (.string (strOf (xs.drop 36))) w := by
  split
  · obtain rfl : n = 36 := by omega
    rw [List.drop_eq_nil_of_le (by omega)]
    exact conv_at Try.underlying27 Try.underlying5 Try.underlying9 (l := []) ⟨h.1, fun j hj => by simp at hj⟩ rfl
  · exact conv_at Try.underlying27 Try.underlying5 Try.underlying9 (by rw [List.map_drop]; exact h.drop 36) (by rw [List.length_drop, hn])
theorem drop36 {w : World} {g o : Nat} {xs : List Int} (h : RowAt w g o (xs.map (Value.int .u8))) : RowAt w g (o + 36) ((xs.drop 36).map (Value.int .u8)) := by
  rw [List.map_drop]
  exact h.drop 36

set_option maxRecDepth 100000 in
set_option maxHeartbeats 2000000 in
theorem dec_big (xs : List Int) (hx : ∀ z ∈ xs, 0 ≤ z ∧ z ≤ 255) (g o c : Nat) (w : World) (hn : 36 ≤ xs.length) (hn2 : xs.length ≤ 1000) (hc : xs.length ≤ c) (hc2 : c ≤ maxLen) (h : RowAt w g o (xs.map (Value.int .u8))) (h35 : xs.getD 35 0 = xs.length - 36) : Calls Try.prog 16 #[.slice (some ⟨g, o, none⟩) xs.length c] w (DecPost xs w) := by
  unfold maxLen at hc2
  have H0 := Lib.hid ((HeldB.nil (low0 w (.cells #[.int .u32 0, .int .i64 0, .string { data := #[] }, .int .i64 0, .int .i64 0, .int .i64 0, .int .i64 0, .int .i64 0] 25))).cons (Blk.new w #[.int .u32 0, .int .i64 0, .string { data := #[] }, .int .i64 0, .int .i64 0, .int .i64 0, .int .i64 0, .int .i64 0] 25))
  have HR := Lib.hid (h.keep (low0 w (.cells #[.int .u32 0, .int .i64 0, .string { data := #[] }, .int .i64 0, .int .i64 0, .int .i64 0, .int .i64 0, .int .i64 0] 25)))
  have HX := Lib.hid hx
  obtain ⟨n, hn0⟩ : ∃ n, n = xs.length := ⟨_, rfl⟩
  rw [← hn0] at hn hn2 hc h35 ⊢
  have HN := Lib.hid hn0
  have HC := Lib.hid (show 36 ≤ n ∧ n ≤ c from ⟨hn, hc⟩)
  obtain ⟨y4, hy4⟩ : ∃ y, y = xs.getD 4 0 := ⟨_, rfl⟩
  obtain ⟨y35, hy35⟩ : ∃ y, y = xs.getD 35 0 := ⟨_, rfl⟩
  have hv4 : 0 ≤ y4 ∧ y4 ≤ 255 := hy4 ▸ u8_range xs hx 4
  have hv35 : 0 ≤ y35 ∧ y35 ≤ 255 := hy35 ▸ u8_range xs hx 35
  rw [← hy35] at h35
  have hc35 := HR.out.at (j := 35) (v := .int .u8 y35) (hy35 ▸ getx xs (by omega))
  have Y4 := Lib.hid hy4
  have Y35 := Lib.hid hy35
  clear hy4 hy35 hn0
  have hn1 : ¬ (n : Int) < 36 := by omega
  have hn3 : decide ((n : Int) < 36) = false := decide_eq_false hn1
  have i4 : (4 : Int) < n := by omega
  have i36 : (36 : Int) ≤ n := by omega
  have i36c : (36 : Int) ≤ c := by omega
  have inc : (n : Int) ≤ c := by omega
  have i4c : (4 : Int) ≤ c := by omega
  have i4c2 : 4 ≤ c := by omega
  have H35 := Lib.hid h35
  have hne : (y35 == (n : Int) - 36) = true := beq_iff_eq.2 h35
  have hne2 : (y35 != (n : Int) - 36) = false := bne_eq_false_iff_eq.2 h35
  have HG := Lib.hid h.1
  have HIX := Lib.hid (dec_ix (w.heap.size + 1))
  clear h hx h35
  go_enter Try.func16, Try.ntmps16
  go_upto_region 3 with (fail)
  refine wp_region_noPanic ?_
  refine wp_region_held_drew (S := fun w' => HeldB w [(w.heap.size, #[.int .u32 0, .int .i64 0, .string { data := #[] }, .int .i64 0, .int .i64 0, .int .i64 0, .int .i64 0, .int .i64 0], 25)] w' ∧ RowAt w' g o (xs.map (Value.int .u8))) (by kernel_rfl) (show _ ∧ _ from ⟨H0.out.drew, HR.out⟩) (fun hHeld => ?_)
  refine wpAnyH_take (i := 0) (oi := { dst := some 24, op := Go.Op.move (Go.Operand.tmp 0), type := 27, pos := "lease.go:51", after := #[], guard := none }) (v := ?vd0_0) rfl (by kernel_rfl) (by kernel_rfl) (by kernel_rfl) (fun _ _ _ h => h) (Or.inl ⟨by rfl, ?yd0_0⟩) (by assumption) ?rd0_0
  case yd0_0 => (intro wS hSw; go_simp; try (with_reducible rfl))
  try simp only [Act.put, List.setIfInBounds_toArray, List.set_cons_zero, List.set_cons_succ]
  refine wpAnyH_take (i := 1) (oi := { dst := some 25, op := Go.Op.indexAddr 27 (Go.Operand.tmp 24) (Go.Operand.const (Go.Value.int Go.IntKind.i64 4)), type := 0, pos := "lease.go:51", after := #[{ on := 0, ground := Go.Ground.data }], guard := none }) (v := ?vd1_1) rfl (by kernel_rfl) (by kernel_rfl) (by kernel_rfl) (fun _ _ _ h => h) (Or.inl ⟨by rfl, ?yd1_1⟩) (by assumption) ?rd1_1
  case yd1_1 => (intro wS hSw; go_simp; try (with_reducible rfl))
  try simp only [Act.put, List.setIfInBounds_toArray, List.set_cons_zero, List.set_cons_succ]
  refine wpAnyH_take (i := 2) (oi := { dst := some 26, op := Go.Op.load 5 (Go.Operand.tmp 25), type := 5, pos := "lease.go:51", after := #[{ on := 1, ground := Go.Ground.data }], guard := none }) (v := ?vd2_2) rfl (by kernel_rfl) (by kernel_rfl) (by kernel_rfl) (fun _ _ _ h => h) (Or.inl ⟨by rfl, ?yd2_2⟩) (by assumption) ?rd2_2
  case yd2_2 => (intro wS hSw; have cx := (hSw.2).at (j := 4) (v := .int .u8 y4) (Y4.out ▸ getx xs (by have := HN.out; omega)); go_simp; try (with_reducible rfl))
  try simp only [Act.put, List.setIfInBounds_toArray, List.set_cons_zero, List.set_cons_succ]
  refine wpAnyH_take (i := 3) (oi := { dst := some 27, op := Go.Op.convert 5 3 (Go.Operand.tmp 26), type := 3, pos := "lease.go:51", after := #[{ on := 2, ground := Go.Ground.data }], guard := none }) (v := .int .i64 y4) rfl (by kernel_rfl) (by kernel_rfl) (by kernel_rfl) (fun _ _ _ h => h) (Or.inl ⟨by rfl, ?yd3_3⟩) (by assumption) ?rd3_3
  case yd3_3 => (intro wS hSw; go_simp; try (exact IntWalk.i64_in _ (by omega)))
  try simp only [Act.put, List.setIfInBounds_toArray, List.set_cons_zero, List.set_cons_succ]
  refine wpAnyH_take (i := 4) (oi := { dst := some 28, op := Go.Op.move (Go.Operand.tmp 0), type := 27, pos := "lease.go:51", after := #[], guard := none }) (v := ?vd4_4) rfl (by kernel_rfl) (by kernel_rfl) (by kernel_rfl) (fun _ _ _ h => h) (Or.inl ⟨by rfl, ?yd4_4⟩) (by assumption) ?rd4_4
  case yd4_4 => (intro wS hSw; go_simp; try (with_reducible rfl))
  try simp only [Act.put, List.setIfInBounds_toArray, List.set_cons_zero, List.set_cons_succ]
  refine wpAnyH_take (i := 5) (oi := { dst := some 29, op := Go.Op.slice 27 (Go.Operand.tmp 28) (some (Go.Operand.const (Go.Value.int Go.IntKind.i64 36))) none none, type := 27, pos := "lease.go:51", after := #[{ on := 4, ground := Go.Ground.data }], guard := none }) (v := ?vd5_5) rfl (by kernel_rfl) (by kernel_rfl) (by kernel_rfl) (fun _ _ _ h => h) (Or.inl ⟨by rfl, ?yd5_5⟩) (by assumption) ?rd5_5
  case yd5_5 => (intro wS hSw; go_simp; try (with_reducible rfl))
  try simp only [Act.put, List.setIfInBounds_toArray, List.set_cons_zero, List.set_cons_succ]
  refine wpAnyH_take (i := 6) (oi := { dst := some 30, op := Go.Op.convert 27 9 (Go.Operand.tmp 29), type := 9, pos := "lease.go:51", after := #[{ on := 5, ground := Go.Ground.data }], guard := none }) (v := ?vd6_6) rfl (by kernel_rfl) (by kernel_rfl) (by kernel_rfl) (fun _ _ _ h => h) (Or.inl ⟨by rfl, ?yd6_6⟩) (by assumption) ?rd6_6
  case yd6_6 => (intro wS hSw; have cv := conv36 hSw.2 HN.out.symm HC.out.1 HC.out.2; go_simp; try (with_reducible rfl))
  try simp only [Act.put, List.setIfInBounds_toArray, List.set_cons_zero, List.set_cons_succ]
  refine wpAnyH_take (i := 7) (oi := { dst := some 31, op := Go.Op.build 25 #[(1, Go.Operand.tmp 27), (2, Go.Operand.tmp 30)], type := 25, pos := "lease.go:51", after := #[{ on := 3, ground := Go.Ground.data }, { on := 6, ground := Go.Ground.data }], guard := none }) (v := ?vd7_7) rfl (by kernel_rfl) (by kernel_rfl) (by kernel_rfl) (fun _ _ _ h => h) (Or.inl ⟨by rfl, ?yd7_7⟩) (by assumption) ?rd7_7
  case yd7_7 => (intro wS hSw; go_simp; try (with_reducible rfl))
  try simp only [Act.put, List.setIfInBounds_toArray, List.set_cons_zero, List.set_cons_succ]
  refine wpAnyH_ready (rs := [8]) (by kernel_rfl) (by simp) ?_
  refine AllReadyH.cons (o := { dst := some 4, op := Go.Op.alloc 25, type := 0, pos := "lease.go:51", after := #[], guard := none }) rfl (fun K hK => ?_) AllReadyH.nil
  go_simp
  refine hK.out _ _ ⟨hHeld.1.alloc (.cells #[.int .u32 0, .int .i64 0, .string { data := #[] }, .int .i64 0, .int .i64 0, .int .i64 0, .int .i64 0, .int .i64 0] 25), hHeld.2.keep (low0 _ _)⟩ (fun hHeld => ?_)
  clear hK K
  try simp only [Act.put, List.setIfInBounds_toArray, List.set_cons_zero, List.set_cons_succ]
  refine wpAnyH_ready (rs := [9]) (by kernel_rfl) (by simp) ?_
  refine AllReadyH.cons (o := { dst := none, op := Go.Op.store 25 (Go.Operand.tmp 4) (Go.Operand.tmp 31), type := 0, pos := "lease.go:51", after := #[{ on := 8, ground := Go.Ground.data }, { on := 7, ground := Go.Ground.data }, { on := 0, ground := Go.Ground.phase }, { on := 1, ground := Go.Ground.phase }, { on := 2, ground := Go.Ground.phase }, { on := 3, ground := Go.Ground.phase }, { on := 4, ground := Go.Ground.phase }, { on := 5, ground := Go.Ground.phase }, { on := 6, ground := Go.Ground.phase }, { on := 7, ground := Go.Ground.phase }, { on := 8, ground := Go.Ground.phase }], guard := none }) rfl (fun K hK => ?_) AllReadyH.nil
  go_simp
  refine hK.out _ _ (show _ ∧ _ from ⟨(H0.out.alloc (.cells #[.int .u32 0, .int .i64 y4, .string (strOf (xs.drop 36)), .int .i64 0, .int .i64 0, .int .i64 0, .int .i64 0, .int .i64 0] 25)).drew, HR.out.keep (low0 _ _).drew⟩) (fun hHeld => ?_)
  clear hK K
  try simp only [Act.put, List.setIfInBounds_toArray, List.set_cons_zero, List.set_cons_succ]
  refine wpAnyH_done (by kernel_rfl) ?_ _
  refine NoPanic.normal ?_
  have H3 := Lib.hid (show HeldB w [((w.heap.size + 1), #[.int .u32 (numV (xs.take 0)), .int .i64 y4, .string (strOf (xs.drop 36)), .int .i64 (0), .int .i64 (0), .int .i64 (0), .int .i64 (0), .int .i64 (0)], 25), (w.heap.size, #[.int .u32 0, .int .i64 0, .string { data := #[] }, .int .i64 0, .int .i64 0, .int .i64 0, .int .i64 0, .int .i64 0], 25)] _ from (((HeldB.nil (lowA (low0 w (.cells #[.int .u32 0, .int .i64 0, .string { data := #[] }, .int .i64 0, .int .i64 0, .int .i64 0, .int .i64 0, .int .i64 0] 25)) (.cells #[.int .u32 0, .int .i64 y4, .string (strOf (xs.drop 36)), .int .i64 0, .int .i64 0, .int .i64 0, .int .i64 0, .int .i64 0] 25))).cons (Blk.new2' w #[.int .u32 0, .int .i64 0, .string { data := #[] }, .int .i64 0, .int .i64 0, .int .i64 0, .int .i64 0, .int .i64 0] 25 (.cells #[.int .u32 0, .int .i64 y4, .string (strOf (xs.drop 36)), .int .i64 0, .int .i64 0, .int .i64 0, .int .i64 0, .int .i64 0] 25))).cons (Blk.new2 w (.cells #[.int .u32 0, .int .i64 0, .string { data := #[] }, .int .i64 0, .int .i64 0, .int .i64 0, .int .i64 0, .int .i64 0] 25) #[.int .u32 0, .int .i64 y4, .string (strOf (xs.drop 36)), .int .i64 0, .int .i64 0, .int .i64 0, .int .i64 0, .int .i64 0] 25)).drew)
  have R3 := Lib.hid hHeld.2
  clear hHeld H0 HR
  generalize ((w.alloc (.cells #[.int .u32 0, .int .i64 0, .string { data := #[] }, .int .i64 0, .int .i64 0, .int .i64 0, .int .i64 0, .int .i64 0] 25)).alloc (.cells #[.int .u32 0, .int .i64 y4, .string (strOf (xs.drop 36)), .int .i64 0, .int .i64 0, .int .i64 0, .int .i64 0, .int .i64 0] 25)).drew = w3 at *
  generalize (if c = 36 then some (⟨g, o, none⟩ : Addr) else some (⟨g, o + 36, none⟩ : Addr)) = ad at *
  go_wp2
  go_loopw [35] (fun i wr => ∃ k : Nat, k ≤ 4 ∧ i = .int .i64 k ∧ HeldB w [((w.heap.size + 1), #[.int .u32 (numV (xs.take k)), .int .i64 y4, .string (strOf (xs.drop 36)), .int .i64 (0), .int .i64 (0), .int .i64 (0), .int .i64 (0), .int .i64 (0)], 25), (w.heap.size, #[.int .u32 0, .int .i64 0, .string { data := #[] }, .int .i64 0, .int .i64 0, .int .i64 0, .int .i64 0, .int .i64 0], 25)] wr ∧ RowAt wr g o (xs.map (Value.int .u8))) (fun i _ => 4 - (intOf i).toNat)
  case atStart => exact ⟨0, by omega, rfl, H3.out, R3.out⟩
  case round =>
    obtain ⟨k, hk, rfl, hH, hR⟩ := hrel
    have HK := Lib.hid hH
    have RK := Lib.hid hR
    clear hH hR
    by_cases hk4 : k < 4
    · have hv := u8_range xs HX.out k
      have hc := RK.out.at (getx xs (k := k) (by have := HN.out; omega))
      have HT := Lib.hid (numV_take xs (k := k) (by have := HN.out; omega))
      generalize xs.getD k 0 = v at *
      obtain ⟨hv1, hv2⟩ := hv
      have hb := numV_bound xs HX.out k (by have := HN.out; omega)
      have hp : (256 : Int) ^ k ≤ 16777216 := by rcases (show k = 0 ∨ k = 1 ∨ k = 2 ∨ k = 3 by omega) with rfl | rfl | rfl | rfl <;> decide
      have hb1 := hb.1
      have hb2 : numV (xs.take k) < 16777216 := by omega
      clear hb hp
      generalize numV (xs.take k) = x at *
      have i4k : (k : Int) < 4 := by omega
      have eb := or_u32 x v hb1 hb2 hv1 hv2
      obtain ⟨q0_0, q0_1, q0_2, q0_3, q0_4, q0_5, q0_6, q0_7⟩ := (HK.out).b0.cells8; have qf0 := (HK.out).b0.free; obtain ⟨q1_0, q1_1, q1_2, q1_3, q1_4, q1_5, q1_6, q1_7⟩ := (HK.out).tl.b0.cells8; have qf1 := (HK.out).tl.b0.free
      have HS := (HK.out).set (by omega) (by simp) 0 (.int .u32 (x * 256 + v))
      simp only [List.setIfInBounds_toArray, List.set_cons_zero] at HS
      have HS2 := Lib.hid HS
      have RS := Lib.hid (RK.out.set (k := w.heap.size + 1) (by have := HG.out; omega) 0 (.int .u32 (x * 256 + v)))
      clear HS
      go_wp2
      exact ⟨⟨k + 1, by omega, by go_num, by rw [HT.out]; exact HS2.out, RS.out⟩, by simp [intOf]; omega⟩
    · obtain rfl : k = 4 := by omega
      have H5 := Lib.hid (show HeldB w [(w.heap.size + 1, LP (numV (xs.take 4)) y4 (strOf (xs.drop 36)) (pv xs 0 0), 25), (w.heap.size, #[.int .u32 0, .int .i64 0, .string { data := #[] }, .int .i64 0, .int .i64 0, .int .i64 0, .int .i64 0, .int .i64 0], 25)] wr from HK.out)
      clear HK
      go_wp2_with (go_at_call 18; (with_reducible refine (times_any _ _).mono ?_); rintro e w4 ⟨rfl, hx⟩; have H6 := Lib.hid (H5.out.keep hx); have R6 := Lib.hid (RK.out.keep hx); clear hx)
      go_loopw [7, 48] (fun p i wr => ∃ k q : Nat, k ≤ 5 ∧ q = 5 + 6 * k ∧ i = .int .i64 k ∧ p = .int .i64 q ∧ HeldB w [(w.heap.size + 1, LP (numV (xs.take 4)) y4 (strOf (xs.drop 36)) (pv xs k 0), 25), (w.heap.size, #[.int .u32 0, .int .i64 0, .string { data := #[] }, .int .i64 0, .int .i64 0, .int .i64 0, .int .i64 0, .int .i64 0], 25)] wr ∧ RowAt wr g o (xs.map (Value.int .u8))) (fun _ i _ => 5 - (intOf i).toNat)
      case atStart => exact ⟨0, 5, by omega, rfl, rfl, rfl, H6.out, R6.out⟩
      case round =>
        obtain ⟨k, q, hk, hq, rfl, rfl, hH, hR⟩ := hrel
        have HK := Lib.hid hH
        have RK := Lib.hid hR
        have HQ := Lib.hid hq
        clear hH hR hq
        by_cases hk5 : k < 5
        · have ix := HIX.out k hk5
          have hkb : decide ((k : Int) < 5) = true := by rw [decide_eq_true_iff]; omega
          obtain ⟨wo, rfl⟩ : ∃ wo : World, wo = wr := ⟨_, rfl⟩
          go_wp2
          go_loopw [7, 51] (fun p i wr => ∃ m q : Nat, m ≤ 6 ∧ q = 5 + 6 * k + m ∧ i = .int .i64 m ∧ p = .int .i64 q ∧ HeldB w [(w.heap.size + 1, LP (numV (xs.take 4)) y4 (strOf (xs.drop 36)) (pv xs k m), 25), (w.heap.size, #[.int .u32 0, .int .i64 0, .string { data := #[] }, .int .i64 0, .int .i64 0, .int .i64 0, .int .i64 0, .int .i64 0], 25)] wr ∧ RowAt wr g o (xs.map (Value.int .u8))) (fun _ i _ => 6 - (intOf i).toNat)
          case atStart => exact ⟨0, q, by omega, HQ.out, rfl, rfl, HK.out, RK.out⟩
          case round =>
            obtain ⟨m, q2, hm, hq, rfl, rfl, hH, hR⟩ := hrel
            have HM := Lib.hid hH
            have RM := Lib.hid hR
            by_cases hm6 : m < 6
            · have hqn : q2 < n := by have := HC.out; omega
              have iqn : (q2 : Int) < n := by omega
              have hv := u8_range xs HX.out q2
              have hcx := getx xs (k := q2) (by have := HN.out; omega)
              have HCX := Lib.hid hcx
              have hT := pv_step xs hq (by have := HN.out; omega) hm6
              obtain ⟨x, hx0⟩ : ∃ x, x = pv xs k m k := ⟨_, rfl⟩
              rw [← hx0] at hT
              have hb := pv_bound xs HX.out k m (by have := HN.out; omega) hm6
              rw [← hx0] at hb
              have hcl := LP_cell (A := numV (xs.take 4)) (y := y4) (s := strOf (xs.drop 36)) (u := pv xs k m) hk5
              rw [← hx0] at hcl
              obtain ⟨v, hv0⟩ : ∃ v, v = xs.getD q2 0 := ⟨_, rfl⟩
              rw [← hv0] at hv hT hcx
              have HCX := Lib.hid hcx
              have HT := Lib.hid hT
              have HCL := Lib.hid hcl
              have HQ2 := Lib.hid hq
              clear hH hR hcx hT hcl hx0 hv0 hq
              obtain ⟨hv1, hv2⟩ := hv
              obtain ⟨hb1, hb2⟩ := hb
              have hmb : decide ((m : Int) < 6) = true := by rw [decide_eq_true_iff]; omega
              have eb := or_i64 x v hb1 hb2 hv1 hv2
              go_upto_region 15 with (fail)
              refine wp_region_seq (S := fun w' => HeldB w [(w.heap.size + 1, LP (numV (xs.take 4)) y4 (strOf (xs.drop 36)) (pv xs k m), 25), (w.heap.size, #[.int .u32 0, .int .i64 0, .string { data := #[] }, .int .i64 0, .int .i64 0, .int .i64 0, .int .i64 0, .int .i64 0], 25)] w' ∧ RowAt w' g o (xs.map (Value.int .u8))) 12 (by kernel_rfl) (by kernel_rfl) (show _ ∧ _ from ⟨HM.out.drew, RM.out⟩) ?_
              simp only [List.take_succ_cons, List.take_zero, List.drop_succ_cons, List.drop_zero]
              refine wpHeld_val (v := ?vq0) (by rfl) ?yq0 ?rq0
              case yq0 => (intro wS hSw; go_simp; try (with_reducible rfl))
              try simp only [Act.put, List.setIfInBounds_toArray, List.set_cons_zero, List.set_cons_succ]
              refine wpHeld_val (v := ?vq1) (by rfl) ?yq1 ?rq1
              case yq1 => (intro wS hSw; go_simp; try (with_reducible rfl))
              try simp only [Act.put, List.setIfInBounds_toArray, List.set_cons_zero, List.set_cons_succ]
              refine wpHeld_val (v := ?vq2) (by rfl) ?yq2 ?rq2
              case yq2 => (intro wS hSw; go_simp; try (with_reducible rfl))
              try simp only [Act.put, List.setIfInBounds_toArray, List.set_cons_zero, List.set_cons_succ]
              refine wpHeld_val (v := ?vq3) (by rfl) ?yq3 ?rq3
              case yq3 => (intro wS hSw; have cx := (hSw.1.b0.cell (3 + k)).trans HCL.out; go_simp; try (with_reducible rfl))
              try simp only [Act.put, List.setIfInBounds_toArray, List.set_cons_zero, List.set_cons_succ]
              refine wpHeld_val (v := .int .i64 (x * 256)) (by rfl) ?yq4 ?rq4
              case yq4 => (intro wS hSw; go_simp; try (exact IntWalk.i64_in _ (by omega)))
              try simp only [Act.put, List.setIfInBounds_toArray, List.set_cons_zero, List.set_cons_succ]
              refine wpHeld_val (v := ?vq5) (by rfl) ?yq5 ?rq5
              case yq5 => (intro wS hSw; go_simp; try (with_reducible rfl))
              try simp only [Act.put, List.setIfInBounds_toArray, List.set_cons_zero, List.set_cons_succ]
              refine wpHeld_val (v := ?vq6) (by rfl) ?yq6 ?rq6
              case yq6 => (intro wS hSw; go_simp; try (with_reducible rfl))
              try simp only [Act.put, List.setIfInBounds_toArray, List.set_cons_zero, List.set_cons_succ]
              refine wpHeld_val (v := ?vq7) (by rfl) ?yq7 ?rq7
              case yq7 => (intro wS hSw; go_simp; try (with_reducible rfl))
              try simp only [Act.put, List.setIfInBounds_toArray, List.set_cons_zero, List.set_cons_succ]
              refine wpHeld_val (v := ?vq8) (by rfl) ?yq8 ?rq8
              case yq8 => (intro wS hSw; have cx := hSw.2.at HCX.out; go_simp; try (with_reducible rfl))
              try simp only [Act.put, List.setIfInBounds_toArray, List.set_cons_zero, List.set_cons_succ]
              refine wpHeld_val (v := .int .i64 v) (by rfl) ?yq9 ?rq9
              case yq9 => (intro wS hSw; go_simp; try (exact IntWalk.i64_in _ (by omega)))
              try simp only [Act.put, List.setIfInBounds_toArray, List.set_cons_zero, List.set_cons_succ]
              refine wpHeld_val (v := .int .i64 (x * 256 + v)) (by rfl) ?yq10 ?rq10
              case yq10 => (intro wS hSw; go_simp; try (first | with_reducible rfl | (split <;> omega)))
              try simp only [Act.put, List.setIfInBounds_toArray, List.set_cons_zero, List.set_cons_succ]
              refine wpHeld_val (v := ?vq11) (by rfl) ?yq11 ?rq11
              case yq11 => (intro wS hSw; go_simp; try (with_reducible rfl))
              try simp only [Act.put, List.setIfInBounds_toArray, List.set_cons_zero, List.set_cons_succ]
              refine wpHeld_nil ?_
              intro wS hSw
              have cx := (hSw.1.b0.cell (3 + k)).trans HCL.out
              have fr := hSw.1.b0.free
              have HS := (hSw.1).set (by omega) (by simp) (3 + k) (.int .i64 (x * 256 + v))
              rw [LP_set hk5] at HS
              have HS2 := Lib.hid HS
              have RS := Lib.hid (hSw.2.set (k := w.heap.size + 1) (by have := HG.out; omega) (3 + k) (.int .i64 (x * 256 + v)))
              clear HS hSw
              go_wp2
              go_roundw
              case rel => exact ⟨m + 1, q2 + 1, by omega, by have := HQ2.out; omega, by go_num, by go_num, by rw [← pv_upd, HT.out]; exact HS2.out, RS.out⟩
              case measure => simp [intOf]; omega
            · obtain rfl : m = 6 := by omega
              have HM2 := Lib.hid (pv_six xs k ▸ hH)
              clear hH hR HM
              go_wp2
              go_roundw
              case rel => exact ⟨k + 1, q2, by omega, by omega, by go_num, rfl, HM2.out, RM.out⟩
              case measure => simp [intOf]; omega
        · obtain rfl : k = 5 := by omega
          have H8 := Lib.hid (show HeldB w [((w.heap.size + 1), #[.int .u32 (numV (xs.take 4)), .int .i64 y4, .string (strOf (xs.drop 36)), .int .i64 (pv xs 5 0 0), .int .i64 (pv xs 5 0 1), .int .i64 (pv xs 5 0 2), .int .i64 (pv xs 5 0 3), .int .i64 (pv xs 5 0 4)], 25), (w.heap.size, #[.int .u32 0, .int .i64 0, .string { data := #[] }, .int .i64 0, .int .i64 0, .int .i64 0, .int .i64 0, .int .i64 0], 25)] wr from HK.out)
          by_cases hr : RightP y4 (strOf (xs.drop 36)) (pv xs 5 0 0) (pv xs 5 0 1) (pv xs 5 0 2) (pv xs 5 0 3) (pv xs 5 0 4)
          · have hd : decide (RightP y4 (strOf (xs.drop 36)) (pv xs 5 0 0) (pv xs 5 0 1) (pv xs 5 0 2) (pv xs 5 0 3) (pv xs 5 0 4)) = true := decide_eq_true hr
            have HRR := Lib.hid hr
            clear hr
            obtain ⟨p0_0, p0_1, p0_2, p0_3, p0_4, p0_5, p0_6, p0_7⟩ := (H8.out).b0.cells8; obtain ⟨p1_0, p1_1, p1_2, p1_3, p1_4, p1_5, p1_6, p1_7⟩ := (H8.out).tl.b0.cells8
            go_wp2_with (go_at_call 10; (with_reducible refine (right_any _ _ _ _ _ _ _ _ _).mono ?_); rintro e w8 ⟨rfl, hx⟩; have H9 := Lib.hid (H8.out.keep hx); clear hx; obtain ⟨z0_0, z0_1, z0_2, z0_3, z0_4, z0_5, z0_6, z0_7⟩ := (H9.out).b0.cells8; have zf0 := (H9.out).b0.free; obtain ⟨z1_0, z1_1, z1_2, z1_3, z1_4, z1_5, z1_6, z1_7⟩ := (H9.out).tl.b0.cells8; have zf1 := (H9.out).tl.b0.free)
            refine bodyPost_ret (v := .tuple #[.agg #[.int .u32 (numV (xs.take 4)), .int .i64 y4, .string (strOf (xs.drop 36)), .int .i64 (pv xs 5 0 0), .int .i64 (pv xs 5 0 1), .int .i64 (pv xs 5 0 2), .int .i64 (pv xs 5 0 3), .int .i64 (pv xs 5 0 4)], .int .i64 0]) (by simp [results, Try.results16, go_sem, z1_0, z1_1, z1_2, z1_3, z1_4, z1_5, z1_6, z1_7]) rfl ?_
            refine DecPost.yes (by unfold DecP; rw [← Y4.out]; exact HRR.out) (by unfold decV; rw [← Y4.out]; rfl) ?_
            repeat (refine Below.setCell ?_ (by first | omega | (simp; done) | (simp; omega)) _)
            exact H9.out.2
          · have hd : decide (RightP y4 (strOf (xs.drop 36)) (pv xs 5 0 0) (pv xs 5 0 1) (pv xs 5 0 2) (pv xs 5 0 3) (pv xs 5 0 4)) = false := decide_eq_false hr
            have HRR := Lib.hid hr
            clear hr
            obtain ⟨p0_0, p0_1, p0_2, p0_3, p0_4, p0_5, p0_6, p0_7⟩ := (H8.out).b0.cells8; obtain ⟨p1_0, p1_1, p1_2, p1_3, p1_4, p1_5, p1_6, p1_7⟩ := (H8.out).tl.b0.cells8
            go_wp2_with (go_at_call 10; (with_reducible refine (right_any _ _ _ _ _ _ _ _ _).mono ?_); rintro e w8 ⟨rfl, hx⟩; have H9 := Lib.hid (H8.out.keep hx); clear hx; obtain ⟨z0_0, z0_1, z0_2, z0_3, z0_4, z0_5, z0_6, z0_7⟩ := (H9.out).b0.cells8; have zf0 := (H9.out).b0.free; obtain ⟨z1_0, z1_1, z1_2, z1_3, z1_4, z1_5, z1_6, z1_7⟩ := (H9.out).tl.b0.cells8; have zf1 := (H9.out).tl.b0.free)
            refine bodyPost_ret (v := .tuple #[.agg #[.int .u32 0, .int .i64 0, .string { data := #[] }, .int .i64 0, .int .i64 0, .int .i64 0, .int .i64 0, .int .i64 0], .int .i64 2]) (by simp [results, Try.results16, go_sem, z1_0, z1_1, z1_2, z1_3, z1_4, z1_5, z1_6, z1_7]) rfl ?_
            refine DecPost.no (by unfold DecP; rw [← Y4.out]; exact HRR.out) ?_
            repeat (refine Below.setCell ?_ (by first | omega | (simp; done) | (simp; omega)) _)
            exact H9.out.2

end Go.Proofs.Ytihekjoeibljpaa
