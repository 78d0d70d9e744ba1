/- The bytes of a lease. -/
import Derived.Test.YtihekjoeibljpaaRgr
import Derived.Test.YtihekjoeibljpaaOwn
import Derived.Lib.AppendStr
namespace Go.Proofs.Ytihekjoeibljpaa
open Go.ChangeShapes Go.WideShapes Go.ChangeAt Go.RowKit
set_option linter.unusedVariables false
set_option linter.unusedSimpArgs false

/-- Bytes as cells. -/
def cellB (l : List Int) : List Value := l.map (Value.int .u8)
theorem cellB_length (l : List Int) : (cellB l).length = l.length := by simp [cellB]
theorem cellB_append (l m : List Int) : cellB (l ++ m) = cellB l ++ cellB m := by simp [cellB]
/-- A number in six bytes. -/
def be6 (x : Int) : List Int := [x / 1099511627776 % 256, x / 4294967296 % 256, x / 16777216 % 256, x / 65536 % 256, x / 256 % 256, x % 256]
def enc5 (la lb : Int) : List Int := [la / 16777216 % 256, la / 65536 % 256, la / 256 % 256, la % 256, lb % 256]
def encP (la lb lu lk lt lz lv : Int) (k : Nat) : List Int := enc5 la lb ++ ([lu, lk, lt, lz, lv].take k).flatMap be6
theorem encP_length (la lb lu lk lt lz lv : Int) (k : Nat) (hk : k ≤ 5) : (encP la lb lu lk lt lz lv k).length = 5 + 6 * k := by
  rcases (show k = 0 ∨ k = 1 ∨ k = 2 ∨ k = 3 ∨ k = 4 ∨ k = 5 by omega) with rfl | rfl | rfl | rfl | rfl | rfl <;> rfl
theorem encP_succ (la lb lu lk lt lz lv : Int) (k : Nat) (hk : k < 5) : encP la lb lu lk lt lz lv (k + 1) = encP la lb lu lk lt lz lv k ++ be6 ([lu, lk, lt, lz, lv].getD k 0) := by
  rcases (show k = 0 ∨ k = 1 ∨ k = 2 ∨ k = 3 ∨ k = 4 by omega) with rfl | rfl | rfl | rfl | rfl <;> rfl
def byteL (s : ByteArray) : List Int := s.data.toList.map (fun b => (b.toNat : Int))
theorem byteL_length (s : ByteArray) : (byteL s).length = s.size := by
  unfold byteL
  rw [List.length_map, Array.length_toList]
  rfl
theorem strCells_byteL (s : ByteArray) : Lib.strCells s = cellB (byteL s) := by
  unfold Lib.strCells cellB byteL
  rw [List.map_map]
  rfl
/-- The bytes of a lease. -/
def encL (la lb : Int) (lc : ByteArray) (lu lk lt lz lv : Int) : List Int := encP la lb lu lk lt lz lv 5 ++ [(lc.size : Int) % 256] ++ byteL lc
theorem encL_length (la lb : Int) (lc : ByteArray) (lu lk lt lz lv : Int) : (encL la lb lc lu lk lt lz lv).length = 36 + lc.size := by
  unfold encL
  rw [List.length_append, List.length_append, encP_length _ _ _ _ _ _ _ 5 (Nat.le_refl _), byteL_length]
  rfl
theorem RightP.size_le {lb : Int} {lc : ByteArray} {lu lk lt lz lv : Int} (h : RightP lb lc lu lk lt lz lv) : lc.size ≤ 32 := by
  unfold RightP at h
  omega
def EncPost (la lb : Int) (lc : ByteArray) (lu lk lt lz lv : Int) (w : World) (e : Ending) (w' : World) : Prop :=
  ∃ v, e = .returned (.tuple #[v, .int .i64 0]) ∧ w'.ownsRow (w.heap.size + 1) 5 1 v (36 + lc.size) (cellB (encL la lb lc lu lk lt lz lv)) ∧ Below w.heap.size w w'
theorem enc_own {la lb : Int} {lc : ByteArray} {lu lk lt lz lv : Int} {w : World} {B : Nat} {v : Value} (h : w.ownsRow B 5 1 v (5 + 6 * 5 + 1 + lc.size) (cellB (encP la lb lu lk lt lz lv 5) ++ [.int .u8 ((lc.size : Int) % 256)] ++ Lib.strCells lc)) :
    w.ownsRow B 5 1 v (36 + lc.size) (cellB (encL la lb lc lu lk lt lz lv)) := by
  unfold encL
  rw [cellB_append, cellB_append, ← strCells_byteL]
  exact h
theorem wp_append_own_string {P : Program} {w : World} {o : Oper} {a : Act} {K : Act → World → Prop} {Q : Exit → Act → World → Prop} (sl x : Operand) (t u : TypeId)
    (ho : o.op = .call { callee := .builtin .append, args := #[sl, x], argTypes := #[t, u] })
    (base : Nat) (e : TypeId) (i : TypeInfo) (ht : P.underlying t = some (.slice e)) (hu : P.underlying u = some .string) (hi : P.info? e = some i) (hz : i.zero = some (.int .u8 0))
    (hsize : i.size = 1) (hby : i.bytes = 1)
    (v : Value) (n : Nat) (xs : List Value) (hs : a.eval sl = v) (hown : w.ownsRow base e 1 v n xs) (s : ByteArray) (hx : a.eval x = .string s)
    (h63 : n + s.size ≤ maxLen) (hbytes : n + s.size ≤ 140737488355328) (hbase : base ≤ w.heap.size)
    (h : ∀ v' w', w'.ownsRow base e 1 v' (n + s.size) (xs ++ Lib.strCells s) → w.grownBy w' v.ownBlock → (v' = .slice none 0 0 ↔ v = .slice none 0 0 ∧ s.size = 0) → K (a.put o.dst v') w') : o.wp P a w K Q := by
  obtain ⟨v', w', hr, h2, h3, h4⟩ := Lib.run_append_own_string (P := P) w base t u o.type e i ht hu hi hz hsize hby v n xs hown s h63 hbytes hbase
  unfold Oper.wp execOp
  simp only [ho, resolve, invoke, builtin, Sem.run_bind, Sem.run_pure, Result.andThen_ok, List.map_toArray, List.map_cons, List.map_nil, hs, hx, hr]
  exact h v' w' h2 h3 h4
theorem Try.info5 : (Try.prog.info? 5).map (fun i => (i.zero, i.size, i.bytes)) = some (some (.int .u8 0), 1, 1) := by kernel_rfl

set_option maxRecDepth 100000 in
set_option maxHeartbeats 4000000 in
theorem enc_any (la lb : Int) (lc : ByteArray) (lu lk lt lz lv : Int) (wa : (Lit.int .u32 la).wf = true) (w : World) (hr : RightP lb lc lu lk lt lz lv) : Calls Try.prog 8 #[.agg #[.int .u32 la, .int .i64 lb, .string lc, .int .i64 lu, .int .i64 lk, .int .i64 lt, .int .i64 lz, .int .i64 lv]] w (EncPost la lb lc lu lk lt lz lv w) := by
  have hd : decide (RightP lb lc lu lk lt lz lv) = true := decide_eq_true hr
  have HR := Lib.hid hr
  clear hr
  obtain ⟨i0, hi, hz0, hz1, hz2⟩ := info_parts Try.info5
  have hix : ∀ k : Nat, k < 5 → ∀ w' : World, (Instr.index 41 (.agg #[.pointer (some ⟨w.heap.size, 3, none⟩), .pointer (some ⟨w.heap.size, 4, none⟩), .pointer (some ⟨w.heap.size, 5, none⟩), .pointer (some ⟨w.heap.size, 6, none⟩), .pointer (some ⟨w.heap.size, 7, none⟩)]) (.int .i64 k)).run Try.prog w' = .ok (.pointer (some ⟨w.heap.size, 3 + k, none⟩)) w' := by
    intro k hk
    rcases (show k = 0 ∨ k = 1 ∨ k = 2 ∨ k = 3 ∨ k = 4 by omega) with rfl | rfl | rfl | rfl | rfl <;> exact fun _ => by kernel_rfl
  have HIX := Lib.hid hix
  clear hix
  go_enter Try.func8, Try.ntmps8
  go_upto_region 5 with (go_at_call 10; with_reducible refine (right_any _ _ _ _ _ _ _ _ _).mono ?_; rintro e w1 ⟨rfl, hx⟩; have H1 := Lib.hid (((HeldB.nil (low0 w (.cells #[.int .u32 la, .int .i64 lb, .string lc, .int .i64 lu, .int .i64 lk, .int .i64 lt, .int .i64 lz, .int .i64 lv] 25))).cons (Blk.new w #[.int .u32 la, .int .i64 lb, .string lc, .int .i64 lu, .int .i64 lk, .int .i64 lt, .int .i64 lz, .int .i64 lv] 25)).keep hx); clear hx; obtain ⟨q0_0, q0_1, q0_2, q0_3, q0_4, q0_5, q0_6, q0_7⟩ := (H1.out).b0.cells8)
  have hsz := H1.out.b0.lt
  have HA := Lib.hid (H1.out.alloc (.cells #[.int .u8 (la / 16777216 % 256), .int .u8 (la / 65536 % 256), .int .u8 (la / 256 % 256), .int .u8 (la % 256), .int .u8 (lb % 256)] 5))
  have HO := Lib.hid (World.ownsRow_lit (base := w.heap.size + 1) (e := 5) (size := 1) w1 #[.int .u8 (la / 16777216 % 256), .int .u8 (la / 65536 % 256), .int .u8 (la / 256 % 256), .int .u8 (la % 256), .int .u8 (lb % 256)] 5 hsz (by decide) rfl)
  go_wp2_with (go_at_call 18; with_reducible refine (times_any _ _).mono ?_; rintro e w2 ⟨rfl, hx⟩; have H2 := Lib.hid (HA.out.keep hx); have HO2 := Lib.hid (own_keep HO.out hx); clear hx)
  go_loopw [5, 30] (fun v i wr => ∃ k : Nat, k ≤ 5 ∧ i = .int .i64 k ∧ wr.ownsRow (w.heap.size + 1) 5 1 v (5 + 6 * k) (cellB (encP la lb lu lk lt lz lv k)) ∧ HeldB w [(w.heap.size, #[.int .u32 la, .int .i64 lb, .string lc, .int .i64 lu, .int .i64 lk, .int .i64 lt, .int .i64 lz, .int .i64 lv], 25)] wr) (fun _ i _ => 5 - (intOf i).toNat)
  case atStart => exact ⟨0, by omega, rfl, HO2.out, H2.out⟩
  case round =>
    obtain ⟨k, hk, rfl, hown, HW⟩ := hrel
    have HO3 := Lib.hid hown
    have HW3 := Lib.hid HW
    clear hown HW
    by_cases hk5 : k < 5
    · have ix := HIX.out k hk5
      have hcell : wr.cell? ⟨w.heap.size, 3 + k, none⟩ = some (.int .i64 ([lu, lk, lt, lz, lv].getD k 0)) := by
        refine (HW3.out.b0.cell (3 + k)).trans ?_
        rcases (show k = 0 ∨ k = 1 ∨ k = 2 ∨ k = 3 ∨ k = 4 by omega) with rfl | rfl | rfl | rfl | rfl <;> rfl
      have hcell' := Lib.hid hcell
      clear hcell
      obtain ⟨x, hx⟩ : ∃ x, x = [lu, lk, lt, lz, lv].getD k 0 := ⟨_, rfl⟩
      have HX := Lib.hid hx
      clear hx
      have hkb : decide ((k : Int) < 5) = true := by rw [decide_eq_true_iff]; omega
      obtain ⟨wo, rfl⟩ : ∃ wo : World, wo = wr := ⟨_, rfl⟩
      go_wp2
      go_loopw [5, 33] (fun v j wi => ∃ m : Nat, m ≤ 6 ∧ j = .int .i64 m ∧ wi.ownsRow (w.heap.size + 1) 5 1 v (5 + 6 * k + m) (cellB (encP la lb lu lk lt lz lv k) ++ cellB ((be6 x).take m)) ∧ HeldB w [(w.heap.size, #[.int .u32 la, .int .i64 lb, .string lc, .int .i64 lu, .int .i64 lk, .int .i64 lt, .int .i64 lz, .int .i64 lv], 25)] wi) (fun _ j _ => 6 - (intOf j).toNat)
      case atStart => exact ⟨0, by omega, rfl, by simpa [cellB] using HO3.out, HW3.out⟩
      case round =>
        obtain ⟨m, hm, rfl, hown, HW⟩ := hrel
        have hown := Lib.hid hown
        have HI := Lib.hid HW
        clear HW
        have hsz1 := HI.out.b0.lt
        have hc : wr.cell? ⟨w.heap.size, 3 + k, none⟩ = some (.int .i64 x) := by
          refine (HI.out.b0.cell (3 + k)).trans ?_
          rw [HX.out]
          rcases (show k = 0 ∨ k = 1 ∨ k = 2 ∨ k = 3 ∨ k = 4 by omega) with rfl | rfl | rfl | rfl | rfl <;> rfl
        rcases (show m = 0 ∨ m = 1 ∨ m = 2 ∨ m = 3 ∨ m = 4 ∨ m = 5 ∨ m = 6 by omega) with rfl | rfl | rfl | rfl | rfl | rfl | rfl
        · go_wp2_with (at_builtin; refine wpList_append_own _ rfl (.tmp 36) (.tmp 45) 27 rfl (w.heap.size + 1) 5 i0 (.int .u8 0) 1 1 Try.underlying27 hi hz0 hz1 hz2 rfl (by decide) _ _ _ rfl (hown.out.alloc _) ⟨wr.heap.size, 0, none⟩ 1 1 [.int .u8 (x / 1099511627776 % 256)] rfl rfl (cell_one_new _ _ _) (by intro u hu; simp at hu; subst hu; rfl) (by unfold maxLen; omega) (by omega) (by simp; omega) ?_; intro v' w3 hown3 hgr3 _; have HO3 := Lib.hid hown3; have HI3 := Lib.hid ((HI.out.alloc (.cells #[.int .u8 (x / 1099511627776 % 256)] 5)).grownOwn (hown.out.alloc (.cells #[.int .u8 (x / 1099511627776 % 256)] 5)) hgr3 (by omega) (by simp)); clear hown3 hgr3)
          go_roundw
          case rel => first | exact ⟨1, by omega, by first | rfl | go_num, by simpa [cellB, be6] using HO3.out, HI3.out⟩ | ((repeat apply Exists.intro); exact ⟨⟨1, by omega, by first | rfl | go_num, by simpa [cellB, be6] using HO3.out, HI3.out⟩, rfl⟩)
          case measure => simp [intOf]
        · go_wp2_with (at_builtin; refine wpList_append_own _ rfl (.tmp 36) (.tmp 45) 27 rfl (w.heap.size + 1) 5 i0 (.int .u8 0) 1 1 Try.underlying27 hi hz0 hz1 hz2 rfl (by decide) _ _ _ rfl (hown.out.alloc _) ⟨wr.heap.size, 0, none⟩ 1 1 [.int .u8 (x / 4294967296 % 256)] rfl rfl (cell_one_new _ _ _) (by intro u hu; simp at hu; subst hu; rfl) (by unfold maxLen; omega) (by omega) (by simp; omega) ?_; intro v' w3 hown3 hgr3 _; have HO3 := Lib.hid hown3; have HI3 := Lib.hid ((HI.out.alloc (.cells #[.int .u8 (x / 4294967296 % 256)] 5)).grownOwn (hown.out.alloc (.cells #[.int .u8 (x / 4294967296 % 256)] 5)) hgr3 (by omega) (by simp)); clear hown3 hgr3)
          go_roundw
          case rel => first | exact ⟨2, by omega, by first | rfl | go_num, by simpa [cellB, be6] using HO3.out, HI3.out⟩ | ((repeat apply Exists.intro); exact ⟨⟨2, by omega, by first | rfl | go_num, by simpa [cellB, be6] using HO3.out, HI3.out⟩, rfl⟩)
          case measure => simp [intOf]
        · go_wp2_with (at_builtin; refine wpList_append_own _ rfl (.tmp 36) (.tmp 45) 27 rfl (w.heap.size + 1) 5 i0 (.int .u8 0) 1 1 Try.underlying27 hi hz0 hz1 hz2 rfl (by decide) _ _ _ rfl (hown.out.alloc _) ⟨wr.heap.size, 0, none⟩ 1 1 [.int .u8 (x / 16777216 % 256)] rfl rfl (cell_one_new _ _ _) (by intro u hu; simp at hu; subst hu; rfl) (by unfold maxLen; omega) (by omega) (by simp; omega) ?_; intro v' w3 hown3 hgr3 _; have HO3 := Lib.hid hown3; have HI3 := Lib.hid ((HI.out.alloc (.cells #[.int .u8 (x / 16777216 % 256)] 5)).grownOwn (hown.out.alloc (.cells #[.int .u8 (x / 16777216 % 256)] 5)) hgr3 (by omega) (by simp)); clear hown3 hgr3)
          go_roundw
          case rel => first | exact ⟨3, by omega, by first | rfl | go_num, by simpa [cellB, be6] using HO3.out, HI3.out⟩ | ((repeat apply Exists.intro); exact ⟨⟨3, by omega, by first | rfl | go_num, by simpa [cellB, be6] using HO3.out, HI3.out⟩, rfl⟩)
          case measure => simp [intOf]
        · go_wp2_with (at_builtin; refine wpList_append_own _ rfl (.tmp 36) (.tmp 45) 27 rfl (w.heap.size + 1) 5 i0 (.int .u8 0) 1 1 Try.underlying27 hi hz0 hz1 hz2 rfl (by decide) _ _ _ rfl (hown.out.alloc _) ⟨wr.heap.size, 0, none⟩ 1 1 [.int .u8 (x / 65536 % 256)] rfl rfl (cell_one_new _ _ _) (by intro u hu; simp at hu; subst hu; rfl) (by unfold maxLen; omega) (by omega) (by simp; omega) ?_; intro v' w3 hown3 hgr3 _; have HO3 := Lib.hid hown3; have HI3 := Lib.hid ((HI.out.alloc (.cells #[.int .u8 (x / 65536 % 256)] 5)).grownOwn (hown.out.alloc (.cells #[.int .u8 (x / 65536 % 256)] 5)) hgr3 (by omega) (by simp)); clear hown3 hgr3)
          go_roundw
          case rel => first | exact ⟨4, by omega, by first | rfl | go_num, by simpa [cellB, be6] using HO3.out, HI3.out⟩ | ((repeat apply Exists.intro); exact ⟨⟨4, by omega, by first | rfl | go_num, by simpa [cellB, be6] using HO3.out, HI3.out⟩, rfl⟩)
          case measure => simp [intOf]
        · go_wp2_with (at_builtin; refine wpList_append_own _ rfl (.tmp 36) (.tmp 45) 27 rfl (w.heap.size + 1) 5 i0 (.int .u8 0) 1 1 Try.underlying27 hi hz0 hz1 hz2 rfl (by decide) _ _ _ rfl (hown.out.alloc _) ⟨wr.heap.size, 0, none⟩ 1 1 [.int .u8 (x / 256 % 256)] rfl rfl (cell_one_new _ _ _) (by intro u hu; simp at hu; subst hu; rfl) (by unfold maxLen; omega) (by omega) (by simp; omega) ?_; intro v' w3 hown3 hgr3 _; have HO3 := Lib.hid hown3; have HI3 := Lib.hid ((HI.out.alloc (.cells #[.int .u8 (x / 256 % 256)] 5)).grownOwn (hown.out.alloc (.cells #[.int .u8 (x / 256 % 256)] 5)) hgr3 (by omega) (by simp)); clear hown3 hgr3)
          go_roundw
          case rel => first | exact ⟨5, by omega, by first | rfl | go_num, by simpa [cellB, be6] using HO3.out, HI3.out⟩ | ((repeat apply Exists.intro); exact ⟨⟨5, by omega, by first | rfl | go_num, by simpa [cellB, be6] using HO3.out, HI3.out⟩, rfl⟩)
          case measure => simp [intOf]
        · go_wp2_with (at_builtin; refine wpList_append_own _ rfl (.tmp 36) (.tmp 45) 27 rfl (w.heap.size + 1) 5 i0 (.int .u8 0) 1 1 Try.underlying27 hi hz0 hz1 hz2 rfl (by decide) _ _ _ rfl (hown.out.alloc _) ⟨wr.heap.size, 0, none⟩ 1 1 [.int .u8 (x % 256)] rfl rfl (cell_one_new _ _ _) (by intro u hu; simp at hu; subst hu; rfl) (by unfold maxLen; omega) (by omega) (by simp; omega) ?_; intro v' w3 hown3 hgr3 _; have HO3 := Lib.hid hown3; have HI3 := Lib.hid ((HI.out.alloc (.cells #[.int .u8 (x % 256)] 5)).grownOwn (hown.out.alloc (.cells #[.int .u8 (x % 256)] 5)) hgr3 (by omega) (by simp)); clear hown3 hgr3)
          go_roundw
          case rel => first | exact ⟨6, by omega, by first | rfl | go_num, by simpa [cellB, be6] using HO3.out, HI3.out⟩ | ((repeat apply Exists.intro); exact ⟨⟨6, by omega, by first | rfl | go_num, by simpa [cellB, be6] using HO3.out, HI3.out⟩, rfl⟩)
          case measure => simp [intOf]
        · have HE : wr.ownsRow (w.heap.size + 1) 5 1 u5 (5 + 6 * (k + 1)) (cellB (encP la lb lu lk lt lz lv (k + 1))) := by
            rw [encP_succ la lb lu lk lt lz lv k hk5, ← HX.out, cellB_append]
            exact hown.out
          have HEE := Lib.hid HE
          clear HE
          go_wp2
          go_roundw
          case rel => exact ⟨k + 1, by omega, by go_num, HEE.out, HI.out⟩
          case measure => simp [intOf]; omega
    · obtain rfl : k = 5 := by omega
      go_upto_region 14 with (fail)
      have h32 := HR.out.size_le
      have hsz4 := HW3.out.b0.lt
      refine wp_region_noPanic ?_
      refine wp_region_held_drew (S := HeldB w [(w.heap.size, #[.int .u32 la, .int .i64 lb, .string lc, .int .i64 lu, .int .i64 lk, .int .i64 lt, .int .i64 lz, .int .i64 lv], 25)]) (by kernel_rfl) HW3.out.drew (fun hHeld => ?_)
      refine wpAnyH_take (i := 0) (oi := { dst := some 49, op := Go.Op.move (Go.Operand.tmp 5), type := 27, pos := "lease.go:44", after := #[], guard := none }) (v := ?ve0) rfl (by kernel_rfl) (by kernel_rfl) (by kernel_rfl) (fun _ _ _ h => h) (Or.inl ⟨by rfl, ?ye0⟩) (by assumption) ?re0
      case ye0 => (intro wS hSw; go_simp; try (with_reducible rfl))
      try simp only [Act.put, List.setIfInBounds_toArray, List.set_cons_zero, List.set_cons_succ]
      refine wpAnyH_take (i := 1) (oi := { dst := some 50, op := Go.Op.fieldAddr 25 (Go.Operand.tmp 1) 2, type := 0, pos := "lease.go:44", after := #[], guard := none }) (v := ?ve1) rfl (by kernel_rfl) (by kernel_rfl) (by kernel_rfl) (fun _ _ _ h => h) (Or.inl ⟨by rfl, ?ye1⟩) (by assumption) ?re1
      case ye1 => (intro wS hSw; go_simp; try (with_reducible rfl))
      try simp only [Act.put, List.setIfInBounds_toArray, List.set_cons_zero, List.set_cons_succ]
      refine wpAnyH_take (i := 2) (oi := { dst := some 51, op := Go.Op.load 9 (Go.Operand.tmp 50), type := 9, pos := "lease.go:44", after := #[{ on := 1, ground := Go.Ground.data }], guard := none }) (v := ?ve2) rfl (by kernel_rfl) (by kernel_rfl) (by kernel_rfl) (fun _ _ _ h => h) (Or.inl ⟨by rfl, ?ye2⟩) (by assumption) ?re2
      case ye2 => (intro wS hSw; obtain ⟨q0_0, q0_1, q0_2, q0_3, q0_4, q0_5, q0_6, q0_7⟩ := (hSw).b0.cells8; go_simp; try (with_reducible rfl))
      try simp only [Act.put, List.setIfInBounds_toArray, List.set_cons_zero, List.set_cons_succ]
      refine wpAnyH_take (i := 3) (oi := { dst := some 52, op := Go.Op.call { callee := Go.Callee.builtin Go.Builtin.len, args := #[Go.Operand.tmp 51], argTypes := #[9] }, type := 3, pos := "lease.go:44", after := #[{ on := 2, ground := Go.Ground.data }], guard := none }) (v := ?ve3) rfl (by kernel_rfl) (by kernel_rfl) (by kernel_rfl) (fun _ _ _ h => h) (Or.inl ⟨by rfl, ?ye3⟩) (by assumption) ?re3
      case ye3 => (intro wS hSw; go_simp; try (with_reducible rfl))
      try simp only [Act.put, List.setIfInBounds_toArray, List.set_cons_zero, List.set_cons_succ]
      refine wpAnyH_take (i := 4) (oi := { dst := some 53, op := Go.Op.convert 3 5 (Go.Operand.tmp 52), type := 5, pos := "lease.go:44", after := #[{ on := 3, ground := Go.Ground.data }], guard := none }) (v := ?ve4) rfl (by kernel_rfl) (by kernel_rfl) (by kernel_rfl) (fun _ _ _ h => h) (Or.inl ⟨by rfl, ?ye4⟩) (by assumption) ?re4
      case ye4 => (intro wS hSw; go_simp; try (with_reducible rfl))
      try simp only [Act.put, List.setIfInBounds_toArray, List.set_cons_zero, List.set_cons_succ]
      refine wpAnyH_take (i := 7) (oi := { dst := some 56, op := Go.Op.fieldAddr 25 (Go.Operand.tmp 1) 2, type := 0, pos := "lease.go:44", after := #[], guard := none }) (v := ?ve7) rfl (by kernel_rfl) (by kernel_rfl) (by kernel_rfl) (fun _ _ _ h => h) (Or.inl ⟨by rfl, ?ye7⟩) (by assumption) ?re7
      case ye7 => (intro wS hSw; go_simp; try (with_reducible rfl))
      try simp only [Act.put, List.setIfInBounds_toArray, List.set_cons_zero, List.set_cons_succ]
      refine wpAnyH_take (i := 8) (oi := { dst := some 57, op := Go.Op.load 9 (Go.Operand.tmp 56), type := 9, pos := "lease.go:44", after := #[{ on := 7, ground := Go.Ground.data }], guard := none }) (v := ?ve8) rfl (by kernel_rfl) (by kernel_rfl) (by kernel_rfl) (fun _ _ _ h => h) (Or.inl ⟨by rfl, ?ye8⟩) (by assumption) ?re8
      case ye8 => (intro wS hSw; obtain ⟨q0_0, q0_1, q0_2, q0_3, q0_4, q0_5, q0_6, q0_7⟩ := (hSw).b0.cells8; go_simp; try (with_reducible rfl))
      try simp only [Act.put, List.setIfInBounds_toArray, List.set_cons_zero, List.set_cons_succ]
      refine wpAnyH_ready (rs := [5]) (by kernel_rfl) (by simp) ?_
      refine AllReadyH.cons (o := { dst := some 54, op := Go.Op.buildSlice 27 1 #[(0, Go.Operand.tmp 53)], type := 27, pos := "lease.go:44", after := #[{ on := 4, ground := Go.Ground.data }], guard := none }) rfl (fun K hK => ?_) AllReadyH.nil
      go_simp
      refine hK.out _ _ (hHeld.alloc (.cells #[.int .u8 ((lc.size : Int) % 256)] 5)) (fun hHeld => ?_)
      clear hK K
      try simp only [Act.put, List.setIfInBounds_toArray, List.set_cons_zero, List.set_cons_succ]
      refine wpAnyH_ready (rs := [6]) (by kernel_rfl) (by simp) ?_
      refine AllReadyH.cons (o := { dst := some 55, op := Go.Op.call { callee := Go.Callee.builtin Go.Builtin.append, args := #[Go.Operand.tmp 49, Go.Operand.tmp 54], argTypes := #[27, 27] }, type := 27, pos := "lease.go:44", after := #[{ on := 0, ground := Go.Ground.data }, { on := 5, ground := Go.Ground.data }], guard := none }) rfl (fun K hK => ?_) AllReadyH.nil
      rw [if_pos (by rfl)]
      refine wp_append_own _ (.tmp 49) (.tmp 54) 27 rfl (w.heap.size + 1) 5 i0 (.int .u8 0) 1 1 Try.underlying27 hi hz0 hz1 hz2 rfl (by decide) u5 (5 + 6 * 5) (cellB (encP la lb lu lk lt lz lv 5)) rfl (HO3.out.drew.alloc (.cells #[.int .u8 ((lc.size : Int) % 256)] 5)) ⟨wr.heap.size, 0, none⟩ 1 1 [.int .u8 ((lc.size : Int) % 256)] rfl rfl (cell_one_new _ _ _) (by intro u hu; simp at hu; subst hu; rfl) (by unfold maxLen; omega) (by omega) (by simp; omega) ?_
      intro v1 w3 hown3 hgr3 _
      refine hK.out _ _ (hHeld.grownOwn (HO3.out.drew.alloc (.cells #[.int .u8 ((lc.size : Int) % 256)] 5)) hgr3 (by omega) (by simp)) (fun hHeld => ?_)
      clear hK K
      have HO4 := Lib.hid hown3
      have hsz3 := hHeld.b0.lt
      clear hown3 hgr3
      try simp only [Act.put, List.setIfInBounds_toArray, List.set_cons_zero, List.set_cons_succ]
      refine wpAnyH_ready (rs := [9]) (by kernel_rfl) (by simp) ?_
      refine AllReadyH.cons (o := { dst := some 58, op := Go.Op.call { callee := Go.Callee.builtin Go.Builtin.append, args := #[Go.Operand.tmp 55, Go.Operand.tmp 57], argTypes := #[27, 9] }, type := 27, pos := "lease.go:44", after := #[{ on := 6, ground := Go.Ground.data }, { on := 8, ground := Go.Ground.data }, { on := 6, ground := Go.Ground.chain }], guard := none }) rfl (fun K hK => ?_) AllReadyH.nil
      rw [if_pos (by rfl)]
      refine wp_append_own_string (.tmp 55) (.tmp 57) 27 9 rfl (w.heap.size + 1) 5 i0 Try.underlying27 Try.underlying9 hi hz0 hz1 hz2 v1 (5 + 6 * 5 + 1) _ rfl HO4.out lc rfl (by unfold maxLen; omega) (by omega) (by omega) ?_
      intro v2 w4 hown4 hgr4 _
      refine hK.out _ _ (hHeld.grownOwn HO4.out hgr4 (by omega) (by simp)) (fun hHeld => ?_)
      clear hK K
      have HO5 := Lib.hid hown4
      clear hown4 hgr4
      try simp only [Act.put, List.setIfInBounds_toArray, List.set_cons_zero, List.set_cons_succ]
      refine wpAnyH_take (i := 10) (oi := { dst := some 2, op := Go.Op.assign (Go.Operand.tmp 58), type := 27, pos := "lease.go:44", after := #[{ on := 9, ground := Go.Ground.data }, { on := 9, ground := Go.Ground.chain }, { on := 0, ground := Go.Ground.phase }, { on := 1, ground := Go.Ground.phase }, { on := 2, ground := Go.Ground.phase }, { on := 3, ground := Go.Ground.phase }, { on := 4, ground := Go.Ground.phase }, { on := 5, ground := Go.Ground.phase }, { on := 6, ground := Go.Ground.phase }, { on := 7, ground := Go.Ground.phase }, { on := 8, ground := Go.Ground.phase }, { on := 9, ground := Go.Ground.phase }], guard := none }) (v := ?ve10) rfl (by kernel_rfl) (by kernel_rfl) (by kernel_rfl) (fun _ _ _ h => h) (Or.inl ⟨by rfl, ?ye10⟩) (by assumption) ?re10
      case ye10 => (intro wS hSw; go_simp; try (with_reducible rfl))
      try simp only [Act.put, List.setIfInBounds_toArray, List.set_cons_zero, List.set_cons_succ]
      refine wpAnyH_take (i := 11) (oi := { dst := some 3, op := Go.Op.assign (Go.Operand.const (Go.Value.int Go.IntKind.i64 0)), type := 28, pos := "lease.go:44", after := #[{ on := 10, ground := Go.Ground.chain }, { on := 0, ground := Go.Ground.phase }, { on := 1, ground := Go.Ground.phase }, { on := 2, ground := Go.Ground.phase }, { on := 3, ground := Go.Ground.phase }, { on := 4, ground := Go.Ground.phase }, { on := 5, ground := Go.Ground.phase }, { on := 6, ground := Go.Ground.phase }, { on := 7, ground := Go.Ground.phase }, { on := 8, ground := Go.Ground.phase }, { on := 9, ground := Go.Ground.phase }, { on := 10, ground := Go.Ground.phase }], guard := none }) (v := ?ve11) rfl (by kernel_rfl) (by kernel_rfl) (by kernel_rfl) (fun _ _ _ h => h) (Or.inl ⟨by rfl, ?ye11⟩) (by assumption) ?re11
      case ye11 => (intro wS hSw; go_simp; try (with_reducible rfl))
      try simp only [Act.put, List.setIfInBounds_toArray, List.set_cons_zero, List.set_cons_succ]
      refine wpAnyH_done (by kernel_rfl) ?_ _
      refine NoPanic.normal ?_
      go_wp2
      go_ret2
      exact ⟨_, rfl, enc_own HO5.out, hHeld.2⟩

end Go.Proofs.Ytihekjoeibljpaa
