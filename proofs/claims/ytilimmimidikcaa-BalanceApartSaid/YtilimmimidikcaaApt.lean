/- Clients that are unlike in one byte: what the law's own code comes to. -/
import Derived.Test.YtilimmimidikcaaAwk
import Derived.Lib.ConvBytes
import Derived.Deep.RegionHeld3
import Derived.Laws.IdiomStrings
namespace Go.Proofs.Ytilimmimidikcaa
open Go.ChangeShapes Go.WideShapes Go.ChangeAt Go.RowKit
set_option linter.unusedVariables false

def Same (w0 w : World) : Prop := w = w0

theorem xor_cancel {a b c : Nat} (h : a ^^^ b = a ^^^ c) : b = c := by
  have e := congrArg (a ^^^ ·) h
  simpa only [← Nat.xor_assoc, Nat.xor_self, Nat.zero_xor] using e
theorem addr_add (g j : Nat) : (⟨g, 0, none⟩ : Addr).add j = ⟨g, j, none⟩ := by unfold Addr.add; split <;> simp_all
theorem acc_inj {z : Nat} (hz : z < 256) (b : UInt8) : ∀ (l : List UInt8) (m : Nat) (hm : m < l.length), acc z (l.set m b) = acc z l → b = l[m]
  | c :: t, 0, _, h => by
    have ht := acc_lt hz t
    have h2 := tab_inj (xor_lt ht (UInt8.toNat_lt b)) (xor_lt ht (UInt8.toNat_lt c)) h
    have h3 := xor_cancel h2
    exact UInt8.toNat_inj.1 h3
  | c :: t, m + 1, hm, h => by
    have h2 := tab_inj (xor_lt (acc_lt hz (t.set m b)) (UInt8.toNat_lt c)) (xor_lt (acc_lt hz t) (UInt8.toNat_lt c)) h
    have h3 : acc z (t.set m b) = acc z t := xor_cancel (a := c.toNat) (by rw [Nat.xor_comm c.toNat (acc z (t.set m b)), Nat.xor_comm c.toNat (acc z t)]; exact h2)
    exact acc_inj hz b t m (by simpa using hm) h3
theorem bucket_apart (l : List UInt8) (b : UInt8) (m : Nat) (hm : m < l.length) (h : bucketV (l.set m b) = bucketV l) : b = l[m] := by
  unfold bucketV at h
  rw [List.length_set] at h
  exact acc_inj (Nat.mod_lt _ (by decide)) b l m hm h
def setB (s : ByteArray) (m : Nat) (b : UInt8) : ByteArray := ⟨(s.data.toList.set m b).toArray⟩
theorem setB_size (s : ByteArray) (m : Nat) (b : UInt8) : (setB s m b).size = s.size := by
  show ((s.data.toList.set m b).toArray).size = s.data.size
  simp
theorem setB_list (s : ByteArray) (m : Nat) (b : UInt8) : (setB s m b).data.toList = s.data.toList.set m b := rfl
theorem setB_same (s : ByteArray) (m : Nat) (hm : m < s.data.toList.length) : setB s m s.data.toList[m] = s := by
  unfold setB
  rw [List.set_getElem_self]

/-- What the law's own code comes to: the world behind the store, and what is read there. -/
theorem apart_world (s : ByteArray) (m : Nat) (hm : m < s.size) (b : UInt8) (w : World) :
    ∃ w2 cp g v, (∀ u, u = convert 9 25 (.string s) → u.run Try.prog w = .ok (.slice (some ⟨g, 0, none⟩) s.size cp) w2) ∧ w2.cell? ⟨g, m, none⟩ = some v ∧ w2.frozen? ⟨g, m, none⟩ = false ∧
      (convert 25 9 (.slice (some ⟨g, 0, none⟩) s.size cp)).run Try.prog (w2.setCell ⟨g, m, none⟩ (.int .u8 b.toNat)).drew = .ok (.string (setB s m b)) (w2.setCell ⟨g, m, none⟩ (.int .u8 b.toNat)).drew ∧
      Below w.heap.size w (w2.setCell ⟨g, m, none⟩ (.int .u8 b.toNat)) := by
  have hz : s.data.toList.length = s.size := Array.length_toList
  have hn := Lib.bytesWorld_at_new w 5 s
  have hl : m < (Lib.bytesCells w 5 s).size := by
    unfold Lib.bytesCells
    rw [Array.size_append, Array.size_map]
    have : s.data.size = s.size := rfl
    omega
  have hcell := fun j hj => Lib.bytesWorld_cell w 5 s j hj
  refine ⟨Lib.bytesWorld w 5 s, grownCap w s.size 0 5, w.heap.size, _, ?_, hcell m hm, ?_, ?_, ?_⟩
  · rintro u rfl
    exact Lib.run_convert_string_bytes w _ _ 5 s Try.underlying9 Try.underlying25 Try.underlying5
  · simp [World.frozen?, hn]
    omega
  · have e : s.size = (s.data.toList.set m b).length := by rw [List.length_set, hz]
    have := run_convert_bytes_back (P := Try.prog) ((Lib.bytesWorld w 5 s).setCell ⟨w.heap.size, m, none⟩ (.int .u8 b.toNat)).drew 25 9 5 ⟨w.heap.size, 0, none⟩ (grownCap w s.size 0 5) (s.data.toList.set m b) Try.underlying25 Try.underlying5 Try.underlying9 ?_
    · rw [← e] at this
      exact this
    · intro j hj
      have hj2 : j < s.size := by rw [List.length_set, hz] at hj; exact hj
      rw [addr_add, World.cell?_drew]
      by_cases h : m = j
      · subst h
        rw [World.cell?_setCell_same _ _ _ (hcell m hm)]
        simp
      · rw [World.cell?_setCell_other _ _ _ _ (by intro e; injection e; omega), hcell j hj2]
        have : j < s.data.toList.length := by rw [hz]; exact hj2
        rw [List.getD_eq_getElem?_getD, List.getElem?_eq_getElem this, List.getElem_set_ne (by omega)]
        rfl
  · refine Below.setCell (B := w.heap.size) ?_ (Nat.le_refl _) _
    exact ⟨rfl, rfl, rfl, by rw [Lib.bytesWorld_size]; omega, fun j hj => Lib.bytesWorld_at_old w _ s j hj⟩

set_option maxRecDepth 100000 in
theorem walk_BalanceApart (a0 : ByteArray) (a1 : Int) (a2 : Int) (W : World) (w0 : a0.size ≤ maxLen) (z0 : a0.size ≤ 140737488351232) (w1 : (Lit.int .i64 a1).wf = true) (w2 : (Lit.int .u8 a2).wf = true) :
    Calls Try.prog 4 #[.string a0, .int .i64 a1, .int .u8 a2] W fun e w' => e = .returned (.bool true) ∧ Below W.heap.size W w' := by
  by_cases hl : 2000 < (a0.size : Int)
  · go_enter Try.func4, Try.ntmps4
    go_wp2_with (first | (go_at_call 9; refine (awake_any _).mono ?_; rintro e w1 ⟨rfl, hx⟩; have Hx1 := Lib.hid hx; clear hx))
    all_goals
      go_ret
      exact ⟨rfl, Hx1.out⟩
  by_cases h0 : a1 < 0
  · go_enter Try.func4, Try.ntmps4
    go_wp2_with (first | (go_at_call 9; refine (awake_any _).mono ?_; rintro e w1 ⟨rfl, hx⟩; have Hx1 := Lib.hid hx; clear hx))
    all_goals
      go_ret
      exact ⟨rfl, Hx1.out⟩
  obtain ⟨m, rfl⟩ := Int.eq_ofNat_of_zero_le (show 0 ≤ a1 by omega)
  by_cases h1 : a0.size ≤ m
  · go_enter Try.func4, Try.ntmps4
    go_wp2_with (first | (go_at_call 9; refine (awake_any _).mono ?_; rintro e w1 ⟨rfl, hx⟩; have Hx1 := Lib.hid hx; clear hx))
    all_goals
      go_ret
      exact ⟨rfl, Hx1.out⟩
  have hm : m < a0.size := by omega
  have hm' : m < a0.data.toList.length := by rw [show a0.data.toList.length = a0.size from Array.length_toList]; exact hm
  have e1 : IntKind.u8.min = 0 := by decide
  have e2 : IntKind.u8.max = 255 := by decide
  simp [Lit.wf, e1, e2] at w2
  obtain ⟨b, rfl⟩ : ∃ b : UInt8, a2 = (b.toNat : Int) := ⟨UInt8.ofNat a2.toNat, by simp; omega⟩
  have hb := fun w => bucket_any a0 w z0
  have hb2 := fun w => bucket_any (setB a0 m b) w (by rw [setB_size]; exact z0)
  have hsame : b = a0.data.toList[m] → setB a0 m b = a0 := by rintro rfl; exact setB_same a0 m hm'
  have hdiff : bucketV (setB a0 m b).data.toList = bucketV a0.data.toList → b = a0.data.toList[m] := by rw [setB_list]; exact bucket_apart _ b m hm'
  have hE : bucketV (setB a0 m b).data.toList = bucketV a0.data.toList → setB a0 m b = a0 := fun h => hsame (hdiff h)
  clear hsame hdiff
  have hW := apart_world a0 m hm b
  generalize setB a0 m b = s at *
  have HW := Lib.hid hW
  have HB := Lib.hid hb
  have HB2 := Lib.hid hb2
  clear hW hb hb2 hm' w2 e1 e2
  by_cases hs : s = a0
  · subst hs
    clear hE
    generalize ((bucketV s.data.toList : Nat) : Int) = n at *
    go_enter Try.func4, Try.ntmps4
    go_wp2_with (first | (go_at_call 9; refine (awake_any _).mono ?_; rintro e w1 ⟨rfl, hx⟩; have Hx1 := Lib.hid hx; clear hx; obtain ⟨w2, cp, g, v, kc, kv, kf, kb, hB⟩ := HW.out w1; have kc := kc _ rfl; have HBW := Lib.hid hB; clear hB))
    have hb := low Hx1.out HBW.out
    have HBX := Lib.hid hb
    clear hb HBW kc kv kf
    generalize (w2.setCell ⟨g, m, none⟩ (.int .u8 b.toNat)) = w4 at *
    refine wp_region_noPanic ?_
    refine wp_region_held_drew (S := Same w4.drew) (by kernel_rfl) rfl (fun hHeld => ?_)
    refine wpAnyH_take (i := 0) (oi := { dst := some 34, op := Go.Op.move (Go.Operand.tmp 0), type := 9, pos := "law.go:53", after := #[], guard := none }) (v := ?vx1) rfl (by kernel_rfl) (by kernel_rfl) (by kernel_rfl) (fun _ _ _ h => h) (Or.inl ⟨by rfl, ?yx1⟩) (by assumption) ?rx1
    case yx1 => (intro w hSw; obtain rfl : w = w4.drew := hSw; go_simp; try with_reducible rfl)
    try simp only [Act.put, List.setIfInBounds_toArray, List.set_cons_zero, List.set_cons_succ]
    refine wpAnyH_take (i := 2) (oi := { dst := some 36, op := Go.Op.move (Go.Operand.tmp 8), type := 25, pos := "law.go:53", after := #[], guard := none }) (v := ?vx2) rfl (by kernel_rfl) (by kernel_rfl) (by kernel_rfl) (fun _ _ _ h => h) (Or.inl ⟨by rfl, ?yx2⟩) (by assumption) ?rx2
    case yx2 => (intro w hSw; obtain rfl : w = w4.drew := hSw; go_simp; try with_reducible rfl)
    try simp only [Act.put, List.setIfInBounds_toArray, List.set_cons_zero, List.set_cons_succ]
    refine wpAnyH_take (i := 3) (oi := { dst := some 37, op := Go.Op.convert 25 9 (Go.Operand.tmp 36), type := 9, pos := "law.go:53", after := #[{ on := 2, ground := Go.Ground.data }], guard := none }) (v := ?vx3) rfl (by kernel_rfl) (by kernel_rfl) (by kernel_rfl) (fun _ _ _ h => h) (Or.inl ⟨by rfl, ?yx3⟩) (by assumption) ?rx3
    case yx3 => (intro w hSw; obtain rfl : w = w4.drew := hSw; go_simp; try with_reducible rfl)
    try simp only [Act.put, List.setIfInBounds_toArray, List.set_cons_zero, List.set_cons_succ]
    refine wpAnyH_take (i := 6) (oi := { dst := some 40, op := Go.Op.move (Go.Operand.tmp 0), type := 9, pos := "law.go:53", after := #[], guard := none }) (v := ?vx4) rfl (by kernel_rfl) (by kernel_rfl) (by kernel_rfl) (fun _ _ _ h => h) (Or.inl ⟨by rfl, ?yx4⟩) (by assumption) ?rx4
    case yx4 => (intro w hSw; obtain rfl : w = w4.drew := hSw; go_simp; try with_reducible rfl)
    try simp only [Act.put, List.setIfInBounds_toArray, List.set_cons_zero, List.set_cons_succ]
    refine wpAnyH_take (i := 7) (oi := { dst := some 41, op := Go.Op.move (Go.Operand.tmp 8), type := 25, pos := "law.go:53", after := #[], guard := none }) (v := ?vx5) rfl (by kernel_rfl) (by kernel_rfl) (by kernel_rfl) (fun _ _ _ h => h) (Or.inl ⟨by rfl, ?yx5⟩) (by assumption) ?rx5
    case yx5 => (intro w hSw; obtain rfl : w = w4.drew := hSw; go_simp; try with_reducible rfl)
    try simp only [Act.put, List.setIfInBounds_toArray, List.set_cons_zero, List.set_cons_succ]
    refine wpAnyH_take (i := 8) (oi := { dst := some 42, op := Go.Op.convert 25 9 (Go.Operand.tmp 41), type := 9, pos := "law.go:53", after := #[{ on := 7, ground := Go.Ground.data }], guard := none }) (v := ?vx6) rfl (by kernel_rfl) (by kernel_rfl) (by kernel_rfl) (fun _ _ _ h => h) (Or.inl ⟨by rfl, ?yx6⟩) (by assumption) ?rx6
    case yx6 => (intro w hSw; obtain rfl : w = w4.drew := hSw; go_simp; try with_reducible rfl)
    try simp only [Act.put, List.setIfInBounds_toArray, List.set_cons_zero, List.set_cons_succ]
    refine wpAnyH_take (i := 9) (oi := { dst := some 43, op := Go.Op.binOp Go.BinOp.eql 9 (Go.Operand.tmp 40) (Go.Operand.tmp 42) 9, type := 4, pos := "law.go:53", after := #[{ on := 6, ground := Go.Ground.data }, { on := 8, ground := Go.Ground.data }], guard := none }) (v := ?vx7) rfl (by kernel_rfl) (by kernel_rfl) (by kernel_rfl) (fun _ _ _ h => h) (Or.inl ⟨by rfl, ?yx7⟩) (by assumption) ?rx7
    case yx7 => (intro w hSw; obtain rfl : w = w4.drew := hSw; go_simp; try with_reducible rfl)
    try simp only [Act.put, List.setIfInBounds_toArray, List.set_cons_zero, List.set_cons_succ]
    refine wpAnyH_ready (rs := [1]) (by kernel_rfl) (by simp) ?_
    refine AllReadyH.cons (o := { dst := some 35, op := Go.Op.call { callee := Go.Callee.value (Go.Operand.func 10), args := #[Go.Operand.tmp 34], argTypes := #[9] }, type := 3, pos := "law.go:53", after := #[{ on := 0, ground := Go.Ground.data }], guard := none }) rfl (fun K hK => ?_) ?_
    · go_simp
      (go_at_call 10; with_reducible refine (HB.out _).mono ?_; rintro e w5 ⟨rfl, rfl⟩)
      go_wp2_with fail
      refine hK.out _ _ (by assumption) (fun hHeld => ?_)
      clear hK K
      try simp only [Act.put, List.setIfInBounds_toArray, List.set_cons_zero, List.set_cons_succ]
      refine wpAnyH_ready (rs := [4]) (by kernel_rfl) (by simp) ?_
      refine AllReadyH.cons (o := { dst := some 38, op := Go.Op.call { callee := Go.Callee.value (Go.Operand.func 10), args := #[Go.Operand.tmp 37], argTypes := #[9] }, type := 3, pos := "law.go:53", after := #[{ on := 3, ground := Go.Ground.data }, { on := 1, ground := Go.Ground.chain }], guard := none }) rfl (fun K hK => ?_) ?_
      · go_simp
        (go_at_call 10; with_reducible refine (HB.out _).mono ?_; rintro e w5 ⟨rfl, rfl⟩)
        go_wp2_with fail
        refine hK.out _ _ (by assumption) (fun hHeld => ?_)
        clear hK K
        try simp only [Act.put, List.setIfInBounds_toArray, List.set_cons_zero, List.set_cons_succ]
        refine wpAnyH_take (i := 5) (oi := { dst := some 39, op := Go.Op.binOp Go.BinOp.eql 3 (Go.Operand.tmp 35) (Go.Operand.tmp 38) 3, type := 4, pos := "law.go:53", after := #[{ on := 1, ground := Go.Ground.data }, { on := 4, ground := Go.Ground.data }], guard := none }) (v := ?vx8) rfl (by kernel_rfl) (by kernel_rfl) (by kernel_rfl) (fun _ _ _ h => h) (Or.inl ⟨by rfl, ?yx8⟩) (by assumption) ?rx8
        case yx8 => (intro w hSw; obtain rfl : w = w4.drew := hSw; go_simp; try with_reducible rfl)
        try simp only [Act.put, List.setIfInBounds_toArray, List.set_cons_zero, List.set_cons_succ]
        refine wpAnyH_take (i := 10) (oi := { dst := some 44, op := Go.Op.binOp Go.BinOp.eql 4 (Go.Operand.tmp 39) (Go.Operand.tmp 43) 4, type := 4, pos := "law.go:53", after := #[{ on := 5, ground := Go.Ground.data }, { on := 9, ground := Go.Ground.data }], guard := none }) (v := ?vx9) rfl (by kernel_rfl) (by kernel_rfl) (by kernel_rfl) (fun _ _ _ h => h) (Or.inl ⟨by rfl, ?yx9⟩) (by assumption) ?rx9
        case yx9 => (intro w hSw; obtain rfl : w = w4.drew := hSw; go_simp; try with_reducible rfl)
        try simp only [Act.put, List.setIfInBounds_toArray, List.set_cons_zero, List.set_cons_succ]
        refine wpAnyH_take (i := 11) (oi := { dst := some 6, op := Go.Op.assign (Go.Operand.tmp 44), type := 4, pos := "law.go:53", after := #[{ on := 10, ground := Go.Ground.data }, { on := 4, ground := Go.Ground.chain }, { on := 0, ground := Go.Ground.phase }, { on := 1, ground := Go.Ground.phase }, { on := 2, ground := Go.Ground.phase }, { on := 3, ground := Go.Ground.phase }, { on := 4, ground := Go.Ground.phase }, { on := 5, ground := Go.Ground.phase }, { on := 6, ground := Go.Ground.phase }, { on := 7, ground := Go.Ground.phase }, { on := 8, ground := Go.Ground.phase }, { on := 9, ground := Go.Ground.phase }, { on := 10, ground := Go.Ground.phase }], guard := none }) (v := ?vx10) rfl (by kernel_rfl) (by kernel_rfl) (by kernel_rfl) (fun _ _ _ h => h) (Or.inl ⟨by rfl, ?yx10⟩) (by assumption) ?rx10
        case yx10 => (intro w hSw; obtain rfl : w = w4.drew := hSw; go_simp; try with_reducible rfl)
        try simp only [Act.put, List.setIfInBounds_toArray, List.set_cons_zero, List.set_cons_succ]
        refine wpAnyH_done (by kernel_rfl) ?_ _
        refine NoPanic.normal ?_
        go_wp2
        go_ret
        exact ⟨rfl, HBX.out.drew⟩
      exact AllReadyH.nil
    exact AllReadyH.nil
  · have hn : ¬ (((bucketV a0.data.toList : Nat) : Int) = ((bucketV s.data.toList : Nat) : Int)) := fun h => hs (hE (by omega))
    clear hE
    generalize ((bucketV s.data.toList : Nat) : Int) = n at *
    generalize ((bucketV a0.data.toList : Nat) : Int) = n' at *
    have HQ1 : Hid ((n' == n) = false) := beq_false_of_ne hn
    have HQ2 : Hid ((a0.toList == s.toList) = false) := by
      show _ = _
      rw [ByteArray.toList_eq, ByteArray.toList_eq]
      exact beq_false_of_ne (fun h => hs (ByteArray.ext (Array.toList_inj.1 h.symm)))
    clear hs hn
    go_enter Try.func4, Try.ntmps4
    go_wp2_with (first | (go_at_call 9; refine (awake_any _).mono ?_; rintro e w1 ⟨rfl, hx⟩; have Hx1 := Lib.hid hx; clear hx; obtain ⟨w2, cp, g, v, kc, kv, kf, kb, hB⟩ := HW.out w1; have kc := kc _ rfl; have HBW := Lib.hid hB; clear hB))
    have hb := low Hx1.out HBW.out
    have HBX := Lib.hid hb
    clear hb HBW kc kv kf
    generalize (w2.setCell ⟨g, m, none⟩ (.int .u8 b.toNat)) = w4 at *
    refine wp_region_noPanic ?_
    refine wp_region_held_drew (S := Same w4.drew) (by kernel_rfl) rfl (fun hHeld => ?_)
    refine wpAnyH_take (i := 0) (oi := { dst := some 34, op := Go.Op.move (Go.Operand.tmp 0), type := 9, pos := "law.go:53", after := #[], guard := none }) (v := ?vy1) rfl (by kernel_rfl) (by kernel_rfl) (by kernel_rfl) (fun _ _ _ h => h) (Or.inl ⟨by rfl, ?yy1⟩) (by assumption) ?ry1
    case yy1 => (intro w hSw; obtain rfl : w = w4.drew := hSw; go_simp; try with_reducible rfl)
    try simp only [Act.put, List.setIfInBounds_toArray, List.set_cons_zero, List.set_cons_succ]
    refine wpAnyH_take (i := 2) (oi := { dst := some 36, op := Go.Op.move (Go.Operand.tmp 8), type := 25, pos := "law.go:53", after := #[], guard := none }) (v := ?vy2) rfl (by kernel_rfl) (by kernel_rfl) (by kernel_rfl) (fun _ _ _ h => h) (Or.inl ⟨by rfl, ?yy2⟩) (by assumption) ?ry2
    case yy2 => (intro w hSw; obtain rfl : w = w4.drew := hSw; go_simp; try with_reducible rfl)
    try simp only [Act.put, List.setIfInBounds_toArray, List.set_cons_zero, List.set_cons_succ]
    refine wpAnyH_take (i := 3) (oi := { dst := some 37, op := Go.Op.convert 25 9 (Go.Operand.tmp 36), type := 9, pos := "law.go:53", after := #[{ on := 2, ground := Go.Ground.data }], guard := none }) (v := ?vy3) rfl (by kernel_rfl) (by kernel_rfl) (by kernel_rfl) (fun _ _ _ h => h) (Or.inl ⟨by rfl, ?yy3⟩) (by assumption) ?ry3
    case yy3 => (intro w hSw; obtain rfl : w = w4.drew := hSw; go_simp; try with_reducible rfl)
    try simp only [Act.put, List.setIfInBounds_toArray, List.set_cons_zero, List.set_cons_succ]
    refine wpAnyH_take (i := 6) (oi := { dst := some 40, op := Go.Op.move (Go.Operand.tmp 0), type := 9, pos := "law.go:53", after := #[], guard := none }) (v := ?vy4) rfl (by kernel_rfl) (by kernel_rfl) (by kernel_rfl) (fun _ _ _ h => h) (Or.inl ⟨by rfl, ?yy4⟩) (by assumption) ?ry4
    case yy4 => (intro w hSw; obtain rfl : w = w4.drew := hSw; go_simp; try with_reducible rfl)
    try simp only [Act.put, List.setIfInBounds_toArray, List.set_cons_zero, List.set_cons_succ]
    refine wpAnyH_take (i := 7) (oi := { dst := some 41, op := Go.Op.move (Go.Operand.tmp 8), type := 25, pos := "law.go:53", after := #[], guard := none }) (v := ?vy5) rfl (by kernel_rfl) (by kernel_rfl) (by kernel_rfl) (fun _ _ _ h => h) (Or.inl ⟨by rfl, ?yy5⟩) (by assumption) ?ry5
    case yy5 => (intro w hSw; obtain rfl : w = w4.drew := hSw; go_simp; try with_reducible rfl)
    try simp only [Act.put, List.setIfInBounds_toArray, List.set_cons_zero, List.set_cons_succ]
    refine wpAnyH_take (i := 8) (oi := { dst := some 42, op := Go.Op.convert 25 9 (Go.Operand.tmp 41), type := 9, pos := "law.go:53", after := #[{ on := 7, ground := Go.Ground.data }], guard := none }) (v := ?vy6) rfl (by kernel_rfl) (by kernel_rfl) (by kernel_rfl) (fun _ _ _ h => h) (Or.inl ⟨by rfl, ?yy6⟩) (by assumption) ?ry6
    case yy6 => (intro w hSw; obtain rfl : w = w4.drew := hSw; go_simp; try with_reducible rfl)
    try simp only [Act.put, List.setIfInBounds_toArray, List.set_cons_zero, List.set_cons_succ]
    refine wpAnyH_take (i := 9) (oi := { dst := some 43, op := Go.Op.binOp Go.BinOp.eql 9 (Go.Operand.tmp 40) (Go.Operand.tmp 42) 9, type := 4, pos := "law.go:53", after := #[{ on := 6, ground := Go.Ground.data }, { on := 8, ground := Go.Ground.data }], guard := none }) (v := ?vy7) rfl (by kernel_rfl) (by kernel_rfl) (by kernel_rfl) (fun _ _ _ h => h) (Or.inl ⟨by rfl, ?yy7⟩) (by assumption) ?ry7
    case yy7 => (intro w hSw; obtain rfl : w = w4.drew := hSw; go_simp; try with_reducible rfl)
    try simp only [Act.put, List.setIfInBounds_toArray, List.set_cons_zero, List.set_cons_succ]
    refine wpAnyH_ready (rs := [1]) (by kernel_rfl) (by simp) ?_
    refine AllReadyH.cons (o := { dst := some 35, op := Go.Op.call { callee := Go.Callee.value (Go.Operand.func 10), args := #[Go.Operand.tmp 34], argTypes := #[9] }, type := 3, pos := "law.go:53", after := #[{ on := 0, ground := Go.Ground.data }], guard := none }) rfl (fun K hK => ?_) ?_
    · go_simp
      (go_at_call 10; with_reducible refine (HB.out _).mono ?_; rintro e w5 ⟨rfl, rfl⟩)
      go_wp2_with fail
      refine hK.out _ _ (by assumption) (fun hHeld => ?_)
      clear hK K
      try simp only [Act.put, List.setIfInBounds_toArray, List.set_cons_zero, List.set_cons_succ]
      refine wpAnyH_ready (rs := [4]) (by kernel_rfl) (by simp) ?_
      refine AllReadyH.cons (o := { dst := some 38, op := Go.Op.call { callee := Go.Callee.value (Go.Operand.func 10), args := #[Go.Operand.tmp 37], argTypes := #[9] }, type := 3, pos := "law.go:53", after := #[{ on := 3, ground := Go.Ground.data }, { on := 1, ground := Go.Ground.chain }], guard := none }) rfl (fun K hK => ?_) ?_
      · go_simp
        (go_at_call 10; with_reducible refine (HB2.out _).mono ?_; rintro e w5 ⟨rfl, rfl⟩)
        go_wp2_with fail
        refine hK.out _ _ (by assumption) (fun hHeld => ?_)
        clear hK K
        try simp only [Act.put, List.setIfInBounds_toArray, List.set_cons_zero, List.set_cons_succ]
        refine wpAnyH_take (i := 5) (oi := { dst := some 39, op := Go.Op.binOp Go.BinOp.eql 3 (Go.Operand.tmp 35) (Go.Operand.tmp 38) 3, type := 4, pos := "law.go:53", after := #[{ on := 1, ground := Go.Ground.data }, { on := 4, ground := Go.Ground.data }], guard := none }) (v := ?vy8) rfl (by kernel_rfl) (by kernel_rfl) (by kernel_rfl) (fun _ _ _ h => h) (Or.inl ⟨by rfl, ?yy8⟩) (by assumption) ?ry8
        case yy8 => (intro w hSw; obtain rfl : w = w4.drew := hSw; go_simp; try with_reducible rfl)
        try simp only [Act.put, List.setIfInBounds_toArray, List.set_cons_zero, List.set_cons_succ]
        refine wpAnyH_take (i := 10) (oi := { dst := some 44, op := Go.Op.binOp Go.BinOp.eql 4 (Go.Operand.tmp 39) (Go.Operand.tmp 43) 4, type := 4, pos := "law.go:53", after := #[{ on := 5, ground := Go.Ground.data }, { on := 9, ground := Go.Ground.data }], guard := none }) (v := ?vy9) rfl (by kernel_rfl) (by kernel_rfl) (by kernel_rfl) (fun _ _ _ h => h) (Or.inl ⟨by rfl, ?yy9⟩) (by assumption) ?ry9
        case yy9 => (intro w hSw; obtain rfl : w = w4.drew := hSw; go_simp; try with_reducible rfl)
        try simp only [Act.put, List.setIfInBounds_toArray, List.set_cons_zero, List.set_cons_succ]
        refine wpAnyH_take (i := 11) (oi := { dst := some 6, op := Go.Op.assign (Go.Operand.tmp 44), type := 4, pos := "law.go:53", after := #[{ on := 10, ground := Go.Ground.data }, { on := 4, ground := Go.Ground.chain }, { on := 0, ground := Go.Ground.phase }, { on := 1, ground := Go.Ground.phase }, { on := 2, ground := Go.Ground.phase }, { on := 3, ground := Go.Ground.phase }, { on := 4, ground := Go.Ground.phase }, { on := 5, ground := Go.Ground.phase }, { on := 6, ground := Go.Ground.phase }, { on := 7, ground := Go.Ground.phase }, { on := 8, ground := Go.Ground.phase }, { on := 9, ground := Go.Ground.phase }, { on := 10, ground := Go.Ground.phase }], guard := none }) (v := ?vy10) rfl (by kernel_rfl) (by kernel_rfl) (by kernel_rfl) (fun _ _ _ h => h) (Or.inl ⟨by rfl, ?yy10⟩) (by assumption) ?ry10
        case yy10 => (intro w hSw; obtain rfl : w = w4.drew := hSw; go_simp; try with_reducible rfl)
        try simp only [Act.put, List.setIfInBounds_toArray, List.set_cons_zero, List.set_cons_succ]
        refine wpAnyH_done (by kernel_rfl) ?_ _
        refine NoPanic.normal ?_
        go_wp2
        go_ret
        exact ⟨ret_bool (by show ((n' == n) == (a0.toList == s.toList)) = true; rw [HQ1.out, HQ2.out]; rfl), HBX.out.drew⟩
      exact AllReadyH.nil
    exact AllReadyH.nil

end Go.Proofs.Ytilimmimidikcaa
