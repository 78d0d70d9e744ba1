/- Bytes as figures of 16. -/
import Derived.Test.YtodjeidofgbdlaaGreatDoorRgp
import Derived.Test.YtodjeidofgbdlaaGreatDoorSeq
import Derived.Lib.ConvBytes
import Derived.Lib.AtoiErrMem
import Derived.Lib.BufferRead
import Derived.Laws.IdiomStrings
namespace Go.Proofs.YtodjeidofgbdlaaGreatDoor
open Go.ChangeShapes Go.WideShapes Go.ChangeAt Go.RowKit
set_option linter.unusedVariables false
set_option linter.unusedSimpArgs false

def hexS : ByteArray := { data := #[48, 49, 50, 51, 52, 53, 54, 55, 56, 57, 97, 98, 99, 100, 101, 102] }
theorem hex_byte (j m : Nat) (e : j = m) (h : m < 16) (hb : j < ({ data := #[48, 49, 50, 51, 52, 53, 54, 55, 56, 57, 97, 98, 99, 100, 101, 102] } : ByteArray).size) : (({ data := #[48, 49, 50, 51, 52, 53, 54, 55, 56, 57, 97, 98, 99, 100, 101, 102] } : ByteArray)[j]'hb).toNat = (fig m).toNat := by
  subst e
  have : j = 0 ∨ j = 1 ∨ j = 2 ∨ j = 3 ∨ j = 4 ∨ j = 5 ∨ j = 6 ∨ j = 7 ∨ j = 8 ∨ j = 9 ∨ j = 10 ∨ j = 11 ∨ j = 12 ∨ j = 13 ∨ j = 14 ∨ j = 15 := by omega
  rcases this with rfl | rfl | rfl | rfl | rfl | rfl | rfl | rfl | rfl | rfl | rfl | rfl | rfl | rfl | rfl | rfl <;> rfl
theorem and15 (n : Nat) (h : n < 256) : bits BinOp.and IntKind.u8 (n : Int) 15 = ((n % 16 : Nat) : Int) := by
  have h1 := bits_mask .u8 8 (by decide) wraps_u8 4 (by decide) (n : Int) (by omega) (by rw [show (2 : Int) ^ 8 = 256 by decide]; omega)
  rw [show ((2 : Int) ^ 4 - 1) = 15 by decide, show ((2 : Int) ^ 4) = 16 by decide] at h1
  rw [h1]
  omega
/-- Bytes as cells. -/
def cb (l : List UInt8) : List Value := l.map (fun x => Value.int .u8 (x.toNat : Int))
theorem cb_append (a c : List UInt8) : cb (a ++ c) = cb a ++ cb c := by unfold cb; rw [List.map_append]
theorem cb_length (a : List UInt8) : (cb a).length = a.length := by unfold cb; rw [List.length_map]
theorem hex_snoc (s : List UInt8) (k : Nat) (h : k < s.length) : hexL (s.take (k + 1)) = hexL (s.take k) ++ [fig ((s.getD k 0).toNat / 16), fig ((s.getD k 0).toNat % 16)] := by
  rw [List.take_add_one, hexL_append, List.getD_eq_getElem?_getD, List.getElem?_eq_getElem h]
  rfl
theorem two_new (w : World) (u v : Value) (t : TypeId) : ∀ j x, [u, v][j]? = some x → (w.alloc (.cells #[u, v] t)).cell? ((⟨w.heap.size, 0, none⟩ : Addr).add j) = some x := by
  intro j x hj
  rw [add_spot0, Nat.zero_add]
  have h := Blk.new w #[u, v] t
  exact (h.cell j).trans (by rw [← hj]; simp)
theorem conv_own {w : World} {B n : Nat} {v : Value} {l : List UInt8} (h : w.ownsRow B 5 1 v n (cb l)) : (convert 39 9 v).run Tryz.prog w = .ok (.string (bl l)) w := by
  rcases Nat.eq_zero_or_pos n with h0 | h0
  · have hl : l.length = 0 := by have := h.1; rw [cb_length] at this; omega
    obtain rfl : l = [] := List.length_eq_zero_iff.1 hl
    rcases h.2 with ⟨rfl, _⟩ | ⟨g, cap, cur, rfl, _⟩
    · subst h0
      have := Lib.run_convert_nil_bytes (P := Tryz.prog) w 39 9 5 0 Tryz.underlying39 Tryz.underlying5 Tryz.underlying9
      exact this
    · subst h0
      exact run_convert_bytes_back (P := Tryz.prog) w 39 9 5 ⟨g, 0, none⟩ cap [] Tryz.underlying39 Tryz.underlying5 Tryz.underlying9 (fun j hj => by simp at hj)
  · obtain ⟨g, cap, rfl, _, _, _, hr⟩ := own_row h h0
    have hn : l.length = n := by have := h.1; rw [cb_length] at this; omega
    subst hn
    exact run_convert_bytes_back (P := Tryz.prog) w 39 9 5 ⟨g, 0, none⟩ cap l Tryz.underlying39 Tryz.underlying5 Tryz.underlying9 (fun j hj => by
      rw [add_spot0, Nat.zero_add]
      exact hr.at (by unfold cb; rw [List.getElem?_map, List.getElem?_eq_getElem hj]; rfl))

theorem Tryz.info5 : (Tryz.prog.info? 5).map (fun i => (i.zero, i.size, i.bytes)) = some (some (.int .u8 0), 1, 1) := by kernel_rfl
set_option maxRecDepth 100000 in
set_option maxHeartbeats 1000000 in
theorem figured_any (s : ByteArray) (hs : s.size ≤ 1000) (w : World) : Calls Tryz.prog 25 #[.string s] w fun e w' => e = .returned (.string (bl (hexL s.data.toList))) ∧ Below w.heap.size w w' := by
  obtain ⟨i0, hi, hz0, hz1, hz2⟩ := info_parts Tryz.info5
  have CV := Lib.run_convert_string_bytes (P := Tryz.prog) w 9 39 5 s Tryz.underlying9 Tryz.underlying39 Tryz.underlying5
  have HC := Lib.hid (Lib.bytesWorld_cell w 5 s)
  have HS := Lib.hid (Lib.bytesWorld_size w 5 s)
  have HW := Lib.hid (Lib.bytesWorld_below w 5 s)
  have hsl : s.data.toList.length = s.size := Array.length_toList
  have HSL := Lib.hid hsl
  clear hsl
  go_enter Tryz.func25, Tryz.ntmps25
  go_upto_region 3 with (fail)
  generalize Lib.bytesWorld w 5 s = W1 at *
  go_wp2
  go_loopw [3, 9] (fun v i wr => ∃ k : Nat, k ≤ s.size ∧ i = .int .i64 k ∧ wr.ownsRow W1.heap.size 5 1 v (2 * k) (cb (hexL (s.data.toList.take k))) ∧ Below W1.heap.size W1 wr) (fun _ i _ => s.size - (intOf i).toNat)
  case atStart => exact ⟨0, by omega, rfl, World.ownsRow_nil _ _ _ _, Below.refl _ _⟩
  case round =>
    obtain ⟨k, hk, rfl, hown, hb⟩ := hrel
    have HO := Lib.hid hown
    have HB := Lib.hid hb
    clear hown hb
    by_cases hlt : k < s.size
    · have hc : wr.cell? ⟨w.heap.size, k, none⟩ = some (.int .u8 (s.data.toList.getD k 0).toNat) := (World.cell?_of_block (a := ⟨w.heap.size, k, none⟩) (HB.out.block w.heap.size (by rw [HS.out]; omega))).trans (HC.out k hlt)
      have HN := Lib.hid (hex_snoc s.data.toList k (by rw [HSL.out]; exact hlt))
      obtain ⟨x, hx⟩ : ∃ x : Nat, x = (s.data.toList.getD k 0).toNat := ⟨_, rfl⟩
      have hx2 : x < 256 := by rw [hx]; exact UInt8.toNat_lt _
      rw [← hx] at hc
      have HXE := Lib.hid hx
      clear hx
      go_upto_region 5 with (fail)
      refine wp_region_noPanic ?_
      refine wp_region_held_drew (S := Below W1.heap.size W1) (by kernel_rfl) HB.out.drew (fun hHeld => ?_)
      refine wpAnyH_take (i := 0) (oi := { dst := some 13, op := Go.Op.move (Go.Operand.tmp 3), type := 39, pos := "trace.go:35", after := #[], guard := none }) (v := ?vh0_0) rfl (by kernel_rfl) (by kernel_rfl) (by kernel_rfl) (fun _ _ _ h => h) (Or.inl ⟨by rfl, ?yh0_0⟩) (by assumption) ?rh0_0
      case yh0_0 => (intro wS hSw; go_simp; try (with_reducible rfl))
      try simp only [Act.put, List.setIfInBounds_toArray, List.set_cons_zero, List.set_cons_succ]
      refine wpAnyH_take (i := 1) (oi := { dst := some 14, op := Go.Op.move (Go.Operand.tmp 5), type := 5, pos := "trace.go:35", after := #[], guard := none }) (v := ?vh1_1) rfl (by kernel_rfl) (by kernel_rfl) (by kernel_rfl) (fun _ _ _ h => h) (Or.inl ⟨by rfl, ?yh1_1⟩) (by assumption) ?rh1_1
      case yh1_1 => (intro wS hSw; go_simp; try (with_reducible rfl))
      try simp only [Act.put, List.setIfInBounds_toArray, List.set_cons_zero, List.set_cons_succ]
      refine wpAnyH_take (i := 2) (oi := { dst := some 15, op := Go.Op.binOp Go.BinOp.shr 5 (Go.Operand.tmp 14) (Go.Operand.const (Go.Value.int Go.IntKind.u64 4)) 81, type := 5, pos := "trace.go:35", after := #[{ on := 1, ground := Go.Ground.data }], guard := none }) (v := ?vh2_2) rfl (by kernel_rfl) (by kernel_rfl) (by kernel_rfl) (fun _ _ _ h => h) (Or.inl ⟨by rfl, ?yh2_2⟩) (by assumption) ?rh2_2
      case yh2_2 => (intro wS hSw; go_simp; try (with_reducible rfl))
      try simp only [Act.put, List.setIfInBounds_toArray, List.set_cons_zero, List.set_cons_succ]
      refine wpAnyH_take (i := 3) (oi := { dst := some 16, op := Go.Op.index 9 (Go.Operand.const (Go.Value.string { data := #[48, 49, 50, 51, 52, 53, 54, 55, 56, 57, 97, 98, 99, 100, 101, 102] })) (Go.Operand.tmp 15), type := 5, pos := "trace.go:35", after := #[{ on := 2, ground := Go.Ground.data }], guard := none }) (v := .int .u8 ((fig (x / 16)).toNat : Int)) rfl (by kernel_rfl) (by kernel_rfl) (by kernel_rfl) (fun _ _ _ h => h) (Or.inl ⟨by rfl, ?yh3_3⟩) (by assumption) ?rh3_3
      case yh3_3 => (intro wS hSw; go_simp; try ((rw [dif_pos (by omega)]; exact congrArg (fun z : Nat => Result.ok (Next.value (Value.int .u8 (z : Int))) wS) (hex_byte _ (x / 16) (by omega) (by omega) _))))
      try simp only [Act.put, List.setIfInBounds_toArray, List.set_cons_zero, List.set_cons_succ]
      refine wpAnyH_take (i := 4) (oi := { dst := some 17, op := Go.Op.move (Go.Operand.tmp 5), type := 5, pos := "trace.go:35", after := #[], guard := none }) (v := ?vh4_4) rfl (by kernel_rfl) (by kernel_rfl) (by kernel_rfl) (fun _ _ _ h => h) (Or.inl ⟨by rfl, ?yh4_4⟩) (by assumption) ?rh4_4
      case yh4_4 => (intro wS hSw; go_simp; try (with_reducible rfl))
      try simp only [Act.put, List.setIfInBounds_toArray, List.set_cons_zero, List.set_cons_succ]
      refine wpAnyH_take (i := 5) (oi := { dst := some 18, op := Go.Op.binOp Go.BinOp.and 5 (Go.Operand.tmp 17) (Go.Operand.const (Go.Value.int Go.IntKind.u8 15)) 5, type := 5, pos := "trace.go:35", after := #[{ on := 4, ground := Go.Ground.data }], guard := none }) (v := ?vh5_5) rfl (by kernel_rfl) (by kernel_rfl) (by kernel_rfl) (fun _ _ _ h => h) (Or.inl ⟨by rfl, ?yh5_5⟩) (by assumption) ?rh5_5
      case yh5_5 => (intro wS hSw; go_simp; try (with_reducible rfl))
      try simp only [Act.put, List.setIfInBounds_toArray, List.set_cons_zero, List.set_cons_succ]
      refine wpAnyH_take (i := 6) (oi := { dst := some 19, op := Go.Op.index 9 (Go.Operand.const (Go.Value.string { data := #[48, 49, 50, 51, 52, 53, 54, 55, 56, 57, 97, 98, 99, 100, 101, 102] })) (Go.Operand.tmp 18), type := 5, pos := "trace.go:35", after := #[{ on := 5, ground := Go.Ground.data }], guard := none }) (v := .int .u8 ((fig (x % 16)).toNat : Int)) rfl (by kernel_rfl) (by kernel_rfl) (by kernel_rfl) (fun _ _ _ h => h) (Or.inl ⟨by rfl, ?yh6_6⟩) (by assumption) ?rh6_6
      case yh6_6 => (intro wS hSw; go_simp; try ((rw [and15 x hx2, dif_pos (by omega)]; exact congrArg (fun z : Nat => Result.ok (Next.value (Value.int .u8 (z : Int))) wS) (hex_byte _ (x % 16) (by omega) (by omega) _))))
      try simp only [Act.put, List.setIfInBounds_toArray, List.set_cons_zero, List.set_cons_succ]
      refine wpAnyH_ready (rs := [7]) (by kernel_rfl) (by simp) ?_
      refine AllReadyH.cons (o := { dst := some 20, op := Go.Op.buildSlice 39 2 #[(0, Go.Operand.tmp 16), (1, Go.Operand.tmp 19)], type := 39, pos := "trace.go:35", after := #[{ on := 3, ground := Go.Ground.data }, { on := 6, ground := Go.Ground.data }], guard := none }) rfl (fun K hK => ?_) AllReadyH.nil
      go_simp
      refine hK.out _ _ (lowA hHeld (.cells #[.int .u8 ((fig (x / 16)).toNat : Int), .int .u8 ((fig (x % 16)).toNat : Int)] 5)) (fun hHeld => ?_)
      clear hK K
      try simp only [Act.put, List.setIfInBounds_toArray, List.set_cons_zero, List.set_cons_succ]
      refine wpAnyH_ready (rs := [8]) (by kernel_rfl) (by simp) ?_
      refine AllReadyH.cons (o := { dst := some 21, op := Go.Op.call { callee := Go.Callee.builtin Go.Builtin.append, args := #[Go.Operand.tmp 13, Go.Operand.tmp 20], argTypes := #[39, 39] }, type := 39, pos := "trace.go:35", after := #[{ on := 0, ground := Go.Ground.data }, { on := 7, ground := Go.Ground.data }], guard := none }) rfl (fun K hK => ?_) AllReadyH.nil
      rw [if_pos (by rfl)]
      refine wp_append_own _ (.tmp 13) (.tmp 20) 39 rfl W1.heap.size 5 i0 (.int .u8 0) 1 1 Tryz.underlying39 hi hz0 hz1 hz2 rfl (by decide) _ (2 * k) _ rfl (HO.out.drew.alloc (.cells #[.int .u8 ((fig (x / 16)).toNat : Int), .int .u8 ((fig (x % 16)).toNat : Int)] 5)) ⟨_, 0, none⟩ 2 2 [.int .u8 ((fig (x / 16)).toNat : Int), .int .u8 ((fig (x % 16)).toNat : Int)] rfl rfl (two_new _ _ _ _) (by intro u hu; simp at hu; rcases hu with rfl | rfl <;> rfl) (by unfold maxLen; omega) (by omega) (by have := HB.out.size; simp; omega) ?_
      intro v1 w3 hown3 hgr3 _
      refine hK.out _ _ (Below.grownOwn hHeld (HO.out.drew.alloc (.cells #[.int .u8 ((fig (x / 16)).toNat : Int), .int .u8 ((fig (x % 16)).toNat : Int)] 5)) hgr3 (Nat.le_refl _)) (fun hHeld => ?_)
      clear hK K
      have HO3 := Lib.hid hown3
      clear hown3 hgr3
      try simp only [Act.put, List.setIfInBounds_toArray, List.set_cons_zero, List.set_cons_succ]
      refine wpAnyH_take (i := 9) (oi := { dst := some 3, op := Go.Op.assign (Go.Operand.tmp 21), type := 39, pos := "trace.go:35", after := #[{ on := 8, ground := Go.Ground.data }, { on := 8, ground := Go.Ground.chain }, { on := 0, ground := Go.Ground.phase }, { on := 1, ground := Go.Ground.phase }, { on := 2, ground := Go.Ground.phase }, { on := 3, ground := Go.Ground.phase }, { on := 4, ground := Go.Ground.phase }, { on := 5, ground := Go.Ground.phase }, { on := 6, ground := Go.Ground.phase }, { on := 7, ground := Go.Ground.phase }, { on := 8, ground := Go.Ground.phase }], guard := none }) (v := ?vh9_7) rfl (by kernel_rfl) (by kernel_rfl) (by kernel_rfl) (fun _ _ _ h => h) (Or.inl ⟨by rfl, ?yh9_7⟩) (by assumption) ?rh9_7
      case yh9_7 => (intro wS hSw; go_simp; try (with_reducible rfl))
      try simp only [Act.put, List.setIfInBounds_toArray, List.set_cons_zero, List.set_cons_succ]
      refine wpAnyH_done (by kernel_rfl) ?_ _
      refine NoPanic.normal ?_
      go_wp2
      exact ⟨⟨k + 1, by omega, by go_num, by rw [HN.out, cb_append, ← HXE.out]; exact HO3.out, hHeld⟩, by simp [intOf]; omega⟩
    · obtain rfl : k = s.size := by omega
      have HT : Hid (s.data.toList.take s.size = s.data.toList) := by rw [← HSL.out]; exact List.take_length
      have cv := conv_own HO.out
      go_wp2
      go_ret
      exact ⟨ret_str (by rw [HT]), HW.out.trans (HB.out.mono (by have := HW.out.size; omega))⟩

end Go.Proofs.YtodjeidofgbdlaaGreatDoor
