/- Figures of 16 as bytes. -/
import Derived.Test.YtodjeidofgbdlaaGreatDoorHex
import Derived.Test.YtodjeidofgbdlaaGreatDoorShelf
namespace Go.Proofs.YtodjeidofgbdlaaGreatDoor
open Go.ChangeShapes Go.WideShapes Go.ChangeAt Go.RowKit
set_option linter.unusedVariables false
set_option linter.unusedSimpArgs false

def hexIx (x : UInt8) : Int := Lib.indexByte ({ data := #[48, 49, 50, 51, 52, 53, 54, 55, 56, 57, 97, 98, 99, 100, 101, 102] } : ByteArray).data.toList x
/-- Figures of 16 as bytes; where something else stands, any. -/
def unByte (i j : Int) : Nat := ((max i 0).toNat * 16 + (max j 0).toNat) % 256
def unhexL : List UInt8 → List UInt8
  | a :: c :: l => UInt8.ofNat (unByte (hexIx a) (hexIx c)) :: unhexL l
  | _ => []
theorem ixb_lt (x : UInt8) : ∀ l : List UInt8, Lib.indexByte l x + 1 ≤ l.length
  | [] => by simp [Lib.indexByte]
  | b :: l => by
    have ih := ixb_lt x l
    have hl : (0 : Int) ≤ l.length := by omega
    unfold Lib.indexByte
    simp only [List.length_cons]
    split
    · omega
    · split <;> omega
theorem hexIx_range (x : UInt8) : -1 ≤ hexIx x ∧ hexIx x ≤ 15 := by
  refine ⟨Lib.indexByte_ge _ _, ?_⟩
  have h := ixb_lt x ({ data := #[48, 49, 50, 51, 52, 53, 54, 55, 56, 57, 97, 98, 99, 100, 101, 102] } : ByteArray).data.toList
  have e : (({ data := #[48, 49, 50, 51, 52, 53, 54, 55, 56, 57, 97, 98, 99, 100, 101, 102] } : ByteArray).data.toList.length : Int) = 16 := rfl
  unfold hexIx
  omega
theorem hexIx_fig (m : Nat) (h : m < 16) : hexIx (fig m) = m := by
  have : m = 0 ∨ m = 1 ∨ m = 2 ∨ m = 3 ∨ m = 4 ∨ m = 5 ∨ m = 6 ∨ m = 7 ∨ m = 8 ∨ m = 9 ∨ m = 10 ∨ m = 11 ∨ m = 12 ∨ m = 13 ∨ m = 14 ∨ m = 15 := by omega
  rcases this with rfl | rfl | rfl | rfl | rfl | rfl | rfl | rfl | rfl | rfl | rfl | rfl | rfl | rfl | rfl | rfl <;> rfl
theorem un_end {s : ByteArray} (h : s.size ≤ 1) : unhexL s.data.toList = [] := by
  have hl : s.data.toList.length = s.size := Array.length_toList
  generalize s.data.toList = l at *
  match l with
  | [] => rfl
  | [_] => rfl
  | _ :: _ :: _ => simp at hl; omega
theorem un_byte (i j : Int) (hi : i ≤ 15) (hj : j ≤ 15) : bits BinOp.or IntKind.i64 (max i 0 * 16) (max j 0) % 256 = ((unByte i j : Nat) : Int) := by
  obtain ⟨a, ha⟩ : ∃ a : Nat, max i 0 = (a : Int) := ⟨(max i 0).toNat, by omega⟩
  obtain ⟨b, hb⟩ : ∃ b : Nat, max j 0 = (b : Int) := ⟨(max j 0).toNat, by omega⟩
  unfold unByte
  rw [ha, hb]
  have e : ((a : Int) * 16) = ((2 ^ 4 * a : Nat) : Int) := by omega
  rw [e, (bits_nat .i64 63 (by decide) (fun n h0 h1 => by rw [show (2 : Int) ^ 63 = 9223372036854775808 by decide] at h1; rw [IntKind.wrap_i64]; omega) (2 ^ 4 * a) b (by omega) (by omega)).2, ← Nat.two_pow_add_eq_or_of_lt (show b < 2 ^ 4 by omega)]
  simp only [Int.toNat_natCast]
  omega
theorem str_two {s : ByteArray} (h : 1 < s.size) : s.data.toList = s[0] :: s[1] :: (s.extract 2 s.size).data.toList := by
  have hs : s.data.size = s.size := rfl
  rw [Lib.extract_to_end]
  have hl : 1 < s.data.toList.length := by rw [Array.length_toList]; exact h
  have h0 : s.data.toList[0]? = some s[0] := by rw [List.getElem?_eq_getElem (by omega)]; rfl
  have h1 : s.data.toList[1]? = some s[1] := by rw [List.getElem?_eq_getElem hl]; rfl
  rcases hd : s.data.toList with _ | ⟨a, _ | ⟨b, r⟩⟩
  · rw [hd] at hl; simp at hl
  · rw [hd] at hl; simp at hl
  · rw [hd] at h0 h1
    simp at h0 h1
    rw [h0, h1]
    rfl
theorem unhex_hex (l : List UInt8) : unhexL (hexL l) = l := by
  induction l with
  | nil => rfl
  | cons b l ih =>
    have hb := b.toNat_lt
    rw [hexL_cons, unhexL, ih, hexIx_fig _ (by omega), hexIx_fig _ (by omega)]
    have : unByte ((b.toNat / 16 : Nat) : Int) ((b.toNat % 16 : Nat) : Int) = b.toNat := by unfold unByte; omega
    rw [this, UInt8.ofNat_toNat]
theorem ixb_any (a : UInt8) (w : World) : Calls Tryz.prog 48 #[.string ({ data := #[48, 49, 50, 51, 52, 53, 54, 55, 56, 57, 97, 98, 99, 100, 101, 102] } : ByteArray), .int .u8 (a.toNat : Int)] w fun e w' => e = .returned (.int .i64 (hexIx a)) ∧ w' = w := by
  have h := Tryz.strings_IndexByte ({ data := #[48, 49, 50, 51, 52, 53, 54, 55, 56, 57, 97, 98, 99, 100, 101, 102] } : ByteArray) (a.toNat : Int) w
  have e : (a.toNat : Int).toNat.toUInt8 = a := by simp
  rw [e] at h
  exact h

set_option maxRecDepth 100000 in
set_option maxHeartbeats 1000000 in
theorem unfigured_any (s : ByteArray) (hs : s.size ≤ 100000) (w : World) : Calls Tryz.prog 34 #[.string s] w fun e w' => e = .returned (.string (bl (unhexL s.data.toList))) ∧ Below w.heap.size w w' := by
  obtain ⟨i0, hi, hz0, hz1, hz2⟩ := info_parts Tryz.info5
  go_enter Tryz.func34, Tryz.ntmps34
  go_wp2
  go_loopw [0, 3] (fun t v wr => ∃ (s' : ByteArray) (l : List UInt8), t = .string s' ∧ wr.ownsRow w.heap.size 5 1 v l.length (cb l) ∧ l ++ unhexL s'.data.toList = unhexL s.data.toList ∧ s'.size + l.length ≤ s.size ∧ Below w.heap.size w wr) (fun t _ _ => (match t with | .string s' => s'.size | _ => 0))
  case atStart => exact ⟨s, [], rfl, World.ownsRow_nil _ _ _ _, rfl, by simp, Below.refl _ _⟩
  case round =>
    obtain ⟨s', l, rfl, hown, hl, hsz, hb⟩ := hrel
    have HO := Lib.hid hown
    have HB := Lib.hid hb
    have HL := Lib.hid hl
    clear hown hb hl
    by_cases hlt : 1 < s'.size
    · obtain ⟨a, ha⟩ : ∃ a, a = s'[0]'(by omega) := ⟨_, rfl⟩
      obtain ⟨c, hc⟩ : ∃ c, c = s'[1]'hlt := ⟨_, rfl⟩
      have HA := Lib.hid ha
      have HCC := Lib.hid hc
      clear ha hc
      go_upto_region 4 with (fail)
      generalize (decide ((1 : Int) < (s'.size : Int))) = bq at *
      refine wp_region_seq (S := fun wS => Hid (wS = wr.drew)) 8 (by kernel_rfl) (by kernel_rfl) (Lib.hid rfl) ?_
      simp only [List.take_succ_cons, List.take_zero, List.drop_succ_cons, List.drop_zero]
      refine wpHeld_val (v := ?vu0) (by rfl) ?yu0 ?ru0
      case yu0 => (intro wS hSw; go_simp; try (with_reducible rfl))
      try simp only [Act.put, List.setIfInBounds_toArray, List.set_cons_zero, List.set_cons_succ]
      refine wpHeld_val (v := .int .u8 (a.toNat : Int)) (by rfl) ?yu1 ?ru1
      case yu1 => (intro wS hSw; go_simp; try ((rw [dif_pos (by omega), HA.out]; rfl)))
      try simp only [Act.put, List.setIfInBounds_toArray, List.set_cons_zero, List.set_cons_succ]
      refine wpHeld_run (.int .i64 (hexIx a)) (by rfl) ?cu2 ?ru2
      case cu2 => (intro wS hSw K hK; go_simp; (go_at_call 48; (with_reducible refine (ixb_any a _).mono ?_); rintro e w5 ⟨rfl, rfl⟩); go_wp2_with fail; exact hK.out _ (hSw))
      try simp only [Act.put, List.setIfInBounds_toArray, List.set_cons_zero, List.set_cons_succ]
      refine wpHeld_val (v := ?vu3) (by rfl) ?yu3 ?ru3
      case yu3 => (intro wS hSw; go_simp; try (with_reducible rfl))
      try simp only [Act.put, List.setIfInBounds_toArray, List.set_cons_zero, List.set_cons_succ]
      refine wpHeld_val (v := .int .u8 (c.toNat : Int)) (by rfl) ?yu4 ?ru4
      case yu4 => (intro wS hSw; go_simp; try (first | (rw [dif_pos (by omega), HCC.out]; rfl) | rw [HCC.out]))
      try simp only [Act.put, List.setIfInBounds_toArray, List.set_cons_zero, List.set_cons_succ]
      refine wpHeld_run (.int .i64 (hexIx c)) (by rfl) ?cu5 ?ru5
      case cu5 => (intro wS hSw K hK; go_simp; (go_at_call 48; (with_reducible refine (ixb_any c _).mono ?_); rintro e w5 ⟨rfl, rfl⟩); go_wp2_with fail; exact hK.out _ (hSw))
      try simp only [Act.put, List.setIfInBounds_toArray, List.set_cons_zero, List.set_cons_succ]
      refine wpHeld_val (v := ?vu6) (by rfl) ?yu6 ?ru6
      case yu6 => (intro wS hSw; go_simp; try (with_reducible rfl))
      try simp only [Act.put, List.setIfInBounds_toArray, List.set_cons_zero, List.set_cons_succ]
      refine wpHeld_val (v := ?vu7) (by rfl) ?yu7 ?ru7
      case yu7 => (intro wS hSw; go_simp; try (with_reducible rfl))
      try simp only [Act.put, List.setIfInBounds_toArray, List.set_cons_zero, List.set_cons_succ]
      refine wpHeld_nil ?_
      intro wS hSw
      have hSw2 := hSw.out
      clear hSw
      subst hSw2
      have hra := hexIx_range a
      have hrc := hexIx_range c
      go_upto_region 5 with (fail)
      generalize hia : hexIx a = ia at *
      generalize hic : hexIx c = ic at *
      have HIA := Lib.hid hia
      have HIC := Lib.hid hic
      have HRB := Lib.hid (un_byte ia ic (by omega) (by omega))
      clear hia hic
      have hsz0 := HB.out.size
      go_wp2_with (at_builtin; refine wpList_append_own _ rfl (.tmp 17) (.tmp 25) 39 rfl w.heap.size 5 i0 (.int .u8 0) 1 1 Tryz.underlying39 hi hz0 hz1 hz2 rfl (by decide) _ l.length (cb l) rfl ((HO.out.alloc _).drew) ⟨wr.heap.size, 0, none⟩ 1 1 [.int .u8 (bits BinOp.or IntKind.i64 (max ia 0 * 16) (max ic 0) % 256)] rfl rfl (cell_one_new _ _ _) (by intro u hu; simp at hu; subst hu; rfl) (by unfold maxLen; omega) (by omega) (by simp; omega) ?_; intro v1 w3 hown3 hgr3 _; have HO3 := Lib.hid hown3; have HB3 := Lib.hid (Below.grownOwn ((lowA HB.out (.cells #[.int .u8 (bits BinOp.or IntKind.i64 (max ia 0 * 16) (max ic 0) % 256)] 5)).drew) ((HO.out.alloc (.cells #[.int .u8 (bits BinOp.or IntKind.i64 (max ia 0 * 16) (max ic 0) % 256)] 5)).drew) hgr3 (Nat.le_refl _)); clear hown3 hgr3)
      have H2 := str_two hlt
      refine ⟨⟨s'.extract 2 s'.size, l ++ [UInt8.ofNat (unByte ia ic)], rfl, ?_, ?_, ?_, HB3.out⟩, ?_⟩
      · have h := HO3.out
        rw [HRB.out] at h
        rw [List.length_append, cb_append]
        have hb : unByte ia ic < 256 := by unfold unByte; omega
        have e : cb [UInt8.ofNat (unByte ia ic)] = [.int .u8 ((unByte ia ic : Nat) : Int)] := by unfold cb; simp; omega
        rw [e]
        exact h
      · rw [← HL.out, H2, ← HA.out, ← HCC.out, unhexL, HIA.out, HIC.out, List.append_assoc]
        rfl
      · rw [ByteArray.size_extract, List.length_append, List.length_singleton]
        omega
      · show (s'.extract 2 s'.size).size < s'.size
        rw [ByteArray.size_extract]
        omega
    · have cv := conv_own HO.out
      go_wp2
      go_ret
      exact ⟨ret_str (by rw [← HL.out, un_end (by omega), List.append_nil]), HB.out⟩

end Go.Proofs.YtodjeidofgbdlaaGreatDoor
