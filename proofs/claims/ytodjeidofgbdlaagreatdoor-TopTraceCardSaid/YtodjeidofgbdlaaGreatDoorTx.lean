/- Addresses as text. -/
import Derived.Test.YtodjeidofgbdlaaGreatDoorNm
namespace Go.Proofs.YtodjeidofgbdlaaGreatDoor
open Go.ChangeShapes Go.WideShapes Go.ChangeAt Go.RowKit
set_option linter.unusedVariables false
set_option linter.unusedSimpArgs false

/-- An address's text so far. -/
def atx (a : Nat) : Nat → ByteArray
  | 0 => { data := #[] }
  | 1 => decB (a / 16777216)
  | 2 => decB (a / 16777216) ++ { data := #[46] } ++ decB (a / 65536 % 256)
  | 3 => decB (a / 16777216) ++ { data := #[46] } ++ decB (a / 65536 % 256) ++ { data := #[46] } ++ decB (a / 256 % 256)
  | _ => decB (a / 16777216) ++ { data := #[46] } ++ decB (a / 65536 % 256) ++ { data := #[46] } ++ decB (a / 256 % 256) ++ { data := #[46] } ++ decB (a % 256)
theorem atx_0 (a : Nat) : atx a 1 = atx a 0 ++ decB (a / 16777216) := by
  apply ba_eq
  unfold atx
  rw [app_data]
  simp
theorem atx_1 (a : Nat) : atx a 2 = atx a 1 ++ { data := #[46] } ++ decB (a / 65536 % 256) := rfl
theorem atx_2 (a : Nat) : atx a 3 = atx a 2 ++ { data := #[46] } ++ decB (a / 256 % 256) := rfl
theorem atx_3 (a : Nat) : atx a 4 = atx a 3 ++ { data := #[46] } ++ decB (a % 256) := rfl
theorem dot_size : ({ data := #[46] } : ByteArray).size = 1 := rfl
theorem atx_size (a k : Nat) (h : a < 4294967296) : (atx a k).size ≤ 60 := by
  have h1 := decB_size (u := a / 16777216) (by omega)
  have h2 := decB_size (u := a / 65536 % 256) (by omega)
  have h3 := decB_size (u := a / 256 % 256) (by omega)
  have h4 := decB_size (u := a % 256) (by omega)
  have h5 := dot_size
  unfold atx
  split
  · exact Nat.zero_le _
  all_goals
    (try simp only [ByteArray.size_append])
    omega
theorem atx_size1 (a k : Nat) (h : a < 4294967296) : (atx a k ++ { data := #[46] }).size ≤ 61 := by
  have := atx_size a k h
  have := dot_size
  rw [ByteArray.size_append]
  omega
theorem and255 (x : Int) (h0 : 0 ≤ x) (h1 : x < 4294967296) : bits BinOp.and IntKind.i64 x 255 = x % 256 := by
  have h := bits_mask .i64 63 (by decide) (fun n h0 h1 => by rw [show (2 : Int) ^ 63 = 9223372036854775808 by decide] at h1; rw [IntKind.wrap_i64]; omega) 8 (by decide) x h0 (by rw [show (2 : Int) ^ 63 = 9223372036854775808 by decide]; omega)
  have e : ((2 : Int) ^ 8 - 1) = 255 := by decide
  have e2 : ((2 : Int) ^ 8) = 256 := by decide
  rw [e, e2] at h
  exact h
theorem atx_all (a : Nat) : atx a 4 = bl (addrL a) := by
  apply ba_eq
  unfold atx addrL decB
  simp only [app_data, bl_data]
  simp

set_option maxRecDepth 100000 in
set_option maxHeartbeats 1000000 in
theorem text_any (a : Nat) (h : a < 4294967296) (w : World) : Calls Tryz.prog 24 #[.int .u32 a] w fun e w' => e = .returned (.string (bl (addrL a))) ∧ Below w.heap.size w w' := by
  go_enter Tryz.func24, Tryz.ntmps24
  go_wp2
  go_loopw [3, 5] (fun s i wr => ∃ k : Nat, k ≤ 4 ∧ i = .int .i64 k ∧ s = .string (atx a k) ∧ Below w.heap.size w wr) (fun _ i _ => 4 - (intOf i).toNat)
  case atStart => exact ⟨0, by omega, rfl, rfl, Below.refl _ _⟩
  case round =>
    obtain ⟨k, hk, rfl, rfl, hb⟩ := hrel
    have HB := Lib.hid hb
    clear hb
    rcases (show k = 0 ∨ k = 1 ∨ k = 2 ∨ k = 3 ∨ k = 4 by omega) with rfl | rfl | rfl | rfl | rfl
    · have D : ∀ w, Calls Tryz.prog 41 #[.int .i64 (bits BinOp.and IntKind.i64 ((a : Int) / 16777216) 255)] w fun e w' => e = .returned (.string (decB (a / 16777216))) ∧ Below w.heap.size w w' := fun w => by
        have e := and255 ((a : Int) / 16777216) (by omega) (by omega)
        rw [e, show ((a : Int) / 16777216) % 256 = ((a / 16777216 : Nat) : Int) by omega]
        exact digits_any _ (by omega) w
      have HD := Lib.hid D
      clear D
      have s1 : (decB (a / 16777216)).size ≤ 13 := decB_size (by omega)
      have s2 := atx_size a 0 h
      go_wp2_with (go_at_call 41; (with_reducible refine (HD.out _).mono ?_); rintro e w2 ⟨rfl, hx⟩; have H2 := Lib.hid (low HB.out hx); clear hx)
      exact ⟨⟨1, by omega, by go_num, congrArg Value.string (atx_0 a).symm, H2.out⟩, by simp [intOf]⟩
    · have D : ∀ w, Calls Tryz.prog 41 #[.int .i64 (bits BinOp.and IntKind.i64 ((a : Int) / 65536) 255)] w fun e w' => e = .returned (.string (decB (a / 65536 % 256))) ∧ Below w.heap.size w w' := fun w => by
        have e := and255 ((a : Int) / 65536) (by omega) (by omega)
        rw [e, show ((a : Int) / 65536) % 256 = ((a / 65536 % 256 : Nat) : Int) by omega]
        exact digits_any _ (by omega) w
      have HD := Lib.hid D
      clear D
      have s1 : (decB (a / 65536 % 256)).size ≤ 13 := decB_size (by omega)
      have s2 := atx_size a 1 h
      have s3 := atx_size1 a 1 h
      have s4 := dot_size
      go_wp2_with (go_at_call 41; (with_reducible refine (HD.out _).mono ?_); rintro e w2 ⟨rfl, hx⟩; have H2 := Lib.hid (low HB.out hx); clear hx)
      exact ⟨⟨2, by omega, by go_num, congrArg Value.string (atx_1 a).symm, H2.out⟩, by simp [intOf]⟩
    · have D : ∀ w, Calls Tryz.prog 41 #[.int .i64 (bits BinOp.and IntKind.i64 ((a : Int) / 256) 255)] w fun e w' => e = .returned (.string (decB (a / 256 % 256))) ∧ Below w.heap.size w w' := fun w => by
        have e := and255 ((a : Int) / 256) (by omega) (by omega)
        rw [e, show ((a : Int) / 256) % 256 = ((a / 256 % 256 : Nat) : Int) by omega]
        exact digits_any _ (by omega) w
      have HD := Lib.hid D
      clear D
      have s1 : (decB (a / 256 % 256)).size ≤ 13 := decB_size (by omega)
      have s2 := atx_size a 2 h
      have s3 := atx_size1 a 2 h
      have s4 := dot_size
      go_wp2_with (go_at_call 41; (with_reducible refine (HD.out _).mono ?_); rintro e w2 ⟨rfl, hx⟩; have H2 := Lib.hid (low HB.out hx); clear hx)
      exact ⟨⟨3, by omega, by go_num, congrArg Value.string (atx_2 a).symm, H2.out⟩, by simp [intOf]⟩
    · have D : ∀ w, Calls Tryz.prog 41 #[.int .i64 (bits BinOp.and IntKind.i64 ((a : Int)) 255)] w fun e w' => e = .returned (.string (decB (a % 256))) ∧ Below w.heap.size w w' := fun w => by
        have e := and255 ((a : Int)) (by omega) (by omega)
        rw [e, show ((a : Int)) % 256 = ((a % 256 : Nat) : Int) by omega]
        exact digits_any _ (by omega) w
      have HD := Lib.hid D
      clear D
      have s1 : (decB (a % 256)).size ≤ 13 := decB_size (by omega)
      have s2 := atx_size a 3 h
      have s3 := atx_size1 a 3 h
      have s4 := dot_size
      go_wp2_with (go_at_call 41; (with_reducible refine (HD.out _).mono ?_); rintro e w2 ⟨rfl, hx⟩; have H2 := Lib.hid (low HB.out hx); clear hx)
      exact ⟨⟨4, by omega, by go_num, congrArg Value.string (atx_3 a).symm, H2.out⟩, by simp [intOf]⟩
    · go_wp2
      go_ret
      exact ⟨ret_str (atx_all a), HB.out⟩

end Go.Proofs.YtodjeidofgbdlaaGreatDoor
