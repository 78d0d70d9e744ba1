/- An address out of its text. -/
import Derived.Test.YtodjeidofgbdlaaGreatDoorLin
import Derived.Test.YtodjeidofgbdlaaGreatDoorAdp
namespace Go.Proofs.YtodjeidofgbdlaaGreatDoor
open Go.ChangeShapes Go.WideShapes Go.ChangeAt Go.RowKit
set_option linter.unusedVariables false
set_option linter.unusedSimpArgs false

theorem str_eqb {a c : ByteArray} (h : a = c) : (a.toList == c.toList) = true := by rw [h]; exact beq_self_eq_true _
theorem str_ne {a c : ByteArray} (h : a ≠ c) : (a.toList == c.toList) = false := by
  rw [beq_eq_false_iff_ne]
  intro e
  rw [Lib.toList_data, Lib.toList_data] at e
  exact h (by rw [← Lib.mk_data a, e, Lib.mk_data])
theorem str_ne' {a c : ByteArray} (h : a ≠ c) : (a.toList != c.toList) = true := by
  unfold bne
  rw [str_ne h]
  rfl
theorem str_eqb' {a c : ByteArray} (h : a = c) : (a.toList != c.toList) = false := by
  unfold bne
  rw [str_eqb h]
  rfl
theorem shlor (a p : Nat) (ha : a < 4294967296) (hp : p < 4294967296) : bits BinOp.or IntKind.u32 ((a : Int) * 256 % 4294967296) (bits BinOp.and IntKind.i64 (p : Int) 255 % 4294967296) = (((a * 256 + p % 256) % 4294967296 : Nat) : Int) := by
  rw [and255 (p : Int) (by omega) (by omega)]
  have e1 : ((a : Int) * 256 % 4294967296) = ((2 ^ 8 * (a % 16777216) : Nat) : Int) := by omega
  have e2 : ((p : Int) % 256 % 4294967296) = ((p % 256 : Nat) : Int) := by omega
  rw [e1, e2, (bits_nat .u32 32 (by decide) (fun n h0 h1 => by rw [show (2 : Int) ^ 32 = 4294967296 by decide] at h1; rw [IntKind.wrap_u32]; omega) (2 ^ 8 * (a % 16777216)) (p % 256) (by omega) (by omega)).2, ← Nat.two_pow_add_eq_or_of_lt (show p % 256 < 2 ^ 8 by omega)]
  omega

theorem drop_get (s : ByteArray) (k : Nat) (h : k < s.size) : s.data.toList.drop k = s[k] :: s.data.toList.drop (k + 1) := by
  have hl : k < s.data.toList.length := by rw [Array.length_toList]; exact h
  rw [List.drop_eq_getElem_cons hl]
  rfl
theorem drop_end (s : ByteArray) : s.data.toList.drop s.size = [] := by
  apply List.drop_eq_nil_of_le
  rw [Array.length_toList]
  exact Nat.le_refl _
set_option maxRecDepth 100000 in
set_option maxHeartbeats 1000000 in
theorem aparse_any (s : ByteArray) (w : World) : Calls Tryz.prog 33 #[.string s] w fun e w' => ∃ r : Int × Int, e = .returned (.tuple #[.int .u32 r.1, .int .i64 r.2]) ∧ AddrOf s r ∧ Below w.heap.size w w' := by
  by_cases hlen : 15 < s.size
  · have HL := Lib.hid (AddrOf.long hlen)
    go_enter Tryz.func33, Tryz.ntmps33
    go_wp2
    go_ret2
    exact ⟨(0, 2), rfl, HL.out, Below.refl _ _⟩
  · go_enter Tryz.func33, Tryz.ntmps33
    go_wp2
    go_loopw [4, 5, 13] (fun av pv i wr => ∃ k a p : Nat, k ≤ s.size + 1 ∧ i = .int .i64 k ∧ av = .int .u32 a ∧ pv = .int .i64 p ∧ a < 4294967296 ∧ p ≤ 2559 ∧ w = wr ∧ (k ≤ s.size → addrF a p (s.data.toList.drop k) = addrF 0 0 s.data.toList) ∧ (k = s.size + 1 → addrF 0 0 s.data.toList = some a)) (fun _ _ i _ => s.size + 1 - (intOf i).toNat)
    case atStart => exact ⟨0, 0, 0, by omega, rfl, rfl, rfl, by omega, by omega, rfl, fun _ => by rw [List.drop_zero], by omega⟩
    case round =>
      obtain ⟨k, a, p, hk, rfl, rfl, rfl, ha, hp, rfl, h1, h2⟩ := hrel
      have H1 := Lib.hid h1
      have H2 := Lib.hid h2
      clear h1 h2
      by_cases hlt : k < s.size
      · obtain ⟨x, hx⟩ : ∃ x : Nat, x = (s[k]'hlt).toNat := ⟨_, rfl⟩
        have HX := Lib.hid hx
        have HG := Lib.hid (drop_get s k hlt)
        have hx2 : x < 256 := by rw [hx]; exact UInt8.toNat_lt _
        have hb : (s[k]'hlt).toNat = x := hx.symm
        clear hx
        by_cases h46 : x = 46
        · have q1 : ((x : Int) != 46) = false := by simp [h46]
          have e46 : s[k]'hlt = 46 := UInt8.toNat_inj.1 (by rw [hb, h46]; rfl)
          have HE := Lib.hid (show addrF ((a * 256 + p % 256) % 4294967296) 0 (s.data.toList.drop (k + 1)) = addrF 0 0 s.data.toList from by rw [← H1.out (by omega), HG.out, e46, addrF_dot])
          clear e46
          go_wp2
          exact ⟨⟨k + 1, (a * 256 + p % 256) % 4294967296, 0, by omega, by go_num, congrArg (Value.int .u32) (shlor a p ha (by omega)), rfl, by omega, by omega, trivial, fun _ => HE.out, by omega⟩, by simp [intOf]; omega⟩
        · have q1 : ((x : Int) != 46) = true := by simp; omega
          have n46 : s[k]'hlt ≠ 46 := fun h => h46 (by rw [← hb, h]; rfl)
          have HN := Lib.hid n46
          clear n46
          by_cases hd : (48 ≤ x ∧ x ≤ 57) ∧ p ≤ 255
          · have HE := Lib.hid (show addrF a (p * 10 + (x - 48)) (s.data.toList.drop (k + 1)) = addrF 0 0 s.data.toList from by rw [← H1.out (by omega), HG.out, addrF, if_neg HN.out, hb, if_pos hd])
            obtain ⟨⟨d1, d2⟩, d3⟩ := hd
            have q2 : decide ((x : Int) < 48) = false := decide_eq_false (by omega)
            have q3 : decide ((57 : Int) < x) = false := decide_eq_false (by omega)
            have q4 : decide ((255 : Int) < p) = false := decide_eq_false (by omega)
            go_wp2
            exact ⟨⟨k + 1, a, p * 10 + (x - 48), by omega, by go_num, rfl, congrArg (Value.int .i64) (by omega), ha, by omega, trivial, fun _ => HE.out, by omega⟩, by simp [intOf]; omega⟩
          · have HE := Lib.hid (AddrOf.none (show addrF 0 0 s.data.toList = none from by rw [← H1.out (by omega), HG.out, addrF, if_neg HN.out, hb, if_neg hd]))
            go_wp2
            all_goals
              first
                | (go_ret2; first | exact ⟨(0, 2), rfl, HE.out, Below.refl _ _⟩ | exact ⟨0, 2, rfl, HE.out, Below.refl _ _⟩)
                | (exfalso; omega)
      · by_cases hend : k = s.size
        · subst hend
          have HE := Lib.hid (show addrF 0 0 s.data.toList = some ((a * 256 + p % 256) % 4294967296) from by rw [← H1.out (by omega), drop_end, addrF])
          go_wp2
          exact ⟨⟨s.size + 1, (a * 256 + p % 256) % 4294967296, 0, by omega, by go_num, congrArg (Value.int .u32) (shlor a p ha (by omega)), rfl, by omega, by omega, trivial, fun h => by omega, fun _ => HE.out⟩, by simp [intOf]⟩
        · obtain rfl : k = s.size + 1 := by omega
          have HE := Lib.hid (AddrOf.some (H2.out rfl) ha)
          by_cases hts : s.data.toList = addrL a
          · have kc : ((bl (addrL a)).toList != s.toList) = false := str_eqb' (by rw [← hts]; exact bl_of s)
            have kd : ((bl (addrL a)).toList == s.toList) = true := str_eqb (by rw [← hts]; exact bl_of s)
            have HA := Lib.hid (HE.out.1 hts)
            clear hts
            go_wp2_with (go_at_call 24; (with_reducible refine (text_any a ha _).mono ?_); rintro e w5 ⟨rfl, hx⟩; have H5 := Lib.hid hx; clear hx)
            go_ret2
            first | exact ⟨((a : Int), 0), rfl, HA.out, H5.out⟩ | exact ⟨(a : Int), 0, rfl, HA.out, H5.out⟩
          · have kc : ((bl (addrL a)).toList != s.toList) = true := str_ne' (fun h => hts (by rw [← h, bl_data]))
            have kd : ((bl (addrL a)).toList == s.toList) = false := str_ne (fun h => hts (by rw [← h, bl_data]))
            have HA := Lib.hid (HE.out.2 hts)
            clear hts
            go_wp2_with (go_at_call 24; (with_reducible refine (text_any a ha _).mono ?_); rintro e w5 ⟨rfl, hx⟩; have H5 := Lib.hid hx; clear hx)
            go_ret2
            first | exact ⟨(0, 2), rfl, HA.out, H5.out⟩ | exact ⟨0, 2, rfl, HA.out, H5.out⟩

end Go.Proofs.YtodjeidofgbdlaaGreatDoor
