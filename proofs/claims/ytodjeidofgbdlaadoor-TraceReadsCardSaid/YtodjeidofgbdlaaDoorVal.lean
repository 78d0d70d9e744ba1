/- The value of figures, by the reference. -/
import Derived.Test.YtodjeidofgbdlaaDoorRap
namespace Go.Proofs.YtodjeidofgbdlaaDoor
open Go.ChangeShapes Go.WideShapes Go.ChangeAt Go.RowKit
set_option linter.unusedVariables false
set_option linter.unusedSimpArgs false

/-- The value of at most so many figures; 0 where something else stands. -/
def vF : Nat → Nat → List UInt8 → Nat
  | 0, acc, _ => acc
  | _ + 1, acc, [] => acc
  | f + 1, acc, b :: l => if 48 ≤ b.toNat ∧ b.toNat ≤ 57 then vF f (acc * 10 + (b.toNat - 48)) l else 0
theorem vF_digs : ∀ (f : Nat) (ds : List UInt8) (acc : Nat), (∀ b ∈ ds, isDig b) → ds.length ≤ f → vF f acc ds = dval acc ds
  | 0, [], acc, _, _ => rfl
  | 0, _ :: _, _, _, h => by simp at h
  | f + 1, [], acc, _, _ => rfl
  | f + 1, b :: ds, acc, hd, hl => by
    have hb := hd b (.head _)
    unfold isDig at hb
    rw [vF, if_pos hb, vF_digs f ds _ (fun x hx => hd x (.tail _ hx)) (by simp only [List.length_cons] at hl; omega)]
    rfl
theorem vF_dec {n : Nat} (h : n ≤ 1099511627776) : vF 14 0 (Lib.decDigits n) = n := by
  rw [vF_digs 14 _ 0 (dec_dig n) (by have := dec_len13 h; omega), dval_dec]
theorem vF_nil (f acc : Nat) : vF f acc [] = acc := by cases f <;> rfl
set_option maxRecDepth 100000 in
set_option maxHeartbeats 1000000 in
theorem value_any (s : ByteArray) (w : World) (hs : s.size ≤ 1000) : Calls Tryd.prog 34 #[.string s] w fun e w' => e = .returned (.int .i64 (vF 14 0 s.data.toList : Nat)) ∧ w = w' := by
  go_enter Tryd.func34, Tryd.ntmps34
  go_wp2
  go_loopw [3, 4] (fun av i wr => ∃ k a : Nat, k ≤ s.size ∧ k ≤ 14 ∧ i = .int .i64 k ∧ av = .int .i64 a ∧ a < 10 ^ k ∧ w = wr ∧ vF (14 - k) a (s.data.toList.drop k) = vF 14 0 s.data.toList) (fun _ i _ => s.size - (intOf i).toNat)
  case atStart => exact ⟨0, 0, by omega, by omega, rfl, rfl, by decide, rfl, by rw [List.drop_zero]⟩
  case round =>
    obtain ⟨k, a, hk, hk14, rfl, rfl, ha, rfl, h1⟩ := hrel
    have H1 := Lib.hid h1
    have HA := Lib.hid ha
    have ha2 : a < 100000000000000 := Nat.lt_of_lt_of_le ha (Nat.pow_le_pow_right (by decide) hk14)
    clear h1 ha
    by_cases hlt : k < s.size
    · by_cases h14 : k < 14
      · obtain ⟨x, hx⟩ : ∃ x : Nat, x = (s[k]'hlt).toNat := ⟨_, rfl⟩
        have HG := Lib.hid (drop_get s k hlt)
        have hx2 : x < 256 := by rw [hx]; exact UInt8.toNat_lt _
        have hb : (s[k]'hlt).toNat = x := hx.symm
        clear hx
        obtain ⟨f, hf⟩ : ∃ f, 14 - k = f + 1 := ⟨13 - k, by omega⟩
        by_cases hd : 48 ≤ x ∧ x ≤ 57
        · have HE := Lib.hid (show vF (14 - (k + 1)) (a * 10 + (x - 48)) (s.data.toList.drop (k + 1)) = vF 14 0 s.data.toList from by rw [← H1.out, HG.out, hf, vF, hb, if_pos hd, show 14 - (k + 1) = f by omega])
          have HP := Lib.hid (show a * 10 + (x - 48) < 10 ^ (k + 1) from by have := HA.out; rw [Nat.pow_succ]; omega)
          obtain ⟨d1, d2⟩ := hd
          clear hf
          go_wp2
          all_goals
            first
              | exact ⟨⟨k + 1, a * 10 + (x - 48), by omega, by omega, by go_num, congrArg (Value.int .i64) (by omega), HP.out, trivial, HE.out⟩, by simp [intOf]; omega⟩
              | (exfalso; omega)
        · have HE := Lib.hid (show vF 14 0 s.data.toList = 0 from by rw [← H1.out, HG.out, hf, vF, hb, if_neg hd])
          clear hf
          go_wp2
          all_goals
            first
              | (go_ret; exact ⟨ret_int (by rw [HE.out]; rfl), rfl⟩)
              | (exfalso; omega)
      · obtain rfl : k = 14 := by omega
        have HE := Lib.hid (show vF 14 0 s.data.toList = a from by rw [← H1.out]; rfl)
        go_wp2
        all_goals
          first
            | (go_ret; exact ⟨ret_int (by rw [HE.out]), rfl⟩)
            | (exfalso; omega)
    · obtain rfl : k = s.size := by omega
      have HE := Lib.hid (show vF 14 0 s.data.toList = a from by rw [← H1.out, drop_end, vF_nil])
      go_wp2
      all_goals
        first
          | (go_ret; exact ⟨ret_int (by rw [HE.out]), rfl⟩)
          | (exfalso; omega)

end Go.Proofs.YtodjeidofgbdlaaDoor
