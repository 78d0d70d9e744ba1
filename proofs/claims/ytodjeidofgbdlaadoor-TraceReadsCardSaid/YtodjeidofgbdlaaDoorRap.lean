/- An address out of its text, by the reference. -/
import Derived.Test.YtodjeidofgbdlaaDoorApa
namespace Go.Proofs.YtodjeidofgbdlaaDoor
open Go.ChangeShapes Go.WideShapes Go.ChangeAt Go.RowKit
set_option linter.unusedVariables false
set_option linter.unusedSimpArgs false

set_option maxRecDepth 100000 in
set_option maxHeartbeats 1000000 in
theorem raparse_any (s : ByteArray) (w : World) : Calls Tryd.prog 33 #[.string s] w fun e w' => ∃ r : Int × Int, e = .returned (.tuple #[.int .u32 r.1, .int .i64 r.2]) ∧ AddrOf s r ∧ Below w.heap.size w w' := by
  by_cases hlen : 15 < s.size
  · have HL := Lib.hid (AddrOf.long hlen)
    go_enter Tryd.func33, Tryd.ntmps33
    go_wp2
    go_ret2
    exact ⟨(0, 2), rfl, HL.out, Below.refl _ _⟩
  · go_enter Tryd.func33, Tryd.ntmps33
    go_wp2
    go_loopw [4, 5, 6] (fun av pv i wr => ∃ k a p : Nat, k ≤ s.size ∧ i = .int .i64 k ∧ av = .int .i64 a ∧ pv = .int .i64 p ∧ a ≤ 4294967295 ∧ p ≤ 255 ∧ w = wr ∧ raddrF a p (s.data.toList.drop k) = raddrF 0 0 s.data.toList) (fun _ _ i _ => s.size - (intOf i).toNat)
    case atStart => exact ⟨0, 0, 0, by omega, rfl, rfl, rfl, by omega, by omega, rfl, by rw [List.drop_zero]⟩
    case round =>
      obtain ⟨k, a, p, hk, rfl, rfl, rfl, ha, hp, rfl, h1⟩ := hrel
      have H1 := Lib.hid h1
      clear h1
      by_cases hlt : k < s.size
      · obtain ⟨x, hx⟩ : ∃ x : Nat, x = (s[k]'hlt).toNat := ⟨_, rfl⟩
        have HG := Lib.hid (drop_get s k hlt)
        have hx2 : x < 256 := by rw [hx]; exact UInt8.toNat_lt _
        have hb : (s[k]'hlt).toNat = x := hx.symm
        clear hx
        by_cases h46 : x = 46
        · have q1 : ((x : Int) == 46) = true := by simp [h46]
          have e46 : s[k]'hlt = 46 := UInt8.toNat_inj.1 (by rw [hb, h46]; rfl)
          by_cases hn : a * 256 + p ≤ 4294967295
          · have HE := Lib.hid (show raddrF (a * 256 + p) 0 (s.data.toList.drop (k + 1)) = raddrF 0 0 s.data.toList from by rw [← H1.out, HG.out, e46, raddrF_dot _ hn])
            clear e46
            go_wp2
            all_goals
              first
                | exact ⟨⟨k + 1, a * 256 + p, 0, by omega, by go_num, congrArg (Value.int .i64) (by omega), rfl, hn, by omega, trivial, HE.out⟩, by simp [intOf]; omega⟩
                | (exfalso; omega)
          · have HE := Lib.hid (AddrOf.rnone (show raddrF 0 0 s.data.toList = none from by rw [← H1.out, HG.out, e46, raddrF, if_pos rfl, if_pos (by omega)]))
            clear e46
            go_wp2
            all_goals
              first
                | (go_ret2; first | exact ⟨(0, 2), rfl, HE.out, Below.refl _ _⟩ | exact ⟨0, 2, rfl, HE.out, Below.refl _ _⟩)
                | (exfalso; omega)
        · have q1 : ((x : Int) == 46) = false := by simp; omega
          have n46 : s[k]'hlt ≠ 46 := fun h => h46 (by rw [← hb, h]; rfl)
          have HN := Lib.hid n46
          clear n46
          by_cases hd : 48 ≤ x ∧ x ≤ 57
          · by_cases h255 : p * 10 + (x - 48) ≤ 255
            · have HE := Lib.hid (show raddrF a (p * 10 + (x - 48)) (s.data.toList.drop (k + 1)) = raddrF 0 0 s.data.toList from by rw [← H1.out, HG.out, raddrF, if_neg HN.out, hb, if_pos hd, if_neg (by omega)])
              obtain ⟨d1, d2⟩ := hd
              go_wp2
              all_goals
                first
                  | exact ⟨⟨k + 1, a, p * 10 + (x - 48), by omega, by go_num, rfl, congrArg (Value.int .i64) (by omega), ha, h255, trivial, HE.out⟩, by simp [intOf]; omega⟩
                  | (exfalso; omega)
            · have HE := Lib.hid (AddrOf.rnone (show raddrF 0 0 s.data.toList = none from by rw [← H1.out, HG.out, raddrF, if_neg HN.out, hb, if_pos hd, if_pos (by omega)]))
              obtain ⟨d1, d2⟩ := hd
              go_wp2
              all_goals
              first
                | (go_ret2; first | exact ⟨(0, 2), rfl, HE.out, Below.refl _ _⟩ | exact ⟨0, 2, rfl, HE.out, Below.refl _ _⟩)
                | (exfalso; omega)
          · have HE := Lib.hid (AddrOf.rnone (show raddrF 0 0 s.data.toList = none from by rw [← H1.out, HG.out, raddrF, if_neg HN.out, hb, if_neg hd]))
            go_wp2
            all_goals
              first
                | (go_ret2; first | exact ⟨(0, 2), rfl, HE.out, Below.refl _ _⟩ | exact ⟨0, 2, rfl, HE.out, Below.refl _ _⟩)
                | (exfalso; omega)
      · obtain rfl : k = s.size := by omega
        by_cases hn : a * 256 + p ≤ 4294967295
        · obtain ⟨m, hmm⟩ : ∃ m, m = a * 256 + p := ⟨_, rfl⟩
          have hm : m < 4294967296 := by omega
          have HE := Lib.hid (AddrOf.rsome (a := m) (show raddrF 0 0 s.data.toList = some m from by rw [← H1.out, drop_end, raddrF, if_neg (by omega), hmm]) hm)
          have hmi : (a : Int) * 256 + p = m := by omega
          clear hmm
          by_cases hts : s.data.toList = addrL m
          · have kc : ((bl (addrL m)).toList != s.toList) = false := str_eqb' (by rw [← hts]; exact bl_of s)
            have kd : ((bl (addrL m)).toList == s.toList) = true := str_eqb (by rw [← hts]; exact bl_of s)
            have HA := Lib.hid (HE.out.1 hts)
            clear hts
            go_wp2_with (go_at_call 26; (with_reducible refine (rtext_any m hm _).mono ?_); rintro e w5 ⟨rfl, hx⟩; have H5 := Lib.hid hx; clear hx)
            all_goals
              first
                | (go_ret2; first | exact ⟨((m : Int), 0), rfl, HA.out, H5.out⟩ | exact ⟨(m : Int), 0, rfl, HA.out, H5.out⟩)
                | (exfalso; omega)
          · have kc : ((bl (addrL m)).toList != s.toList) = true := str_ne' (fun h => hts (by rw [← h, bl_data]))
            have kd : ((bl (addrL m)).toList == s.toList) = false := str_ne (fun h => hts (by rw [← h, bl_data]))
            have HA := Lib.hid (HE.out.2 hts)
            clear hts
            go_wp2_with (go_at_call 26; (with_reducible refine (rtext_any m hm _).mono ?_); rintro e w5 ⟨rfl, hx⟩; have H5 := Lib.hid hx; clear hx)
            all_goals
              first
                | (go_ret2; first | exact ⟨(0, 2), rfl, HA.out, H5.out⟩ | exact ⟨0, 2, rfl, HA.out, H5.out⟩)
                | (exfalso; omega)
        · have HE := Lib.hid (AddrOf.rnone (show raddrF 0 0 s.data.toList = none from by rw [← H1.out, drop_end, raddrF, if_pos (by omega)]))
          go_wp2
          all_goals
              first
                | (go_ret2; first | exact ⟨(0, 2), rfl, HE.out, Below.refl _ _⟩ | exact ⟨0, 2, rfl, HE.out, Below.refl _ _⟩)
                | (exfalso; omega)

end Go.Proofs.YtodjeidofgbdlaaDoor
