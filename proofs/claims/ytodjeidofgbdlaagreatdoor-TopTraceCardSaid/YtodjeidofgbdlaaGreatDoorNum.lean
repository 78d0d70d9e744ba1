/- The number of figures, and whether there is one. -/
import Derived.Test.YtodjeidofgbdlaaGreatDoorLin
namespace Go.Proofs.YtodjeidofgbdlaaGreatDoor
open Go.ChangeShapes Go.WideShapes Go.ChangeAt Go.RowKit
set_option linter.unusedVariables false
set_option linter.unusedSimpArgs false

/-- The number of figures, and whether there is one. -/
def numOf (s : ByteArray) : Int × Bool := match Lib.parseIntB 64 s.data.toList with
  | .ok v => (v, true)
  | .range => (Lib.intSat 64 s.data.toList, false)
  | _ => (0, false)
theorem numOf_dec {n : Nat} (h : n ≤ 1099511627776) {s : ByteArray} (hs : s.data.toList = Lib.decDigits n) : numOf s = ((n : Int), true) := by
  unfold numOf
  rw [hs, parseInt_dec h]
theorem pint_any (s : ByteArray) (hs : s.size ≤ 281474976710656) (w : World) (he : Env w) : Calls Tryz.prog 32 #[.string s, .int .i64 10, .int .i64 64] w fun e w' => ∃ ev, e = .returned (.tuple #[.int .i64 (numOf s).1, ev]) ∧ ((numOf s).2 = true → ev = .nilIface) ∧ ((numOf s).2 = false → ∃ t p, ev = .iface t (.pointer p)) ∧ Below w.heap.size w w' := by
  unfold numOf
  cases h : Lib.parseIntB 64 s.data.toList
  · refine (Tryz.strconv_ParseInt_10_at64_ok s (by omega) _ h w).mono ?_
    rintro e w' ⟨rfl, hw⟩
    refine ⟨_, rfl, fun _ => rfl, (fun h => by simp at h), ?_⟩
    rcases hw with rfl | ⟨t, rfl⟩
    · exact Below.refl _ _
    · exact Lib.bytesWorld_below _ _ _
  · obtain ⟨tp, p, hv⟩ := he.syn
    refine (Any.strconv_ParseInt_10_at64_syntax_var Tryz.laysC174 s hs h tp p w hv).mono ?_
    rintro e w' ⟨N, rfl, _, _, hb⟩
    exact ⟨_, rfl, (fun h => by simp at h), (fun _ => ⟨_, _, rfl⟩), hb⟩
  · obtain ⟨tp, p, hv⟩ := he.rng
    refine (Any.strconv_ParseInt_10_at64_range_var Tryz.laysC174 s hs h tp p w hv).mono ?_
    rintro e w' ⟨N, rfl, _, _, hb⟩
    exact ⟨_, rfl, (fun h => by simp at h), (fun _ => ⟨_, _, rfl⟩), hb⟩
set_option maxRecDepth 100000 in
theorem num_any (s : ByteArray) (hs : s.size ≤ 281474976710656) (b : Bool) (g : Nat) (w : World) (he : Env w) (hc : w.cell? ⟨g, 0, none⟩ = some (.bool b)) (hf : w.frozen? ⟨g, 0, none⟩ = false) :
    Calls Tryz.prog 31 #[.string s, .pointer (some ⟨g, 0, none⟩)] w fun e w' => e = .returned (.int .i64 (numOf s).1) ∧ ∃ w1, Below w.heap.size w w1 ∧ w' = w1.setCell ⟨g, 0, none⟩ (.bool (b && (numOf s).2)) := by
  have HP := Lib.hid (pint_any s hs w he)
  have HC := Lib.hid hc
  have HF := Lib.hid hf
  have HLT := Lib.hid (World.block_lt_of_cell? w _ hc)
  obtain ⟨⟨n, ok⟩, hno⟩ : ∃ r, numOf s = r := ⟨_, rfl⟩
  rw [hno] at HP ⊢
  clear hc hf hno
  cases b <;> cases ok
  all_goals
    go_enter Tryz.func31, Tryz.ntmps31
    go_wp2_with (go_at_call 32; (with_reducible refine HP.out.mono ?_); rintro e w1 ⟨ev, rfl, h1, h2, hb⟩; have HB := Lib.hid hb; have c1 := (hb.cell HLT.out).trans HC.out; have f1 := (hb.frozen (p := ⟨g, 0, none⟩) HLT.out).trans HF.out; clear hb; first | (obtain rfl := h1 rfl) | (obtain ⟨t, p, rfl⟩ := h2 rfl))
    go_ret
    exact ⟨rfl, w1, HB.out, rfl⟩

end Go.Proofs.YtodjeidofgbdlaaGreatDoor
