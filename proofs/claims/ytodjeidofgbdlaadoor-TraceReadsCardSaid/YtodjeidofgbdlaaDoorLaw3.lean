/- Any promises as a text, and those of any text. -/
import Derived.Test.YtodjeidofgbdlaaDoorRed
import Derived.Test.YtodjeidofgbdlaaDoorRtx
import Derived.Test.YtodjeidofgbdlaaDoorOpen
import Derived.OpenShut
namespace Go.Proofs.YtodjeidofgbdlaaDoor
open Go.ChangeShapes Go.WideShapes Go.ChangeAt Go.RowKit
set_option linter.unusedVariables false
set_option linter.unusedSimpArgs false

theorem prs_of {W : World} {a : Option Addr} {n c : Nat} {xs : List (List Value)} (h : SliceIn W [.int .i64, .int .u32, .str, .int .i64, .int .i64] a n c xs) : ∃ ps, PrsIn W a n c ps := by
  obtain ⟨h1, h2, h3, h4, _, h6⟩ := h
  have hall : ∃ ps : List Pr, xs = ps.map Pr.cells ∧ ∀ p ∈ ps, p.fit := by
    clear h1 h6
    induction xs with
    | nil => exact ⟨[], rfl, fun _ h => by cases h⟩
    | cons cs xs ih =>
      obtain ⟨ps, rfl, hf⟩ := ih (fun y hy => h2 y (.tail _ hy))
      have f := h2 cs (.head _)
      obtain ⟨_, _, rfl, ⟨b0, rfl, w0⟩, _, _, rfl, ⟨b1, rfl, w1⟩, _, _, rfl, ⟨b2, rfl, w2⟩, _, _, rfl, ⟨b3, rfl, w3⟩, _, _, rfl, ⟨b4, rfl, w4⟩, f⟩ := f
      subst f
      refine ⟨⟨b0, b1, b2, b3, b4⟩ :: ps, rfl, fun p hp => ?_⟩
      rcases List.mem_cons.1 hp with rfl | hp
      · exact bounds_u32 w1
      · exact hf p hp
  obtain ⟨ps, rfl, hf⟩ := hall
  rw [List.length_map] at h1
  refine ⟨ps, h1, hf, h3, h4, fun h0 => ?_⟩
  obtain ⟨b, o, rfl, hb, hc⟩ := h6 h0
  refine ⟨b, o, rfl, hb, fun j p hp i v hv => ?_⟩
  have hj := (List.getElem?_eq_some_iff.1 hp).1
  have hi : i < 5 := (List.getElem?_eq_some_iff.1 hv).1
  have h := hc j i (by omega) hi
  have e : ((ps.map Pr.cells).getD j []).getD i undef = v := by
    rw [List.getD_eq_getElem?_getD, List.getD_eq_getElem?_getD, List.getElem?_map, hp]
    simp only [Option.map_some, Option.getD_some]
    rw [hv]
    rfl
  rw [e] at h
  exact h

theorem few_yes (a : Option Addr) (n c : Nat) (ps : List Pr) (w : World) (hin : PrsIn w a n c ps) (hz : n ≤ 140737488351232) (hf : fewP ps) : Calls Tryd.prog 14 #[.slice a n c] w fun e w' => e = .returned (.bool true) ∧ w = w' := by
  refine (few_any a n c ps w hin hz).mono ?_
  rintro e w' ⟨r, rfl, hr, hw⟩
  rw [hr.2 hf]
  exact ⟨rfl, hw⟩
theorem few_no (a : Option Addr) (n c : Nat) (ps : List Pr) (w : World) (hin : PrsIn w a n c ps) (hz : n ≤ 140737488351232) (hf : ¬ fewP ps) : Calls Tryd.prog 14 #[.slice a n c] w fun e w' => e = .returned (.bool false) ∧ w = w' := by
  refine (few_any a n c ps w hin hz).mono ?_
  rintro e w' ⟨r, rfl, hr, hw⟩
  cases r with
  | false => exact ⟨rfl, hw⟩
  | true => exact absurd (hr.1 rfl) hf

set_option maxRecDepth 100000 in
set_option maxHeartbeats 2000000 in
theorem walk_TraceTexts (a0 : Option Addr) (n0 : Nat) (c0 : Nat) (x0 : List (List Value)) (a1 : ByteArray) (W : World) (sl0 : SliceIn W [.int .i64, .int .u32, .str, .int .i64, .int .i64] a0 n0 c0 x0) (z0 : n0 * 48 ≤ 140737488351232) (w1 : a1.size ≤ maxLen) (z1 : a1.size ≤ 140737488351232) (hR : Env W) :
    Calls Tryd.prog 5 #[.slice a0 n0 c0, .string a1] W fun e w' => e = .returned (.bool true) ∧ Below W.heap.size W w' := by
  obtain ⟨ps, hin⟩ := prs_of sl0
  have HIN := Lib.hid hin
  have HE := Lib.hid hR
  have hz0 : n0 ≤ 140737488351232 := by omega
  clear sl0 z0 hR w1
  by_cases hf : fewP ps
  · have HF := Lib.hid (fun (w : World) (h : PrsIn w a0 n0 c0 ps) => few_yes a0 n0 c0 ps w h hz0 hf)
    by_cases hs : a1.size ≤ 3000
    · have g2 : decide ((3000 : Int) < a1.size) = false := decide_eq_false (by omega)
      have hn : n0 ≤ 100 := by have h1 := hf.2; have h2 := hin.1; omega
      have HT := Lib.hid (fun (w : World) (he : Env w) (h : PrsIn w a0 n0 c0 ps) => ttext_any a0 n0 c0 ps w he h hn)
      have HRT := Lib.hid (fun (w : World) (h : PrsIn w a0 n0 c0 ps) => rtext2_any a0 n0 c0 ps w h hn)
      have HRD := Lib.hid (fun (w : World) (he : Env w) => tread_any a1 (by omega) w he)
      have HRR := Lib.hid (fun (w : World) => rread_any a1 (by omega) w)
      have hrf := readR_fit a1
      have hrz : (readR a1).1.length ≤ 140737488351232 := by have := readR_len a1; omega
      obtain ⟨⟨rl, rn, re⟩, hrr⟩ : ∃ r, readR a1 = r := ⟨_, rfl⟩
      obtain ⟨⟨tl, te⟩, htt⟩ : ∃ r, textR ps = r := ⟨_, rfl⟩
      rw [hrr] at HRD HRR hrf hrz
      rw [htt] at HT HRT
      simp only at HRD HRR HT HRT hrf hrz
      have HRF := Lib.hid hrf
      have HRZ := Lib.hid hrz
      clear hrf hrz hrr htt hn hf hin
      go_enter Tryd.func5, Tryd.ntmps5
      go_wp2_with (first | (go_at_call 7; (with_reducible refine (awake_any _ HE.out).mono ?_); rintro e w1 ⟨rfl, hx⟩; have H1 := Lib.hid hx; clear hx) | (go_at_call 14; (with_reducible refine (HF.out _ (HIN.out.keep H1.out)).mono ?_); rintro e wf ⟨rfl, rfl⟩) | (go_at_call 15; (with_reducible refine (HT.out _ (HE.out.keep H1.out) (HIN.out.keep H1.out)).mono ?_); rintro e w2 ⟨rfl, hx⟩; have H2 := Lib.hid (low H1.out hx); clear hx) | (go_at_call 16; (with_reducible refine (HRT.out _ (HIN.out.keep H2.out)).mono ?_); rintro e w3 ⟨rfl, hx⟩; have H3 := Lib.hid (low H2.out hx); clear hx) | (go_at_call 17; (with_reducible refine (HRD.out _ (HE.out.keep H3.out)).mono ?_); rintro e w4 ⟨v4, rfl, ho, hx⟩; obtain ⟨a4, c4, rfl, hp4⟩ := own_prs ho HRF.out; have HP4 := Lib.hid hp4; have H4 := Lib.hid (low H3.out hx); clear hx ho hp4) | (go_at_call 18; (with_reducible refine (HRR.out _).mono ?_); rintro e w5 ⟨v5, rfl, ho, hx⟩; obtain ⟨a5, c5, rfl, hp5⟩ := own_prs ho HRF.out; have HP5 := Lib.hid hp5; have HP4b := Lib.hid (HP4.out.keep hx); have H5 := Lib.hid (low H4.out hx); clear hx ho hp5) | (go_at_call 19; (with_reducible refine (same_any _ _ _ _ _ _ _ _ HP4b.out HP5.out HRZ.out).mono ?_); rintro e w6 ⟨rfl, hx⟩; have H6 := Lib.hid (low H5.out hx); clear hx))
      go_ret
      exact ⟨rfl, H6.out⟩
    · have g2 : decide ((3000 : Int) < a1.size) = true := decide_eq_true (by omega)
      clear hf hin
      go_enter Tryd.func5, Tryd.ntmps5
      go_wp2_with (first | (go_at_call 7; (with_reducible refine (awake_any _ HE.out).mono ?_); rintro e w1 ⟨rfl, hx⟩; have H1 := Lib.hid hx; clear hx) | (go_at_call 14; (with_reducible refine (HF.out _ (HIN.out.keep H1.out)).mono ?_); rintro e wf ⟨rfl, rfl⟩))
      go_ret
      exact ⟨rfl, H1.out⟩
  · have HF := Lib.hid (fun (w : World) (h : PrsIn w a0 n0 c0 ps) => few_no a0 n0 c0 ps w h hz0 hf)
    clear hf hin
    go_enter Tryd.func5, Tryd.ntmps5
    go_wp2_with (first | (go_at_call 7; (with_reducible refine (awake_any _ HE.out).mono ?_); rintro e w1 ⟨rfl, hx⟩; have H1 := Lib.hid hx; clear hx) | (go_at_call 14; (with_reducible refine (HF.out _ (HIN.out.keep H1.out)).mono ?_); rintro e wf ⟨rfl, rfl⟩))
    go_ret
    exact ⟨rfl, H1.out⟩

end Go.Proofs.YtodjeidofgbdlaaDoor
