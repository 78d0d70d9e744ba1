/- What was promised, written down as text, and read again, is looked over as it was. -/
import Derived.Test.YtodjeidofgbdlaaGreatDoorRed
import Derived.Test.YtodjeidofgbdlaaGreatDoorRtx
import Derived.Test.YtodjeidofgbdlaaGreatDoorAuf
import Derived.Test.YtodjeidofgbdlaaGreatDoorAug
import Derived.Test.YtodjeidofgbdlaaGreatDoorPek
import Derived.Test.YtodjeidofgbdlaaGreatDoorOpen
import Derived.OpenShut
import Derived.Lib.Strings
namespace Go.Proofs.YtodjeidofgbdlaaGreatDoor
open Go.ChangeShapes Go.WideShapes Go.ChangeAt Go.RowKit
set_option linter.unusedVariables false
set_option linter.unusedSimpArgs false

theorem prs_of {W : World} {a : Option Addr} {n c : Nat} {xs : List (List Value)} (h : SliceIn W [.int .i64, .int .u32, .str, .int .i64, .int .i64] a n c xs) : ∃ ps, PrsIn W a n c ps := by
  obtain ⟨h1, h2, h3, h4, _, h6⟩ := h
  have hall : ∃ ps : List Pr, xs = ps.map Pr.cells ∧ ∀ p ∈ ps, p.fit := by
    clear h1 h6
    induction xs with
    | nil => exact ⟨[], rfl, fun _ h => by cases h⟩
    | cons cs xs ih =>
      obtain ⟨ps, rfl, hf⟩ := ih (fun y hy => h2 y (.tail _ hy))
      have f := h2 cs (.head _)
      obtain ⟨_, _, rfl, ⟨b0, rfl, w0⟩, _, _, rfl, ⟨b1, rfl, w1⟩, _, _, rfl, ⟨b2, rfl, w2⟩, _, _, rfl, ⟨b3, rfl, w3⟩, _, _, rfl, ⟨b4, rfl, w4⟩, f⟩ := f
      subst f
      refine ⟨⟨b0, b1, b2, b3, b4⟩ :: ps, rfl, fun p hp => ?_⟩
      rcases List.mem_cons.1 hp with rfl | hp
      · exact bounds_u32 w1
      · exact hf p hp
  obtain ⟨ps, rfl, hf⟩ := hall
  rw [List.length_map] at h1
  refine ⟨ps, h1, hf, h3, h4, fun h0 => ?_⟩
  obtain ⟨b, o, rfl, hb, hc⟩ := h6 h0
  refine ⟨b, o, rfl, hb, fun j p hp i v hv => ?_⟩
  have hj := (List.getElem?_eq_some_iff.1 hp).1
  have hi : i < 5 := (List.getElem?_eq_some_iff.1 hv).1
  have h := hc j i (by omega) hi
  have e : ((ps.map Pr.cells).getD j []).getD i undef = v := by
    rw [List.getD_eq_getElem?_getD, List.getD_eq_getElem?_getD, List.getElem?_map, hp]
    simp only [Option.map_some, Option.getD_some]
    rw [hv]
    rfl
  rw [e] at h
  exact h

theorem few_yes (a : Option Addr) (n c : Nat) (ps : List Pr) (w : World) (hin : PrsIn w a n c ps) (hz : n ≤ 140737488351232) (hf : fewP ps) : Calls Tryz.prog 5 #[.slice a n c] w fun e w' => e = .returned (.bool true) ∧ w = w' := by
  refine (few_any a n c ps w hin hz).mono ?_
  rintro e w' ⟨r, rfl, hr, hw⟩
  rw [hr.2 hf]
  exact ⟨rfl, hw⟩
theorem few_no (a : Option Addr) (n c : Nat) (ps : List Pr) (w : World) (hin : PrsIn w a n c ps) (hz : n ≤ 140737488351232) (hf : ¬ fewP ps) : Calls Tryz.prog 5 #[.slice a n c] w fun e w' => e = .returned (.bool false) ∧ w = w' := by
  refine (few_any a n c ps w hin hz).mono ?_
  rintro e w' ⟨r, rfl, hr, hw⟩
  cases r with
  | false => exact ⟨rfl, hw⟩
  | true => exact absurd (hr.1 rfl) hf

theorem own_prs_n {w : World} {base : Nat} {v : Value} {ps : List Pr} {n : Nat} (hn : ps.length = n) (h : w.ownsRow base 29 5 v n (flatP ps)) (hf : ∀ p ∈ ps, p.fit) : ∃ a c, v = .slice a n c ∧ PrsIn w a n c ps := by
  subst hn
  exact own_prs h hf
theorem lstr_nonempty {s : ByteArray} (h : s.size ≠ 0) : s.toList.isEmpty = false := by
  cases he : s.toList.isEmpty with
  | false => rfl
  | true =>
    rw [Lib.toList_data, List.isEmpty_iff_length_eq_zero, Array.length_toList] at he
    exact absurd he h
theorem lstr_ne {s : ByteArray} (h : s.size ≠ 0) : s.toList ≠ [] := by
  intro e
  have := lstr_nonempty h
  rw [e] at this
  cases this

def oneP : Pr := ⟨0, 0, { data := #[97] }, 0, 0⟩
theorem one_in (w : World) (t : TypeId) : PrsIn (w.alloc (.cells #[.int .i64 0, .int .u32 0, .string { data := #[97] }, .int .i64 0, .int .i64 0] t)) (some ⟨w.heap.size, 0, none⟩) 1 1 [oneP] := by
  have hb := Blk.new w #[.int .i64 0, .int .u32 0, .string { data := #[97] }, .int .i64 0, .int .i64 0] t
  refine ⟨rfl, ?_, by omega, by unfold maxLen; omega, fun _ => ⟨w.heap.size, 0, rfl, hb.lt, ?_⟩⟩
  · intro p hp
    rw [List.mem_singleton.1 hp]
    exact ⟨by decide, by decide⟩
  · intro j p hp i v hv
    cases j with
    | succ j => simp at hp
    | zero =>
      simp at hp
      subst hp
      have e : 0 + (0 * 5 + i) = i := by omega
      rw [e, hb.cell i]
      rw [← hv]
      unfold Pr.cells oneP
      match i with
      | 0 => rfl
      | 1 => rfl
      | 2 => rfl
      | 3 => rfl
      | 4 => rfl
      | _ + 5 => rfl
theorem one_right : rightPr oneP := by
  unfold rightPr oneP
  exact ⟨⟨by decide, by decide⟩, ⟨by decide, by decide⟩, by decide, by decide, by decide⟩
theorem one_text : textR [oneP] = (bl (textL [oneP]), 0) := by
  unfold textR
  rw [if_pos (fun q hq => by rw [List.mem_singleton.1 hq]; exact one_right)]
theorem one_some : 1 ≤ (bl (textL [oneP])).size := by
  rw [bl_size]
  simp [textL]

set_option maxRecDepth 100000 in
set_option maxHeartbeats 2000000 in
theorem walk_TopTrace (a0 : Option Addr) (n0 : Nat) (c0 : Nat) (x0 : List (List Value)) (a1 : Int) (W : World) (sl0 : SliceIn W [.int .i64, .int .u32, .str, .int .i64, .int .i64] a0 n0 c0 x0) (z0 : n0 * 48 ≤ 140737488351232) (w1 : (Lit.int .i64 a1).wf = true) (hR : Env W) :
    Calls Tryz.prog 3 #[.slice a0 n0 c0, .int .i64 a1] W fun e w' => e = .returned (.bool true) ∧ Below W.heap.size W w' := by
  obtain ⟨ps, hin⟩ := prs_of sl0
  have HIN := Lib.hid hin
  have HE := Lib.hid hR
  have hz0 : n0 ≤ 140737488351232 := by omega
  have HT1 := Lib.hid (fun (w : World) (b : Nat) (he : Env w) (h : PrsIn w (some ⟨b, 0, none⟩) 1 1 [oneP]) => one_text ▸ ttext_any (some ⟨b, 0, none⟩) 1 1 [oneP] w he h (by omega))
  have hs1 := one_some
  obtain ⟨t1, ht1⟩ : ∃ x, bl (textL [oneP]) = x := ⟨_, rfl⟩
  rw [ht1] at HT1 hs1
  clear ht1
  have gz : t1.toList.isEmpty = false := lstr_nonempty (by omega)
  have gz2 : t1.toList ≠ [] := lstr_ne (by omega)
  clear hs1
  clear sl0 z0 hR w1
  by_cases hf : fewP ps
  · have HF := Lib.hid (fun (w : World) (h : PrsIn w a0 n0 c0 ps) => few_yes a0 n0 c0 ps w h hz0 hf)
    have hn : n0 ≤ 60 := by have h1 := hf.2; have h2 := hin.1; omega
    by_cases hr : ∀ p ∈ ps, rightPr p
    · have htt : textR ps = (bl (textL ps), 0) := by unfold textR; rw [if_pos hr]
      have HT := Lib.hid (fun (w : World) (he : Env w) (h : PrsIn w a0 n0 c0 ps) => htt ▸ ttext_any a0 n0 c0 ps w he h (by omega))
      have hfit : ∀ p ∈ ps, p.fit := hin.2.1
      have htl := textL_len ps hr hfit
      rw [hin.1] at htl
      have hrd := fun (w : World) (he : Env w) => tread_any (bl (textL ps)) (by rw [bl_size]; omega) w he
      rw [readR_text hr hfit] at hrd
      simp only at hrd
      rw [hin.1] at hrd
      have HRD := Lib.hid hrd
      have HRF := Lib.hid hfit
      have HLN := Lib.hid hin.1
      obtain ⟨tl, htl2⟩ : ∃ x, bl (textL ps) = x := ⟨_, rfl⟩
      rw [htl2] at HRD HT
      have HCL := Lib.hid (fun (a : Option Addr) (c : Nat) (w : World) (h : PrsIn w a n0 c ps) => tclash_any a n0 c ps w h (by omega))
      have HPK := Lib.hid (fun (a : Option Addr) (c : Nat) (w : World) (h : PrsIn w a n0 c ps) => peak_any a n0 c ps w h (by omega))
      have HHD := Lib.hid (fun (a : Option Addr) (c : Nat) (w : World) (h : PrsIn w a n0 c ps) => held_any a n0 c ps a1 w h (by omega))
      obtain ⟨⟨k1, k2⟩, hk⟩ : ∃ x, clashF ps = x := ⟨_, rfl⟩
      obtain ⟨⟨p1, p2⟩, hp⟩ : ∃ x, peakF ps = x := ⟨_, rfl⟩
      obtain ⟨hl, hh⟩ : ∃ x, (keysU (heldD a1 ps)).length = x := ⟨_, rfl⟩
      rw [hk] at HCL
      rw [hp] at HPK
      rw [hh] at HHD
      simp only at HCL HPK
      clear htt htl htl2 hrd hk hp hh hf hin hr hfit
      go_enter Tryz.func3, Tryz.ntmps3
      go_wp2_with (first | (go_at_call 4; (with_reducible refine (HT1.out _ _ (HE.out.keep (low0 _ _)) (one_in _ _)).mono ?_); rintro e w1 ⟨rfl, hx⟩; have H1 := Lib.hid (low (low0 _ _) hx); clear hx) | (go_at_call 5; (with_reducible refine (HF.out _ (HIN.out.keep H1.out)).mono ?_); rintro e wf ⟨rfl, rfl⟩) | (go_at_call 4; (with_reducible refine (HT.out _ (HE.out.keep H1.out) (HIN.out.keep H1.out)).mono ?_); rintro e w2 ⟨rfl, hx⟩; have H2 := Lib.hid (low H1.out hx); clear hx) | (go_at_call 6; (with_reducible refine (HRD.out _ (HE.out.keep H2.out)).mono ?_); rintro e w3 ⟨v3, rfl, ho, hx⟩; obtain ⟨a3, c3, rfl, hp3⟩ := own_prs_n HLN.out ho HRF.out; have HP3 := Lib.hid hp3; have H3 := Lib.hid (low H2.out hx); clear hx ho hp3) | (go_at_call 7; (with_reducible refine (HCL.out _ _ _ (HIN.out.keep H3.out)).mono ?_); rintro e w4 ⟨rfl, hx⟩; have HP4 := Lib.hid (HP3.out.keep hx); have H4 := Lib.hid (low H3.out hx); clear hx) | (go_at_call 7; (with_reducible refine (HCL.out _ _ _ HP4.out).mono ?_); rintro e w5 ⟨rfl, hx⟩; have HP5 := Lib.hid (HP4.out.keep hx); have H5 := Lib.hid (low H4.out hx); clear hx) | (go_at_call 8; (with_reducible refine (HPK.out _ _ _ (HIN.out.keep H5.out)).mono ?_); rintro e w6 ⟨rfl, hx⟩; have HP6 := Lib.hid (HP5.out.keep hx); have H6 := Lib.hid (low H5.out hx); clear hx) | (go_at_call 8; (with_reducible refine (HPK.out _ _ _ HP6.out).mono ?_); rintro e w7 ⟨rfl, hx⟩; have HP7 := Lib.hid (HP6.out.keep hx); have H7 := Lib.hid (low H6.out hx); clear hx) | (go_at_call 9; (with_reducible refine (HHD.out _ _ _ (HIN.out.keep H7.out)).mono ?_); rintro e w8 ⟨a8, c8, rfl, hx⟩; have HP8 := Lib.hid (HP7.out.keep hx); have H8 := Lib.hid (low H7.out hx); clear hx) | (go_at_call 9; (with_reducible refine (HHD.out _ _ _ HP8.out).mono ?_); rintro e w9 ⟨a9, c9, rfl, hx⟩; have H9 := Lib.hid (low H8.out hx); clear hx))
      go_ret
      exact ⟨rfl, H9.out⟩
    · have HT := Lib.hid (fun (w : World) (he : Env w) (h : PrsIn w a0 n0 c0 ps) => (show textR ps = (({ data := #[] } : ByteArray), (1 : Int)) from by unfold textR; rw [if_neg hr]) ▸ ttext_any a0 n0 c0 ps w he h (by omega))
      clear hf hin hr
      go_enter Tryz.func3, Tryz.ntmps3
      go_wp2_with (first | (go_at_call 4; (with_reducible refine (HT1.out _ _ (HE.out.keep (low0 _ _)) (one_in _ _)).mono ?_); rintro e w1 ⟨rfl, hx⟩; have H1 := Lib.hid (low (low0 _ _) hx); clear hx) | (go_at_call 5; (with_reducible refine (HF.out _ (HIN.out.keep H1.out)).mono ?_); rintro e wf ⟨rfl, rfl⟩) | (go_at_call 4; (with_reducible refine (HT.out _ (HE.out.keep H1.out) (HIN.out.keep H1.out)).mono ?_); rintro e w2 ⟨rfl, hx⟩; have H2 := Lib.hid (low H1.out hx); clear hx))
      go_ret
      exact ⟨rfl, H2.out⟩
  · have HF := Lib.hid (fun (w : World) (h : PrsIn w a0 n0 c0 ps) => few_no a0 n0 c0 ps w h hz0 hf)
    clear hf hin
    go_enter Tryz.func3, Tryz.ntmps3
    go_wp2_with (first | (go_at_call 4; (with_reducible refine (HT1.out _ _ (HE.out.keep (low0 _ _)) (one_in _ _)).mono ?_); rintro e w1 ⟨rfl, hx⟩; have H1 := Lib.hid (low (low0 _ _) hx); clear hx) | (go_at_call 5; (with_reducible refine (HF.out _ (HIN.out.keep H1.out)).mono ?_); rintro e wf ⟨rfl, rfl⟩))
    go_ret
    exact ⟨rfl, H1.out⟩

end Go.Proofs.YtodjeidofgbdlaaGreatDoor
