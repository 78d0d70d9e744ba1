/- Promises as text are read as they were; of a line that is none it is told which. -/
import Derived.Test.YtodjeidofgbdlaaDoorLaw3
namespace Go.Proofs.YtodjeidofgbdlaaDoor
open Go.ChangeShapes Go.WideShapes Go.ChangeAt Go.RowKit
set_option linter.unusedVariables false
set_option linter.unusedSimpArgs false

theorem PrsIn.take {w : World} {a : Option Addr} {n c : Nat} {ps : List Pr} (h : PrsIn w a n c ps) {k : Nat} (hk : k ≤ n) : PrsIn w a k c (ps.take k) := by
  obtain ⟨h1, h2, h3, h4, h5⟩ := h
  refine ⟨by rw [List.length_take]; omega, fun p hp => h2 p (List.mem_of_mem_take hp), by omega, h4, fun h0 => ?_⟩
  obtain ⟨g, o, rfl, hg, hc⟩ := h5 (by omega)
  refine ⟨g, o, rfl, hg, fun j p hp => hc j p ?_⟩
  rw [List.getElem?_take] at hp
  split at hp
  · exact hp
  · cases hp
theorem PrsIn.drop {w : World} {g o : Nat} {a2 : Option Addr} {n c : Nat} {ps : List Pr} (h : PrsIn w (some ⟨g, o, none⟩) n c ps) {k : Nat} (hk : k ≤ n) (ha : k < n → a2 = some ⟨g, o + k * 5, none⟩) : PrsIn w a2 (n - k) (c - k) (ps.drop k) := by
  obtain ⟨h1, h2, h3, h4, h5⟩ := h
  refine ⟨by rw [List.length_drop]; omega, fun p hp => h2 p (List.mem_of_mem_drop hp), by omega, by omega, fun h0 => ?_⟩
  obtain ⟨g', o', e, hg, hc⟩ := h5 (by omega)
  cases e
  refine ⟨g, o + k * 5, ha (by omega), hg, fun j p hp i v hv => ?_⟩
  rw [List.getElem?_drop] at hp
  have h := hc (k + j) p hp i v hv
  have e : o + k * 5 + (j * 5 + i) = o + ((k + j) * 5 + i) := by rw [Nat.add_mul]; omega
  rw [e]
  exact h
theorem PrsIn.rest {w : World} {a : Option Addr} {n c : Nat} {ps : List Pr} (h : PrsIn w a n c ps) {k : Nat} (hk : k ≤ n) : PrsIn w (a.map (fun x => x.add (k * 5))) (n - k) (c - k) (ps.drop k) := by
  cases a with
  | none =>
    obtain ⟨h1, h2, h3, h4, h5⟩ := h
    refine ⟨by rw [List.length_drop]; omega, fun p hp => h2 p (List.mem_of_mem_drop hp), by omega, by omega, fun h0 => ?_⟩
    obtain ⟨g, o, e, _⟩ := h5 (by omega)
    cases e
  | some x =>
    by_cases hn : 0 < n
    · have h' := h
      obtain ⟨_, _, _, _, h5⟩ := h'
      obtain ⟨g, o, e, _⟩ := h5 hn
      cases e
      exact h.drop hk (fun _ => congrArg some add_spot0)
    · obtain ⟨h1, h2, h3, h4, _⟩ := h
      exact ⟨by rw [List.length_drop]; omega, fun p hp => h2 p (List.mem_of_mem_drop hp), by omega, by omega, fun h0 => by omega⟩
theorem PrsIn.rest0 {w : World} {a : Option Addr} {n c : Nat} {ps : List Pr} (h : PrsIn w a n c ps) {k : Nat} (hk : k ≤ n) (hc : c = k) : PrsIn w a (n - k) 0 (ps.drop k) := by
  obtain ⟨h1, h2, h3, h4, _⟩ := h
  exact ⟨by rw [List.length_drop]; omega, fun p hp => h2 p (List.mem_of_mem_drop hp), by omega, Nat.zero_le _, fun h0 => by omega⟩
theorem PrsIn.none {w : World} {n c : Nat} {ps : List Pr} (h : PrsIn w none n c ps) : n = 0 := by
  obtain ⟨_, _, _, _, h5⟩ := h
  rcases Nat.eq_zero_or_pos n with h | h
  · exact h
  · obtain ⟨g, o, e, _⟩ := h5 h
    cases e
theorem textR_part {ps : List Pr} (h : ∀ p ∈ ps, rightPr p) (qs : List Pr) (hs : ∀ q ∈ qs, q ∈ ps) : textR qs = (bl (textL qs), 0) := by
  unfold textR
  rw [if_pos (fun q hq => h q (hs q hq))]

set_option maxRecDepth 100000 in
set_option maxHeartbeats 2000000 in
theorem reads_main (a0 : Option Addr) (n0 c0 : Nat) (ps : List Pr) (at1 : Nat) (a2 : ByteArray) (W : World) (hin : PrsIn W a0 n0 c0 ps) (hf : fewP ps) (hat : at1 ≤ n0) (hs : a2.size ≤ 200) (hR : Env W) (hr : ∀ p ∈ ps, rightPr p) :
    Calls Tryd.prog 6 #[.slice a0 n0 c0, .int .i64 at1, .string a2] W fun e w' => e = .returned (.bool true) ∧ Below W.heap.size W w' := by
  have HIN := Lib.hid hin
  have HE := Lib.hid hR
  have hn : n0 ≤ 60 := by have h1 := hf.2; have h2 := hin.1; omega
  have hz0 : n0 ≤ 140737488351232 := by omega
  have HF := Lib.hid (fun (w : World) (h : PrsIn w a0 n0 c0 ps) => few_yes a0 n0 c0 ps w h hz0 hf)
  have g1 : decide ((at1 : Int) < 0) = false := decide_eq_false (by omega)
  have g2 : decide ((n0 : Int) < at1) = false := decide_eq_false (by omega)
  have g3 : decide ((200 : Int) < a2.size) = false := decide_eq_false (by omega)
  have HT := Lib.hid (fun (w : World) (he : Env w) (h : PrsIn w a0 n0 c0 ps) => ttext_any a0 n0 c0 ps w he h (by omega))
  have htt : textR ps = (bl (textL ps), 0) := textR_part hr ps (fun q hq => hq)
  have hfit : ∀ p ∈ ps, p.fit := hin.2.1
  have htl := textL_len ps hr hfit
  rw [hin.1] at htl
  have hrd := fun (w : World) (he : Env w) => tread_any (bl (textL ps)) (by rw [bl_size]; omega) w he
  rw [readR_text hr hfit] at hrd
  rw [htt] at HT
  simp only at hrd HT
  have HRD := Lib.hid hrd
  have HRF := Lib.hid hfit
  obtain ⟨tl, htl2⟩ : ∃ x, bl (textL ps) = x := ⟨_, rfl⟩
  rw [htl2] at HRD HT
  clear htt htl htl2 hrd hR hin hf
  go_enter Tryd.func6, Tryd.ntmps6
  go_wp2_with (first | (go_at_call 7; (with_reducible refine (awake_any _ HE.out).mono ?_); rintro e w1 ⟨rfl, hx⟩; have H1 := Lib.hid hx; clear hx) | (go_at_call 14; (with_reducible refine (HF.out _ (HIN.out.keep H1.out)).mono ?_); rintro e wf ⟨rfl, rfl⟩) | (go_at_call 15; (with_reducible refine (HT.out _ (HE.out.keep H1.out) (HIN.out.keep H1.out)).mono ?_); rintro e w2 ⟨rfl, hx⟩; have H2 := Lib.hid (low H1.out hx); clear hx) | (go_at_call 17; (with_reducible refine (HRD.out _ (HE.out.keep H2.out)).mono ?_); rintro e w4 ⟨v4, rfl, ho, hx⟩; obtain ⟨a4, c4, rfl, hp4⟩ := own_prs ho HRF.out; have HP4 := Lib.hid hp4; have H4 := Lib.hid (low H2.out hx); clear hx ho hp4) | (go_at_call 19; (with_reducible refine (same_any _ _ _ _ _ _ _ _ (HIN.out.keep H4.out) HP4.out hz0).mono ?_); rintro e w6 ⟨rfl, hx⟩; have H6 := Lib.hid (low H4.out hx); clear hx))
  go_loopw [15] (fun i wr => ∃ k : Nat, k ≤ a2.size ∧ i = .int .i64 k ∧ (∀ b ∈ a2.data.toList.take k, b ≠ 10) ∧ w6 = wr) (fun i _ => a2.size - (intOf i).toNat)
  case atStart => exact ⟨0, by omega, rfl, by simp, rfl⟩
  case round =>
    obtain ⟨k, hk, rfl, h10, rfl⟩ := hrel
    have H10 := Lib.hid h10
    clear h10
    by_cases hlt : k < a2.size
    · obtain ⟨x, hx⟩ : ∃ x : Nat, x = (a2[k]'hlt).toNat := ⟨_, rfl⟩
      have hx2 : x < 256 := by rw [hx]; exact UInt8.toNat_lt _
      have hbx : (a2[k]'hlt).toNat = x := hx.symm
      clear hx
      by_cases e10 : x = 10
      · have q1 : ((x : Int) == 10) = true := by simp [e10]
        go_wp2
        go_ret
        exact ⟨rfl, H6.out⟩
      · have q1 : ((x : Int) == 10) = false := by simp; omega
        have HM := Lib.hid (show ∀ b ∈ a2.data.toList.take (k + 1), b ≠ 10 from by
          intro b hb
          rw [List.take_add_one, List.getElem?_eq_getElem (by rw [Array.length_toList]; exact hlt)] at hb
          rcases List.mem_append.1 hb with h | h
          · exact H10.out b h
          · simp only [Option.toList_some, List.mem_singleton] at h
            rw [h]
            intro e
            have e2 : (a2[k]'hlt) = 10 := e
            rw [e2] at hbx
            exact e10 hbx.symm)
        go_wp2
        exact ⟨⟨k + 1, by omega, by go_num, HM.out, by first | trivial | rfl⟩, by simp [intOf]; omega⟩
    · obtain rfl : k = a2.size := by omega
      have HN10 := Lib.hid (show ∀ b ∈ a2.data.toList, b ≠ 10 from by
        have h := H10.out
        rw [List.take_of_length_le (by rw [Array.length_toList]; exact Nat.le_refl _)] at h
        exact h)
      have HPV := Lib.hid (show ∀ w, Env w → Calls Tryd.prog 10 #[.string a2] w fun e w' => e = .returned (.tuple #[(parseV a2).1.val, .int .i64 (parseV a2).2]) ∧ Below w.heap.size w w' from fun w he => tparse_v a2 (by omega) w he)
      cases hpf : parseF a2 with
      | some p =>
        have hv : parseV a2 = (p, 0) := by unfold parseV; rw [hpf]
        rw [hv] at HPV
        simp only [Pr.val] at HPV
        clear hv hpf
        go_wp2_with (go_at_call 10; (with_reducible refine (HPV.out _ (HE.out.keep H6.out)).mono ?_); rintro e w7 ⟨rfl, hx⟩; have H7 := Lib.hid (low H6.out hx); clear hx)
        go_ret
        exact ⟨rfl, lowA H7.out _⟩
      | none =>
        have hv : parseV a2 = (zeroPr, 2) := by unfold parseV; rw [hpf]
        rw [hv] at HPV
        simp only [Pr.val, zeroPr] at HPV
        have HBAD := Lib.hid (readR_bad (ps := ps.take at1) (t := textL (ps.drop at1)) (fun q hq => hr q (List.mem_of_mem_take hq)) (fun q hq => hfit q (List.mem_of_mem_take hq)) HN10.out hpf)
        have HPF := Lib.hid hpf
        have g5 : at1 ≤ c0 := by have := HIN.out.2.2.1; omega
        have g6 : (at1 : Int) ≤ c0 := by omega
        have g7 : (at1 : Int) ≤ n0 := by omega
        have HTA := Lib.hid (fun (w : World) (he : Env w) (h : PrsIn w a0 at1 c0 (ps.take at1)) => (textR_part hr (ps.take at1) (fun q hq => List.mem_of_mem_take hq)) ▸ ttext_any a0 at1 c0 (ps.take at1) w he h (by omega))
        have HTB := Lib.hid (fun (w : World) (he : Env w) (a2 : Option Addr) (c2 : Nat) (h : PrsIn w a2 (n0 - at1) c2 (ps.drop at1)) => (textR_part hr (ps.drop at1) (fun q hq => List.mem_of_mem_drop hq)) ▸ ttext_any a2 (n0 - at1) c2 (ps.drop at1) w he h (by omega))
        have s1 : (bl (textL (ps.take at1))).size ≤ 7860 := by
          rw [bl_size]
          refine Nat.le_trans (textL_len _ (fun q hq => hr q (List.mem_of_mem_take hq)) (fun q hq => hfit q (List.mem_of_mem_take hq))) ?_
          rw [List.length_take]
          omega
        have s2 : (bl (textL (ps.drop at1))).size ≤ 7860 := by
          rw [bl_size]
          refine Nat.le_trans (textL_len _ (fun q hq => hr q (List.mem_of_mem_drop hq)) (fun q hq => hfit q (List.mem_of_mem_drop hq))) ?_
          rw [List.length_drop, HIN.out.1]
          omega
        have HLT := Lib.hid (show (ps.take at1).length = at1 from by rw [List.length_take, HIN.out.1]; omega)
        obtain ⟨ta, hta⟩ : ∃ x, bl (textL (ps.take at1)) = x := ⟨_, rfl⟩
        obtain ⟨tb, htb⟩ : ∃ x, bl (textL (ps.drop at1)) = x := ⟨_, rfl⟩
        have HBT := Lib.hid (show bl (textL (ps.take at1) ++ (a2.data.toList ++ 10 :: textL (ps.drop at1))) = ta ++ a2 ++ { data := #[10] } ++ tb from by
          apply ba_eq
          rw [bl_data, app_data, app_data, app_data, ← hta, ← htb, bl_data, bl_data, List.append_assoc, List.append_assoc]
          rfl)
        rw [hta] at HTA s1
        rw [htb] at HTB s2
        have s0 : ({ data := #[10] } : ByteArray).size = 1 := rfl
        have s3 : (ta ++ a2).size ≤ 8060 := by rw [ByteArray.size_append]; omega
        have s4 : (ta ++ a2 ++ { data := #[10] }).size ≤ 8061 := by rw [ByteArray.size_append]; omega
        have s5 : (ta ++ a2 ++ { data := #[10] } ++ tb).size ≤ 15921 := by rw [ByteArray.size_append]; omega
        have hrd2 := fun (w : World) (he : Env w) => tread_any (ta ++ a2 ++ { data := #[10] } ++ tb) (by omega) w he
        rw [← HBT.out, HBAD.out, HLT.out, HBT.out] at hrd2
        simp only at hrd2
        have HRD2 := Lib.hid hrd2
        clear hv hpf hta htb hrd2
        go_wp2_with (first | (go_at_call 10; (with_reducible refine (HPV.out _ (HE.out.keep H6.out)).mono ?_); rintro e w7 ⟨rfl, hx⟩; have H7 := Lib.hid (low H6.out hx); clear hx) | (go_at_call 15; (with_reducible refine (HTA.out _ (HE.out.keep (lowA H7.out _)) ((HIN.out.take hat).keep (lowA H7.out _))).mono ?_); rintro e w8 ⟨rfl, hx⟩; have H8 := Lib.hid (low (lowA H7.out _) hx); clear hx) | (go_at_call 15; (with_reducible refine (HTB.out _ (HE.out.keep H8.out) _ _ ((HIN.out.rest hat).keep H8.out)).mono ?_); rintro e w9 ⟨rfl, hx⟩; have H9 := Lib.hid (low H8.out hx); clear hx) | (go_at_call 15; (with_reducible refine (HTB.out _ (HE.out.keep H8.out) _ _ ((HIN.out.rest0 hat (by omega)).keep H8.out)).mono ?_); rintro e w9 ⟨rfl, hx⟩; have H9 := Lib.hid (low H8.out hx); clear hx) | (go_at_call 17; (with_reducible refine (HRD2.out _ (HE.out.keep H9.out)).mono ?_); rintro e wA ⟨vA, rfl, _, hx⟩; have HA := Lib.hid (low H9.out hx); clear hx))
        all_goals
          go_ret
          exact ⟨rfl, HA.out⟩

set_option maxRecDepth 100000 in
set_option maxHeartbeats 2000000 in
theorem walk_TraceReads (a0 : Option Addr) (n0 : Nat) (c0 : Nat) (x0 : List (List Value)) (a1 : Int) (a2 : ByteArray) (W : World) (sl0 : SliceIn W [.int .i64, .int .u32, .str, .int .i64, .int .i64] a0 n0 c0 x0) (z0 : n0 * 48 ≤ 140737488351232) (w1 : (Lit.int .i64 a1).wf = true) (w2 : a2.size ≤ maxLen) (z2 : a2.size ≤ 140737488351232) (hR : Env W) :
    Calls Tryd.prog 6 #[.slice a0 n0 c0, .int .i64 a1, .string a2] W fun e w' => e = .returned (.bool true) ∧ Below W.heap.size W w' := by
  obtain ⟨ps, hin⟩ := prs_of sl0
  have HIN := Lib.hid hin
  have HE := Lib.hid hR
  have hz0 : n0 ≤ 140737488351232 := by omega
  by_cases hf : fewP ps
  · have HF := Lib.hid (fun (w : World) (h : PrsIn w a0 n0 c0 ps) => few_yes a0 n0 c0 ps w h hz0 hf)
    by_cases h1 : a1 < 0
    · have g1 : decide (a1 < 0) = true := decide_eq_true h1
      clear hf hin sl0 z0 hR w1 w2 h1
      go_enter Tryd.func6, Tryd.ntmps6
      go_wp2_with (first | (go_at_call 7; (with_reducible refine (awake_any _ HE.out).mono ?_); rintro e w1 ⟨rfl, hx⟩; have H1 := Lib.hid hx; clear hx) | (go_at_call 14; (with_reducible refine (HF.out _ (HIN.out.keep H1.out)).mono ?_); rintro e wf ⟨rfl, rfl⟩))
      go_ret
      exact ⟨rfl, H1.out⟩
    · have g1 : decide (a1 < 0) = false := decide_eq_false h1
      by_cases h2 : (n0 : Int) < a1
      · have g2 : decide ((n0 : Int) < a1) = true := decide_eq_true h2
        clear hf hin sl0 z0 hR w1 w2 h1 h2
        go_enter Tryd.func6, Tryd.ntmps6
        go_wp2_with (first | (go_at_call 7; (with_reducible refine (awake_any _ HE.out).mono ?_); rintro e w1 ⟨rfl, hx⟩; have H1 := Lib.hid hx; clear hx) | (go_at_call 14; (with_reducible refine (HF.out _ (HIN.out.keep H1.out)).mono ?_); rintro e wf ⟨rfl, rfl⟩))
        go_ret
        exact ⟨rfl, H1.out⟩
      · have g2 : decide ((n0 : Int) < a1) = false := decide_eq_false h2
        by_cases h3 : a2.size ≤ 200
        · obtain ⟨at1, rfl⟩ := Int.eq_ofNat_of_zero_le (Int.not_lt.1 h1)
          by_cases hr : ∀ p ∈ ps, rightPr p
          · exact reads_main a0 n0 c0 ps at1 a2 W hin hf (by omega) h3 hR hr
          · have g3 : decide ((200 : Int) < a2.size) = false := decide_eq_false (by omega)
            have hn : n0 ≤ 100 := by have h1 := hf.2; have h2 := hin.1; omega
            have hat : at1 ≤ n0 := by omega
            have HT := Lib.hid (fun (w : World) (he : Env w) (h : PrsIn w a0 n0 c0 ps) => (show textR ps = (({ data := #[] } : ByteArray), (1 : Int)) from by unfold textR; rw [if_neg hr]) ▸ ttext_any a0 n0 c0 ps w he h hn)
            clear hf hin sl0 z0 hR w1 w2 h1 h2 h3 hr
            go_enter Tryd.func6, Tryd.ntmps6
            go_wp2_with (first | (go_at_call 7; (with_reducible refine (awake_any _ HE.out).mono ?_); rintro e w1 ⟨rfl, hx⟩; have H1 := Lib.hid hx; clear hx) | (go_at_call 14; (with_reducible refine (HF.out _ (HIN.out.keep H1.out)).mono ?_); rintro e wf ⟨rfl, rfl⟩) | (go_at_call 15; (with_reducible refine (HT.out _ (HE.out.keep H1.out) (HIN.out.keep H1.out)).mono ?_); rintro e w2 ⟨rfl, hx⟩; have H2 := Lib.hid (low H1.out hx); clear hx))
            go_ret
            exact ⟨rfl, H2.out⟩
        · have g3 : decide ((200 : Int) < a2.size) = true := decide_eq_true (by omega)
          clear hf hin sl0 z0 hR w1 w2 h1 h2 h3
          go_enter Tryd.func6, Tryd.ntmps6
          go_wp2_with (first | (go_at_call 7; (with_reducible refine (awake_any _ HE.out).mono ?_); rintro e w1 ⟨rfl, hx⟩; have H1 := Lib.hid hx; clear hx) | (go_at_call 14; (with_reducible refine (HF.out _ (HIN.out.keep H1.out)).mono ?_); rintro e wf ⟨rfl, rfl⟩))
          go_ret
          exact ⟨rfl, H1.out⟩
  · have HF := Lib.hid (fun (w : World) (h : PrsIn w a0 n0 c0 ps) => few_no a0 n0 c0 ps w h hz0 hf)
    clear hf hin sl0 z0 hR w1 w2
    go_enter Tryd.func6, Tryd.ntmps6
    go_wp2_with (first | (go_at_call 7; (with_reducible refine (awake_any _ HE.out).mono ?_); rintro e w1 ⟨rfl, hx⟩; have H1 := Lib.hid hx; clear hx) | (go_at_call 14; (with_reducible refine (HF.out _ (HIN.out.keep H1.out)).mono ?_); rintro e wf ⟨rfl, rfl⟩))
    go_ret
    exact ⟨rfl, H1.out⟩

end Go.Proofs.YtodjeidofgbdlaaDoor
