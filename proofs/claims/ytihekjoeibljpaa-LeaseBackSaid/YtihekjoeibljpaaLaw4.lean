/- The lease of any bytes, if these are one. -/
import Derived.Test.YtihekjoeibljpaaRde
import Derived.Test.YtihekjoeibljpaaOpen
namespace Go.Proofs.Ytihekjoeibljpaa
open Go.ChangeShapes Go.WideShapes Go.ChangeAt Go.RowKit
set_option linter.unusedVariables false
set_option linter.unusedSimpArgs false

/-- A slice of bytes that came in. -/
theorem slice_u8 {W : World} {a : Option Addr} {n c : Nat} {x : List (List Value)} (h : SliceIn W [.int .u8] a n c x) :
    ∃ xs : List Int, xs.length = n ∧ (∀ z ∈ xs, 0 ≤ z ∧ z ≤ 255) ∧ n ≤ c ∧ c ≤ maxLen ∧ (0 < n → ∃ g o, a = some ⟨g, o, none⟩ ∧ RowAt W g o (xs.map (Value.int .u8))) := by
  obtain ⟨hl, hf, hc, hm, _, hr⟩ := h
  have hv : ∀ cs ∈ x, ∃ z : Int, cs = [.int .u8 z] ∧ 0 ≤ z ∧ z ≤ 255 := by
    intro cs hcs
    obtain ⟨d, r, rfl, ⟨z, rfl, hw⟩, hr⟩ := hf cs hcs
    simp only [FitsAll] at hr
    subst hr
    exact ⟨z, rfl, bounds_u8 hw⟩
  have hall : ∀ y : List (List Value), (∀ cs ∈ y, ∃ z : Int, cs = [.int .u8 z] ∧ 0 ≤ z ∧ z ≤ 255) → ∃ xs : List Int, y = xs.map (fun z => [Value.int .u8 z]) ∧ ∀ z ∈ xs, 0 ≤ z ∧ z ≤ 255 := by
    intro y
    induction y with
    | nil => intro _; exact ⟨[], rfl, fun z hz => by cases hz⟩
    | cons cs y ih =>
      intro hy
      obtain ⟨z, rfl, hz⟩ := hy cs (.head _)
      obtain ⟨xs, rfl, hxs⟩ := ih (fun d hd => hy d (.tail _ hd))
      refine ⟨z :: xs, rfl, fun t ht => ?_⟩
      rcases List.mem_cons.1 ht with rfl | ht
      · exact hz
      · exact hxs t ht
  obtain ⟨xs, rfl, hxs⟩ := hall x hv
  rw [List.length_map] at hl
  refine ⟨xs, hl, hxs, hc, hm, fun h0 => ?_⟩
  obtain ⟨g, o, ha, hg, hcell⟩ := hr h0
  refine ⟨g, o, ha, hg, fun j hj => ?_⟩
  rw [List.length_map] at hj
  have h1 := hcell j 0 (by omega) (by simp)
  simp only [List.length_cons, List.length_nil, Nat.zero_add, Nat.mul_one, Nat.add_zero] at h1
  have e : (xs.map (fun z => [Value.int .u8 z])).getD j [] = [Value.int .u8 xs[j]] := by
    rw [List.getD_eq_getElem?_getD, List.getElem?_map, List.getElem?_eq_getElem hj]
    rfl
  rw [h1, e, List.getElem?_map, List.getElem?_eq_getElem hj]
  rfl
theorem dec_all (xs : List Int) (hx : ∀ z ∈ xs, 0 ≤ z ∧ z ≤ 255) (g o c : Nat) (w : World) (hn : 36 ≤ xs.length) (hn2 : xs.length ≤ 1000) (hc : xs.length ≤ c) (hc2 : c ≤ maxLen) (h : RowAt w g o (xs.map (Value.int .u8))) : Calls Try.prog 16 #[.slice (some ⟨g, o, none⟩) xs.length c] w (RDecPost xs w) := by
  by_cases h35 : xs.getD 35 0 = (xs.length : Int) - 36
  · refine (dec_big xs hx g o c w hn hn2 hc hc2 h h35).mono fun e w' hp => ⟨fun hd => hp.1 hd.1, fun hd => hp.2.1 (fun h => hd ⟨h, h35⟩), hp.2.2⟩
  · refine (dec_odd xs hx g o c w hn hn2 h h35).mono fun e w' hp => ?_
    obtain ⟨rfl, hb⟩ := hp
    exact RDecPost.no (fun h => h35 h.2) hb

set_option maxRecDepth 100000 in
set_option maxHeartbeats 2000000 in
theorem walk_LeaseDecodes (a0 : Option Addr) (n0 : Nat) (c0 : Nat) (x0 : List (List Value)) (W : World) (r0 : SliceIn W [.int .u8] a0 n0 c0 x0) (z0 : n0 * 1 ≤ 140737488351232) :
    Calls Try.prog 5 #[.slice a0 n0 c0] W fun e w' => e = .returned (.bool true) ∧ Below W.heap.size W w' := by
  clear z0
  obtain ⟨xs, hl, hx, hc, hm, hr⟩ := slice_u8 r0
  clear r0
  subst hl
  by_cases h1000 : xs.length ≤ 1000
  · by_cases h36 : 36 ≤ xs.length
    · obtain ⟨g, o, rfl, hrow⟩ := hr (by omega)
      have HL := Lib.hid (show 36 ≤ xs.length ∧ xs.length ≤ 1000 ∧ xs.length ≤ c0 ∧ c0 ≤ maxLen from ⟨h36, h1000, hc, hm⟩)
      have HX := Lib.hid hx
      have HR := Lib.hid hrow
      clear hx hrow hr hc hm
      by_cases hd : DecP xs ∧ xs.getD 35 0 = (xs.length : Int) - 36
      · have HD := Lib.hid hd
        clear hd
        obtain ⟨y4, hy4⟩ : ∃ y, y = xs.getD 4 0 := ⟨_, rfl⟩
        have Y4 := Lib.hid hy4
        clear hy4
        go_enter Try.func5, Try.ntmps5
        go_wp2_with (first | (go_at_call 7; (with_reducible refine (awake_any _).mono ?_); rintro e w1 ⟨rfl, hx⟩; have H1 := Lib.hid hx; clear hx) | (go_at_call 16; (refine (dec_all xs HX.out g o c0 _ HL.out.1 HL.out.2.1 HL.out.2.2.1 HL.out.2.2.2 (HR.out.keep H1.out)).mono ?_); rintro e w2 ⟨h1, h2, hx⟩; obtain rfl : e = .returned (.tuple #[.agg #[.int .u32 (numV (xs.take 4)), .int .i64 y4, .string (strOf (xs.drop 36)), .int .i64 (pv xs 5 0 0), .int .i64 (pv xs 5 0 1), .int .i64 (pv xs 5 0 2), .int .i64 (pv xs 5 0 3), .int .i64 (pv xs 5 0 4)], .int .i64 0]) := (by rw [Y4.out]; exact h1 HD.out); clear h1 h2; have H2 := Lib.hid (((HeldB.nil (low H1.out hx)).new #[.int .u32 (numV (xs.take 4)), .int .i64 y4, .string (strOf (xs.drop 36)), .int .i64 (pv xs 5 0 0), .int .i64 (pv xs 5 0 1), .int .i64 (pv xs 5 0 2), .int .i64 (pv xs 5 0 3), .int .i64 (pv xs 5 0 4)] 25)); clear hx; have HR2 := Lib.hid (HR.out.keep H2.out.2)) | (go_at_call 17; (refine (rdec_big xs HX.out g o c0 _ HL.out.1 HL.out.2.1 HL.out.2.2.1 HL.out.2.2.2 HR2.out).mono ?_); rintro e w3 ⟨h1, h2, hx⟩; obtain rfl : e = .returned (.tuple #[.agg #[.int .u32 (numV (xs.take 4)), .int .i64 y4, .string (strOf (xs.drop 36)), .int .i64 (pv xs 5 0 0), .int .i64 (pv xs 5 0 1), .int .i64 (pv xs 5 0 2), .int .i64 (pv xs 5 0 3), .int .i64 (pv xs 5 0 4)], .int .i64 0]) := (by rw [Y4.out]; exact h1 HD.out); clear h1 h2; have H3 := Lib.hid ((H2.out.keep hx).new #[.int .u32 (numV (xs.take 4)), .int .i64 y4, .string (strOf (xs.drop 36)), .int .i64 (pv xs 5 0 0), .int .i64 (pv xs 5 0 1), .int .i64 (pv xs 5 0 2), .int .i64 (pv xs 5 0 3), .int .i64 (pv xs 5 0 4)] 25); clear hx; obtain ⟨q0_0, q0_1, q0_2, q0_3, q0_4, q0_5, q0_6, q0_7⟩ := (H3.out).b0.cells8; obtain ⟨q1_0, q1_1, q1_2, q1_3, q1_4, q1_5, q1_6, q1_7⟩ := (H3.out).tl.b0.cells8))
        go_ret
        exact ⟨rfl, H3.out.2⟩
      · have HD := Lib.hid hd
        clear hd
        go_enter Try.func5, Try.ntmps5
        go_wp2_with (first | (go_at_call 7; (with_reducible refine (awake_any _).mono ?_); rintro e w1 ⟨rfl, hx⟩; have H1 := Lib.hid hx; clear hx) | (go_at_call 16; (refine (dec_all xs HX.out g o c0 _ HL.out.1 HL.out.2.1 HL.out.2.2.1 HL.out.2.2.2 (HR.out.keep H1.out)).mono ?_); rintro e w2 ⟨h1, h2, hx⟩; obtain rfl : e = .returned (.tuple #[.agg #[.int .u32 0, .int .i64 0, .string { data := #[] }, .int .i64 0, .int .i64 0, .int .i64 0, .int .i64 0, .int .i64 0], .int .i64 2]) := h2 HD.out; clear h1 h2; have H2 := Lib.hid (((HeldB.nil (low H1.out hx)).new #[.int .u32 0, .int .i64 0, .string { data := #[] }, .int .i64 0, .int .i64 0, .int .i64 0, .int .i64 0, .int .i64 0] 25)); clear hx; have HR2 := Lib.hid (HR.out.keep H2.out.2)) | (go_at_call 17; (refine (rdec_big xs HX.out g o c0 _ HL.out.1 HL.out.2.1 HL.out.2.2.1 HL.out.2.2.2 HR2.out).mono ?_); rintro e w3 ⟨h1, h2, hx⟩; obtain rfl : e = .returned (.tuple #[.agg #[.int .u32 0, .int .i64 0, .string { data := #[] }, .int .i64 0, .int .i64 0, .int .i64 0, .int .i64 0, .int .i64 0], .int .i64 2]) := h2 HD.out; clear h1 h2; have H3 := Lib.hid ((H2.out.keep hx).new #[.int .u32 0, .int .i64 0, .string { data := #[] }, .int .i64 0, .int .i64 0, .int .i64 0, .int .i64 0, .int .i64 0] 25); clear hx; obtain ⟨q0_0, q0_1, q0_2, q0_3, q0_4, q0_5, q0_6, q0_7⟩ := (H3.out).b0.cells8; obtain ⟨q1_0, q1_1, q1_2, q1_3, q1_4, q1_5, q1_6, q1_7⟩ := (H3.out).tl.b0.cells8))
        go_ret
        exact ⟨rfl, H3.out.2⟩
    · clear hx hr hc hm
      generalize xs.length = n at *
      go_enter Try.func5, Try.ntmps5
      go_wp2_with (first | (go_at_call 7; (with_reducible refine (awake_any _).mono ?_); rintro e w1 ⟨rfl, hx⟩; have H1 := Lib.hid hx; clear hx) | (go_at_call 16; (refine (dec_short _ _ _ (by omega) _).mono ?_); rintro e w2 ⟨rfl, hx⟩; have H2 := Lib.hid (((HeldB.nil (low H1.out hx)).new #[.int .u32 0, .int .i64 0, .string { data := #[] }, .int .i64 0, .int .i64 0, .int .i64 0, .int .i64 0, .int .i64 0] 25)); clear hx) | (go_at_call 17; (refine (rdec_short _ _ _ (by omega) _).mono ?_); rintro e w3 ⟨rfl, hx⟩; have H3 := Lib.hid ((H2.out.keep hx).new #[.int .u32 0, .int .i64 0, .string { data := #[] }, .int .i64 0, .int .i64 0, .int .i64 0, .int .i64 0, .int .i64 0] 25); clear hx; obtain ⟨q0_0, q0_1, q0_2, q0_3, q0_4, q0_5, q0_6, q0_7⟩ := (H3.out).b0.cells8; obtain ⟨q1_0, q1_1, q1_2, q1_3, q1_4, q1_5, q1_6, q1_7⟩ := (H3.out).tl.b0.cells8))
      go_ret
      exact ⟨rfl, H3.out.2⟩
  · have h1001 : (1000 : Int) < xs.length := by omega
    clear hx hr hc hm h1000
    generalize xs.length = n at *
    go_enter Try.func5, Try.ntmps5
    go_wp2_with (go_at_call 7; (with_reducible refine (awake_any _).mono ?_); rintro e w1 ⟨rfl, hx⟩; have H1 := Lib.hid hx; clear hx)
    go_ret
    exact ⟨rfl, H1.out⟩

end Go.Proofs.Ytihekjoeibljpaa
