/- A promise out of its line, by the reference. -/
import Derived.Test.YtodjeidofgbdlaaDoorByt
import Derived.Test.YtodjeidofgbdlaaDoorRln
namespace Go.Proofs.YtodjeidofgbdlaaDoor
open Go.ChangeShapes Go.WideShapes Go.ChangeAt Go.RowKit
set_option linter.unusedVariables false
set_option linter.unusedSimpArgs false

theorem cuts_len (c : UInt8) : ∀ (l : List UInt8), ∀ x ∈ cutsL c l, x.length ≤ l.length
  | [], x, h => by
    simp [cutsL] at h
    subst h
    exact Nat.le_refl _
  | b :: l, x, h => by
    have ih := cuts_len c l
    unfold cutsL at h
    split at h
    · rcases List.mem_cons.1 h with rfl | h
      · simp
      · have := ih x h
        simp
        omega
    · cases hc : cutsL c l with
      | nil =>
        rw [hc] at h
        simp at h
        subst h
        simp
      | cons y ys =>
        rw [hc] at h ih
        simp only at h
        rcases List.mem_cons.1 h with rfl | h
        · have := ih y (.head _)
          simp
          omega
        · have := ih x (.tail _ h)
          simp
          omega
/-- The line's words, if it is one. -/
theorem line_words {s : ByteArray} {q : Pr} {ws : List ByteArray} (h : s = lineB q) (hw : ws.map (·.data.toList) = cutsL 32 s.data.toList) : ws.map (·.data.toList) = [Lib.decDigits q.srv.toNat, addrL q.adr.toNat, hexL q.cli.data.toList, Lib.decDigits q.frm.toNat, Lib.decDigits q.unt.toNat] := by
  rw [hw, h]
  unfold lineB
  exact lineL_cuts q
theorem five_of {s : ByteArray} {q : Pr} {ws : List ByteArray} (h : s = lineB q) (hw : ws.map (·.data.toList) = cutsL 32 s.data.toList) : ws.length = 5 := by
  have := congrArg List.length (line_words h hw)
  simpa using this
theorem AddrOf.fit {s : ByteArray} {r : Int × Int} (h : AddrOf s r) : ∃ a : Nat, a < 4294967296 ∧ r.1 = (a : Int) := by
  rcases h with ⟨a, ha, _, rfl⟩ | ⟨_, rfl⟩
  · exact ⟨a, ha, rfl⟩
  · exact ⟨0, by decide, rfl⟩
theorem AddrOf.of {s : ByteArray} {r : Int × Int} (h : AddrOf s r) {a : Nat} (ha : a < 4294967296) (hs : s.data.toList = addrL a) : r = ((a : Int), 0) := by
  rcases h with ⟨c, hc, hs2, rfl⟩ | ⟨hn, rfl⟩
  · rw [addrL_inj (hs2.symm.trans hs)]
  · exact absurd hs (hn a ha)
def refP (x0 x2 x3 x4 : ByteArray) (a : Int) : Pr := ⟨(vF 14 0 x0.data.toList : Nat), a, bl (bytesL x2.data.toList), (vF 14 0 x3.data.toList : Nat), (vF 14 0 x4.data.toList : Nat)⟩
theorem ref_is {s x0 x1 x2 x3 x4 : ByteArray} {q : Pr} {r : Int × Int} (hq : rightPr q) (h0 : 0 ≤ q.adr) (h1 : q.adr ≤ 4294967295) (h : s = lineB q) (hw : [x0, x1, x2, x3, x4].map (·.data.toList) = cutsL 32 s.data.toList) (ha : AddrOf x1 r) : refP x0 x2 x3 x4 r.1 = q := by
  have e := line_words h hw
  simp only [List.map_cons, List.map_nil, List.cons.injEq, and_true] at e
  obtain ⟨e0, e1, e2, e3, e4⟩ := e
  have hr := ha.of (a := q.adr.toNat) (by omega) e1
  obtain ⟨⟨g1, g2⟩, _, g3, g4, g5⟩ := hq
  unfold refP
  rw [e0, e2, e3, e4, vF_dec (by omega), vF_dec (by omega), vF_dec (by omega), bytes_hex, hr, bl_of]
  obtain ⟨a1, a2, a3, a4, a5⟩ := q
  simp only at *
  congr 1 <;> omega
theorem ParseOf.long {s : ByteArray} (h : 130 < s.size) : ParseOf s (zeroPr, 2) := .inr ⟨(fun p hp h0 h1 e => by
  have := lineL_len hp (by omega)
  have k : s.size = (lineL p).length := by rw [e]; unfold lineB; simp [ByteArray.size]
  omega), rfl⟩
theorem ParseOf.few {s : ByteArray} {ws : List ByteArray} (hw : ws.map (·.data.toList) = cutsL 32 s.data.toList) (h : ws.length ≠ 5) : ParseOf s (zeroPr, 2) := .inr ⟨(fun p hp h0 h1 e => h (five_of e hw)), rfl⟩
theorem words_five {ws : List ByteArray} (h : ws.length = 5) : ∃ x0 x1 x2 x3 x4, ws = [x0, x1, x2, x3, x4] := by
  match ws, h with
  | [x0, x1, x2, x3, x4], _ => exact ⟨x0, x1, x2, x3, x4, rfl⟩
theorem word_size {s x : ByteArray} {ws : List ByteArray} (hw : ws.map (·.data.toList) = cutsL 32 s.data.toList) (hx : x ∈ ws) : x.size ≤ s.size := by
  have := cuts_len 32 s.data.toList x.data.toList (by rw [← hw]; exact List.mem_map_of_mem hx)
  rw [Array.length_toList, Array.length_toList] at this
  exact this
theorem ParseOf.noref {s x0 x1 x2 x3 x4 : ByteArray} {r : Int × Int} (hw : [x0, x1, x2, x3, x4].map (·.data.toList) = cutsL 32 s.data.toList) (ha : AddrOf x1 r) (h : ¬ (rightPr (refP x0 x2 x3 x4 r.1) ∧ s = lineB (refP x0 x2 x3 x4 r.1))) : ParseOf s (zeroPr, 2) := .inr ⟨(fun p hp h0 h1 e => h (by rw [ref_is hp h0 h1 e hw ha]; exact ⟨hp, e⟩)), rfl⟩
theorem ParseOf.ref {s : ByteArray} {p : Pr} (hp : rightPr p) (h0 : 0 ≤ p.adr) (h1 : p.adr ≤ 4294967295) (h : s = lineB p) : ParseOf s (p, 0) := .inl ⟨p, hp, h0, h1, h, rfl⟩

theorem HeldB.set5 {W : World} {g : Nat} {a0 a1 a2 a3 a4 : Value} {t : TypeId} {gs : List (Nat × Array Value × TypeId)} {w : World} (h : HeldB W ((g, #[a0, a1, a2, a3, a4], t) :: gs) w) (hg : W.heap.size ≤ g) (hd : ∀ p ∈ gs, p.1 ≠ g) (b0 b1 b2 b3 b4 : Value) :
    HeldB W ((g, #[b0, b1, b2, b3, b4], t) :: gs) (((((w.setCell ⟨g, 0, none⟩ b0).setCell ⟨g, 1, none⟩ b1).setCell ⟨g, 2, none⟩ b2).setCell ⟨g, 3, none⟩ b3).setCell ⟨g, 4, none⟩ b4) := by
  have h0 := h.set hg hd 0 b0
  simp only [List.setIfInBounds_toArray, List.set_cons_zero] at h0
  have h1 := h0.set hg hd 1 b1
  simp only [List.setIfInBounds_toArray, List.set_cons_zero, List.set_cons_succ] at h1
  have h2 := h1.set hg hd 2 b2
  simp only [List.setIfInBounds_toArray, List.set_cons_zero, List.set_cons_succ] at h2
  have h3 := h2.set hg hd 3 b3
  simp only [List.setIfInBounds_toArray, List.set_cons_zero, List.set_cons_succ] at h3
  have h4 := h3.set hg hd 4 b4
  simp only [List.setIfInBounds_toArray, List.set_cons_zero, List.set_cons_succ] at h4
  exact h4
theorem RowIs.set {w : World} {g : Nat} {xs : List Value} (h : RowIs w g xs) {k : Nat} (hk : g ≠ k) (i : Nat) (v : Value) : RowIs (w.setCell ⟨k, i, none⟩ v) g xs :=
  ⟨by have := h.1; simpa [World.setCell] using this, fun j hj => (World.cell?_of_block (a := ⟨g, j, none⟩) (Below.heap_setCell w ⟨k, i, none⟩ v g hk)).trans (h.2 j hj)⟩
theorem row_set5 {w : World} {g : Nat} {xs : List Value} (h : RowIs w g xs) {k : Nat} (hk : g ≠ k) (b0 b1 b2 b3 b4 : Value) : RowIs (((((w.setCell ⟨k, 0, none⟩ b0).setCell ⟨k, 1, none⟩ b1).setCell ⟨k, 2, none⟩ b2).setCell ⟨k, 3, none⟩ b3).setCell ⟨k, 4, none⟩ b4) g xs :=
  ((((h.set hk 0 b0).set hk 1 b1).set hk 2 b2).set hk 3 b3).set hk 4 b4
theorem below5 {B : Nat} {a w : World} (h : Below B a w) {g : Nat} (hp : B ≤ g) (b0 b1 b2 b3 b4 : Value) : Below B a (((((w.setCell ⟨g, 0, none⟩ b0).setCell ⟨g, 1, none⟩ b1).setCell ⟨g, 2, none⟩ b2).setCell ⟨g, 3, none⟩ b3).setCell ⟨g, 4, none⟩ b4) :=
  ((((h.setCell hp b0).setCell hp b1).setCell hp b2).setCell hp b3).setCell hp b4

set_option maxRecDepth 100000 in
set_option maxHeartbeats 1000000 in
theorem rparse_any (s : ByteArray) (w : World) : Calls Tryd.prog 11 #[.string s] w fun e w' => ∃ r : Pr × Int, e = .returned (.tuple #[r.1.val, .int .i64 r.2]) ∧ ParseOf s r ∧ Below w.heap.size w w' := by
  have H0 := Lib.hid ((HeldB.nil (low0 w (.cells #[.int .i64 0, .int .u32 0, .string { data := #[] }, .int .i64 0, .int .i64 0] 25))).cons (Blk.new w #[.int .i64 0, .int .u32 0, .string { data := #[] }, .int .i64 0, .int .i64 0] 25))
  by_cases hlen : 130 < s.size
  · have HL := Lib.hid (ParseOf.long hlen)
    go_enter Tryd.func11, Tryd.ntmps11
    go_wp2
    refine bodyPost_ret (v := .tuple #[.agg #[.int .i64 0, .int .u32 0, .string { data := #[] }, .int .i64 0, .int .i64 0], .int .i64 2]) (by simp [results, Tryd.results11, go_sem]) rfl ?_
    exact ⟨(zeroPr, 2), rfl, HL.out, by first | exact H0.out.2 | exact below5 H0.out.2 (by omega) _ _ _ _ _⟩
  · go_enter Tryd.func11, Tryd.ntmps11
    go_wp2_with (go_at_call 32; (with_reducible refine (words_any s (by omega) _).mono ?_); rintro e w1 ⟨v, ws, rfl, hown, hws, hb1⟩; have HO1 := Lib.hid hown; have HW1 := Lib.hid hws; have H1 := Lib.hid (H0.out.keep hb1); clear hown hws hb1)
    have hne : 0 < ws.length := by
      have h1 := congrArg List.length HW1.out
      rw [List.length_map] at h1
      have h2 := List.length_pos_iff.2 (cutsL_ne 32 s.data.toList)
      omega
    obtain ⟨g, cap, rfl, hg1, hg2, hg3, hrw⟩ := own_row HO1.out hne
    have HRW := Lib.hid hrw
    clear hrw HO1
    by_cases h5 : ws.length = 5
    · obtain ⟨x0, x1, x2, x3, x4, rfl⟩ := words_five h5
      have z0 : x0.size ≤ 1000 := by have := word_size HW1.out (x := x0) (by simp); omega
      have z2 : x2.size ≤ 1000 := by have := word_size HW1.out (x := x2) (by simp); omega
      have z3 : x3.size ≤ 1000 := by have := word_size HW1.out (x := x3) (by simp); omega
      have z4 : x4.size ≤ 1000 := by have := word_size HW1.out (x := x4) (by simp); omega
      obtain ⟨y0, hy0⟩ : ∃ y, vF 14 0 x0.data.toList = y := ⟨_, rfl⟩
      obtain ⟨y3, hy3⟩ : ∃ y, vF 14 0 x3.data.toList = y := ⟨_, rfl⟩
      obtain ⟨y4, hy4⟩ : ∃ y, vF 14 0 x4.data.toList = y := ⟨_, rfl⟩
      obtain ⟨yc, hyc⟩ : ∃ y, bl (bytesL x2.data.toList) = y := ⟨_, rfl⟩
      have HV0 := Lib.hid (hy0 ▸ fun w => value_any x0 w z0)
      have HV3 := Lib.hid (hy3 ▸ fun w => value_any x3 w z3)
      have HV4 := Lib.hid (hy4 ▸ fun w => value_any x4 w z4)
      have HVC := Lib.hid (hyc ▸ fun w => bytes_any x2 z2 w)
      have HP := Lib.hid (show ∀ a, refP x0 x2 x3 x4 a = ⟨(y0 : Nat), a, yc, (y3 : Nat), (y4 : Nat)⟩ from fun a => by unfold refP; rw [hy0, hy3, hy4, hyc])
      clear hy0 hy3 hy4 hyc
      have c1 := HRW.out.at (j := 1) (v := .string x1) rfl
      go_simp
      go_upto_region 7 with (go_at_call 33; (with_reducible refine (raparse_any x1 _).mono ?_); rintro e w5 ⟨⟨r1, r2⟩, rfl, ha, hx⟩; have HA := Lib.hid ha; have H5 := Lib.hid (H1.out.keep hx); have R5 := Lib.hid (HRW.out.keep hx); obtain ⟨a, ha4, hra⟩ := ha.fit; simp only at hra; subst hra; clear hx ha)
      go_cut [7] (fun p wx => ∃ gp : Nat, p = .pointer (some ⟨gp, 0, none⟩) ∧ w.heap.size < gp ∧ HeldB w [(gp, #[.int .i64 y0, .int .u32 a, .string yc, .int .i64 y3, .int .i64 y4], 25), (w.heap.size, #[.int .i64 0, .int .u32 0, .string { data := #[] }, .int .i64 0, .int .i64 0], 25)] wx)
      case first =>
        refine wp_region_noPanic ?_
        refine wp_region_held_drew (S := fun wS => HeldB w [(w.heap.size, #[.int .i64 0, .int .u32 0, .string { data := #[] }, .int .i64 0, .int .i64 0], 25)] wS ∧ RowIs wS g (strs [x0, x1, x2, x3, x4])) (by kernel_rfl) (show _ ∧ _ from ⟨H5.out.drew, R5.out.drew⟩) (fun hHeld => ?_)
        refine wpAnyH_take (i := 0) (oi := { dst := some 27, op := Go.Op.move (Go.Operand.tmp 4), type := 45, pos := "ref.go:100", after := #[], guard := none }) (v := ?vp0_0) rfl (by kernel_rfl) (by kernel_rfl) (by kernel_rfl) (fun _ _ _ h => h) (Or.inl ⟨by rfl, ?yp0_0⟩) (by assumption) ?rp0_0
        case yp0_0 => (intro wS hSw; go_simp; try (with_reducible rfl))
        try simp only [Act.put, List.setIfInBounds_toArray, List.set_cons_zero, List.set_cons_succ]
        refine wpAnyH_take (i := 1) (oi := { dst := some 28, op := Go.Op.indexAddr 45 (Go.Operand.tmp 27) (Go.Operand.const (Go.Value.int Go.IntKind.i64 0)), type := 0, pos := "ref.go:100", after := #[{ on := 0, ground := Go.Ground.data }], guard := none }) (v := ?vp1_1) rfl (by kernel_rfl) (by kernel_rfl) (by kernel_rfl) (fun _ _ _ h => h) (Or.inl ⟨by rfl, ?yp1_1⟩) (by assumption) ?rp1_1
        case yp1_1 => (intro wS hSw; go_simp; try (with_reducible rfl))
        try simp only [Act.put, List.setIfInBounds_toArray, List.set_cons_zero, List.set_cons_succ]
        refine wpAnyH_take (i := 2) (oi := { dst := some 29, op := Go.Op.load 9 (Go.Operand.tmp 28), type := 9, pos := "ref.go:100", after := #[{ on := 1, ground := Go.Ground.data }], guard := none }) (v := ?vp2_2) rfl (by kernel_rfl) (by kernel_rfl) (by kernel_rfl) (fun _ _ _ h => h) (Or.inl ⟨by rfl, ?yp2_2⟩) (by assumption) ?rp2_2
        case yp2_2 => (intro wS hSw; have cw := hSw.2.at (j := 0) (v := .string x0) rfl; go_simp; try (with_reducible rfl))
        try simp only [Act.put, List.setIfInBounds_toArray, List.set_cons_zero, List.set_cons_succ]
        refine wpAnyH_takeQ (i := 3) (oi := { dst := some 30, op := Go.Op.call { callee := Go.Callee.value (Go.Operand.func 34), args := #[Go.Operand.tmp 29], argTypes := #[9] }, type := 3, pos := "ref.go:100", after := #[{ on := 2, ground := Go.Ground.data }], guard := none }) (v := .int .i64 y0) rfl (by kernel_rfl) (by kernel_rfl) (by kernel_rfl) (fun _ _ _ h => h) (by rfl) ?cp3_3 (by assumption) ?rp3_3
        case cp3_3 => (intro wS hSw K hK; go_simp; (go_at_call 34; (with_reducible refine (HV0.out _).mono ?_); rintro e w8 ⟨rfl, rfl⟩); go_wp2_with fail; exact hK.out)
        try simp only [Act.put, List.setIfInBounds_toArray, List.set_cons_zero, List.set_cons_succ]
        refine wpAnyH_take (i := 4) (oi := { dst := some 31, op := Go.Op.move (Go.Operand.tmp 5), type := 23, pos := "ref.go:100", after := #[], guard := none }) (v := ?vp4_4) rfl (by kernel_rfl) (by kernel_rfl) (by kernel_rfl) (fun _ _ _ h => h) (Or.inl ⟨by rfl, ?yp4_4⟩) (by assumption) ?rp4_4
        case yp4_4 => (intro wS hSw; go_simp; try (with_reducible rfl))
        try simp only [Act.put, List.setIfInBounds_toArray, List.set_cons_zero, List.set_cons_succ]
        refine wpAnyH_take (i := 5) (oi := { dst := some 32, op := Go.Op.move (Go.Operand.tmp 4), type := 45, pos := "ref.go:100", after := #[], guard := none }) (v := ?vp5_5) rfl (by kernel_rfl) (by kernel_rfl) (by kernel_rfl) (fun _ _ _ h => h) (Or.inl ⟨by rfl, ?yp5_5⟩) (by assumption) ?rp5_5
        case yp5_5 => (intro wS hSw; go_simp; try (with_reducible rfl))
        try simp only [Act.put, List.setIfInBounds_toArray, List.set_cons_zero, List.set_cons_succ]
        refine wpAnyH_take (i := 6) (oi := { dst := some 33, op := Go.Op.indexAddr 45 (Go.Operand.tmp 32) (Go.Operand.const (Go.Value.int Go.IntKind.i64 2)), type := 0, pos := "ref.go:100", after := #[{ on := 5, ground := Go.Ground.data }], guard := none }) (v := ?vp6_6) rfl (by kernel_rfl) (by kernel_rfl) (by kernel_rfl) (fun _ _ _ h => h) (Or.inl ⟨by rfl, ?yp6_6⟩) (by assumption) ?rp6_6
        case yp6_6 => (intro wS hSw; go_simp; try (with_reducible rfl))
        try simp only [Act.put, List.setIfInBounds_toArray, List.set_cons_zero, List.set_cons_succ]
        refine wpAnyH_take (i := 7) (oi := { dst := some 34, op := Go.Op.load 9 (Go.Operand.tmp 33), type := 9, pos := "ref.go:100", after := #[{ on := 6, ground := Go.Ground.data }], guard := none }) (v := ?vp7_7) rfl (by kernel_rfl) (by kernel_rfl) (by kernel_rfl) (fun _ _ _ h => h) (Or.inl ⟨by rfl, ?yp7_7⟩) (by assumption) ?rp7_7
        case yp7_7 => (intro wS hSw; have cw := hSw.2.at (j := 2) (v := .string x2) rfl; go_simp; try (with_reducible rfl))
        try simp only [Act.put, List.setIfInBounds_toArray, List.set_cons_zero, List.set_cons_succ]
        refine wpAnyH_take (i := 9) (oi := { dst := some 36, op := Go.Op.move (Go.Operand.tmp 4), type := 45, pos := "ref.go:100", after := #[], guard := none }) (v := ?vp9_8) rfl (by kernel_rfl) (by kernel_rfl) (by kernel_rfl) (fun _ _ _ h => h) (Or.inl ⟨by rfl, ?yp9_8⟩) (by assumption) ?rp9_8
        case yp9_8 => (intro wS hSw; go_simp; try (with_reducible rfl))
        try simp only [Act.put, List.setIfInBounds_toArray, List.set_cons_zero, List.set_cons_succ]
        refine wpAnyH_take (i := 10) (oi := { dst := some 37, op := Go.Op.indexAddr 45 (Go.Operand.tmp 36) (Go.Operand.const (Go.Value.int Go.IntKind.i64 3)), type := 0, pos := "ref.go:100", after := #[{ on := 9, ground := Go.Ground.data }], guard := none }) (v := ?vp10_9) rfl (by kernel_rfl) (by kernel_rfl) (by kernel_rfl) (fun _ _ _ h => h) (Or.inl ⟨by rfl, ?yp10_9⟩) (by assumption) ?rp10_9
        case yp10_9 => (intro wS hSw; go_simp; try (with_reducible rfl))
        try simp only [Act.put, List.setIfInBounds_toArray, List.set_cons_zero, List.set_cons_succ]
        refine wpAnyH_take (i := 11) (oi := { dst := some 38, op := Go.Op.load 9 (Go.Operand.tmp 37), type := 9, pos := "ref.go:100", after := #[{ on := 10, ground := Go.Ground.data }], guard := none }) (v := ?vp11_10) rfl (by kernel_rfl) (by kernel_rfl) (by kernel_rfl) (fun _ _ _ h => h) (Or.inl ⟨by rfl, ?yp11_10⟩) (by assumption) ?rp11_10
        case yp11_10 => (intro wS hSw; have cw := hSw.2.at (j := 3) (v := .string x3) rfl; go_simp; try (with_reducible rfl))
        try simp only [Act.put, List.setIfInBounds_toArray, List.set_cons_zero, List.set_cons_succ]
        refine wpAnyH_take (i := 13) (oi := { dst := some 40, op := Go.Op.move (Go.Operand.tmp 4), type := 45, pos := "ref.go:100", after := #[], guard := none }) (v := ?vp13_11) rfl (by kernel_rfl) (by kernel_rfl) (by kernel_rfl) (fun _ _ _ h => h) (Or.inl ⟨by rfl, ?yp13_11⟩) (by assumption) ?rp13_11
        case yp13_11 => (intro wS hSw; go_simp; try (with_reducible rfl))
        try simp only [Act.put, List.setIfInBounds_toArray, List.set_cons_zero, List.set_cons_succ]
        refine wpAnyH_take (i := 14) (oi := { dst := some 41, op := Go.Op.indexAddr 45 (Go.Operand.tmp 40) (Go.Operand.const (Go.Value.int Go.IntKind.i64 4)), type := 0, pos := "ref.go:100", after := #[{ on := 13, ground := Go.Ground.data }], guard := none }) (v := ?vp14_12) rfl (by kernel_rfl) (by kernel_rfl) (by kernel_rfl) (fun _ _ _ h => h) (Or.inl ⟨by rfl, ?yp14_12⟩) (by assumption) ?rp14_12
        case yp14_12 => (intro wS hSw; go_simp; try (with_reducible rfl))
        try simp only [Act.put, List.setIfInBounds_toArray, List.set_cons_zero, List.set_cons_succ]
        refine wpAnyH_take (i := 15) (oi := { dst := some 42, op := Go.Op.load 9 (Go.Operand.tmp 41), type := 9, pos := "ref.go:100", after := #[{ on := 14, ground := Go.Ground.data }], guard := none }) (v := ?vp15_13) rfl (by kernel_rfl) (by kernel_rfl) (by kernel_rfl) (fun _ _ _ h => h) (Or.inl ⟨by rfl, ?yp15_13⟩) (by assumption) ?rp15_13
        case yp15_13 => (intro wS hSw; have cw := hSw.2.at (j := 4) (v := .string x4) rfl; go_simp; try (with_reducible rfl))
        try simp only [Act.put, List.setIfInBounds_toArray, List.set_cons_zero, List.set_cons_succ]
        refine wpAnyH_ready (rs := [8, 18]) (by kernel_rfl) (by simp) ?_
        refine AllReadyH.cons (o := { dst := some 35, op := Go.Op.call { callee := Go.Callee.value (Go.Operand.func 35), args := #[Go.Operand.tmp 34], argTypes := #[9] }, type := 9, pos := "ref.go:100", after := #[{ on := 7, ground := Go.Ground.data }, { on := 3, ground := Go.Ground.chain }], guard := none }) rfl (fun K hK => ?_) ?_
        · go_simp
          (go_at_call 35; (with_reducible refine (HVC.out _).mono ?_); rintro e w2 ⟨rfl, hx⟩)
          go_wp2_with fail
          refine hK.out _ _ ⟨hHeld.1.keep hx, hHeld.2.keep hx⟩ (fun hHeld => ?_)
          clear hK K
          have hgl := Lib.hid (show w.heap.size < w2.heap.size from hHeld.1.b0.lt)
          clear hx
          try simp only [Act.put, List.setIfInBounds_toArray, List.set_cons_zero, List.set_cons_succ]
          refine wpAnyH_takeQ (i := 12) (oi := { dst := some 39, op := Go.Op.call { callee := Go.Callee.value (Go.Operand.func 34), args := #[Go.Operand.tmp 38], argTypes := #[9] }, type := 3, pos := "ref.go:100", after := #[{ on := 11, ground := Go.Ground.data }, { on := 8, ground := Go.Ground.chain }], guard := none }) (v := .int .i64 y3) rfl (by kernel_rfl) (by kernel_rfl) (by kernel_rfl) (fun _ _ _ h => h) (by rfl) ?cp12_14 (by assumption) ?rp12_14
          case cp12_14 => (intro wS hSw K hK; go_simp; (go_at_call 34; (with_reducible refine (HV3.out _).mono ?_); rintro e w8 ⟨rfl, rfl⟩); go_wp2_with fail; exact hK.out)
          try simp only [Act.put, List.setIfInBounds_toArray, List.set_cons_zero, List.set_cons_succ]
          refine wpAnyH_takeQ (i := 16) (oi := { dst := some 43, op := Go.Op.call { callee := Go.Callee.value (Go.Operand.func 34), args := #[Go.Operand.tmp 42], argTypes := #[9] }, type := 3, pos := "ref.go:100", after := #[{ on := 15, ground := Go.Ground.data }, { on := 12, ground := Go.Ground.chain }], guard := none }) (v := .int .i64 y4) rfl (by kernel_rfl) (by kernel_rfl) (by kernel_rfl) (fun _ _ _ h => h) (by rfl) ?cp16_15 (by assumption) ?rp16_15
          case cp16_15 => (intro wS hSw K hK; go_simp; (go_at_call 34; (with_reducible refine (HV4.out _).mono ?_); rintro e w8 ⟨rfl, rfl⟩); go_wp2_with fail; exact hK.out)
          try simp only [Act.put, List.setIfInBounds_toArray, List.set_cons_zero, List.set_cons_succ]
          refine wpAnyH_take (i := 17) (oi := { dst := some 44, op := Go.Op.build 25 #[(0, Go.Operand.tmp 30), (1, Go.Operand.tmp 31), (2, Go.Operand.tmp 35), (3, Go.Operand.tmp 39), (4, Go.Operand.tmp 43)], type := 25, pos := "ref.go:100", after := #[{ on := 3, ground := Go.Ground.data }, { on := 4, ground := Go.Ground.data }, { on := 8, ground := Go.Ground.data }, { on := 12, ground := Go.Ground.data }, { on := 16, ground := Go.Ground.data }], guard := none }) (v := ?vp17_16) rfl (by kernel_rfl) (by kernel_rfl) (by kernel_rfl) (fun _ _ _ h => h) (Or.inl ⟨by rfl, ?yp17_16⟩) (by assumption) ?rp17_16
          case yp17_16 => (intro wS hSw; go_simp; try (with_reducible rfl))
          try simp only [Act.put, List.setIfInBounds_toArray, List.set_cons_zero, List.set_cons_succ]
          refine wpAnyH_ready (rs := [18]) (by kernel_rfl) (by simp) ?_
          refine AllReadyH.cons (o := { dst := some 7, op := Go.Op.alloc 25, type := 0, pos := "ref.go:100", after := #[], guard := none }) rfl (fun K hK => ?_) AllReadyH.nil
          have HGG := Lib.hid (show g ≠ w2.heap.size from Nat.ne_of_lt hHeld.2.1)
          go_simp
          refine hK.out _ _ ⟨hHeld.1.alloc (.cells #[.int .i64 0, .int .u32 0, .string { data := #[] }, .int .i64 0, .int .i64 0] 25), hHeld.2.alloc (.cells #[.int .i64 0, .int .u32 0, .string { data := #[] }, .int .i64 0, .int .i64 0] 25)⟩ (fun hHeld => ?_)
          clear hK K
          have HB := Lib.hid (show Blk (w2.alloc (.cells #[.int .i64 0, .int .u32 0, .string { data := #[] }, .int .i64 0, .int .i64 0] 25)) w2.heap.size #[.int .i64 0, .int .u32 0, .string { data := #[] }, .int .i64 0, .int .i64 0] 25 from Blk.new w2 #[.int .i64 0, .int .u32 0, .string { data := #[] }, .int .i64 0, .int .i64 0] 25)
          generalize (w2.alloc (.cells #[.int .i64 0, .int .u32 0, .string { data := #[] }, .int .i64 0, .int .i64 0] 25)) = w3 at *
          generalize w2.heap.size = g3 at *
          try simp only [Act.put, List.setIfInBounds_toArray, List.set_cons_zero, List.set_cons_succ]
          refine wpAnyH_ready (rs := [19]) (by kernel_rfl) (by simp) ?_
          refine AllReadyH.cons (o := { dst := none, op := Go.Op.store 25 (Go.Operand.tmp 7) (Go.Operand.tmp 44), type := 0, pos := "ref.go:100", after := #[{ on := 18, ground := Go.Ground.data }, { on := 17, ground := Go.Ground.data }, { on := 16, ground := Go.Ground.chain }, { on := 0, ground := Go.Ground.phase }, { on := 1, ground := Go.Ground.phase }, { on := 2, ground := Go.Ground.phase }, { on := 3, ground := Go.Ground.phase }, { on := 4, ground := Go.Ground.phase }, { on := 5, ground := Go.Ground.phase }, { on := 6, ground := Go.Ground.phase }, { on := 7, ground := Go.Ground.phase }, { on := 8, ground := Go.Ground.phase }, { on := 9, ground := Go.Ground.phase }, { on := 10, ground := Go.Ground.phase }, { on := 11, ground := Go.Ground.phase }, { on := 12, ground := Go.Ground.phase }, { on := 13, ground := Go.Ground.phase }, { on := 14, ground := Go.Ground.phase }, { on := 15, ground := Go.Ground.phase }, { on := 16, ground := Go.Ground.phase }, { on := 17, ground := Go.Ground.phase }, { on := 18, ground := Go.Ground.phase }], guard := none }) rfl (fun K hK => ?_) AllReadyH.nil
          have HC := Lib.hid (hHeld.1.cons HB.out)
          have hgo := hgl.out
          obtain ⟨z0, z1, z2, z3, z4⟩ := HB.out.cells5
          have zf := HB.out.free
          have HD := HC.out.set5 (by omega) (by intro p hp; simp at hp; rcases hp with rfl; (simp; omega)) (.int .i64 y0) (.int .u32 a) (.string yc) (.int .i64 y3) (.int .i64 y4)
          have HE := Lib.hid HD
          clear HD
          go_simp
          refine hK.out _ _ ⟨HE.out.tl, row_set5 hHeld.2 HGG.out _ _ _ _ _⟩ (fun hHeld => ?_)
          clear hK K
          try simp only [Act.put, List.setIfInBounds_toArray, List.set_cons_zero, List.set_cons_succ]
          refine wpAnyH_done (by kernel_rfl) ?_ _
          refine NoPanic.normal ?_
          go_wp2_with fail
          go_meet
          exact ⟨g3, rfl, hgl.out, HE.out⟩
        refine AllReadyH.cons (o := { dst := some 7, op := Go.Op.alloc 25, type := 0, pos := "ref.go:100", after := #[], guard := none }) rfl (fun K hK => ?_) ?_
        · have HGG := Lib.hid (show g ≠ w5.heap.size from Nat.ne_of_lt hHeld.2.1)
          go_simp
          refine hK.out _ _ ⟨hHeld.1.alloc (.cells #[.int .i64 0, .int .u32 0, .string { data := #[] }, .int .i64 0, .int .i64 0] 25), hHeld.2.alloc (.cells #[.int .i64 0, .int .u32 0, .string { data := #[] }, .int .i64 0, .int .i64 0] 25)⟩ (fun hHeld => ?_)
          clear hK K
          have HB := Lib.hid (show Blk (w5.drew.alloc (.cells #[.int .i64 0, .int .u32 0, .string { data := #[] }, .int .i64 0, .int .i64 0] 25)) w5.heap.size #[.int .i64 0, .int .u32 0, .string { data := #[] }, .int .i64 0, .int .i64 0] 25 from Blk.new w5.drew #[.int .i64 0, .int .u32 0, .string { data := #[] }, .int .i64 0, .int .i64 0] 25)
          have hgl := Lib.hid (show w.heap.size < w5.heap.size from H5.out.b0.lt)
          generalize w5.heap.size = g3 at *
          try simp only [Act.put, List.setIfInBounds_toArray, List.set_cons_zero, List.set_cons_succ]
          refine wpAnyH_ready (rs := [8]) (by kernel_rfl) (by simp) ?_
          refine AllReadyH.cons (o := { dst := some 35, op := Go.Op.call { callee := Go.Callee.value (Go.Operand.func 35), args := #[Go.Operand.tmp 34], argTypes := #[9] }, type := 9, pos := "ref.go:100", after := #[{ on := 7, ground := Go.Ground.data }, { on := 3, ground := Go.Ground.chain }], guard := none }) rfl (fun K hK => ?_) AllReadyH.nil
          go_simp
          (go_at_call 35; (with_reducible refine (HVC.out _).mono ?_); rintro e w2 ⟨rfl, hx⟩)
          go_wp2_with fail
          refine hK.out _ _ ⟨hHeld.1.keep hx, hHeld.2.keep hx⟩ (fun hHeld => ?_)
          clear hK K
          have HB := Lib.hid (HB.out.keep hx)
          clear hx
          generalize w2 = w3 at *
          try simp only [Act.put, List.setIfInBounds_toArray, List.set_cons_zero, List.set_cons_succ]
          refine wpAnyH_takeQ (i := 12) (oi := { dst := some 39, op := Go.Op.call { callee := Go.Callee.value (Go.Operand.func 34), args := #[Go.Operand.tmp 38], argTypes := #[9] }, type := 3, pos := "ref.go:100", after := #[{ on := 11, ground := Go.Ground.data }, { on := 8, ground := Go.Ground.chain }], guard := none }) (v := .int .i64 y3) rfl (by kernel_rfl) (by kernel_rfl) (by kernel_rfl) (fun _ _ _ h => h) (by rfl) ?cp12_17 (by assumption) ?rp12_17
          case cp12_17 => (intro wS hSw K hK; go_simp; (go_at_call 34; (with_reducible refine (HV3.out _).mono ?_); rintro e w8 ⟨rfl, rfl⟩); go_wp2_with fail; exact hK.out)
          try simp only [Act.put, List.setIfInBounds_toArray, List.set_cons_zero, List.set_cons_succ]
          refine wpAnyH_takeQ (i := 16) (oi := { dst := some 43, op := Go.Op.call { callee := Go.Callee.value (Go.Operand.func 34), args := #[Go.Operand.tmp 42], argTypes := #[9] }, type := 3, pos := "ref.go:100", after := #[{ on := 15, ground := Go.Ground.data }, { on := 12, ground := Go.Ground.chain }], guard := none }) (v := .int .i64 y4) rfl (by kernel_rfl) (by kernel_rfl) (by kernel_rfl) (fun _ _ _ h => h) (by rfl) ?cp16_18 (by assumption) ?rp16_18
          case cp16_18 => (intro wS hSw K hK; go_simp; (go_at_call 34; (with_reducible refine (HV4.out _).mono ?_); rintro e w8 ⟨rfl, rfl⟩); go_wp2_with fail; exact hK.out)
          try simp only [Act.put, List.setIfInBounds_toArray, List.set_cons_zero, List.set_cons_succ]
          refine wpAnyH_take (i := 17) (oi := { dst := some 44, op := Go.Op.build 25 #[(0, Go.Operand.tmp 30), (1, Go.Operand.tmp 31), (2, Go.Operand.tmp 35), (3, Go.Operand.tmp 39), (4, Go.Operand.tmp 43)], type := 25, pos := "ref.go:100", after := #[{ on := 3, ground := Go.Ground.data }, { on := 4, ground := Go.Ground.data }, { on := 8, ground := Go.Ground.data }, { on := 12, ground := Go.Ground.data }, { on := 16, ground := Go.Ground.data }], guard := none }) (v := ?vp17_19) rfl (by kernel_rfl) (by kernel_rfl) (by kernel_rfl) (fun _ _ _ h => h) (Or.inl ⟨by rfl, ?yp17_19⟩) (by assumption) ?rp17_19
          case yp17_19 => (intro wS hSw; go_simp; try (with_reducible rfl))
          try simp only [Act.put, List.setIfInBounds_toArray, List.set_cons_zero, List.set_cons_succ]
          refine wpAnyH_ready (rs := [19]) (by kernel_rfl) (by simp) ?_
          refine AllReadyH.cons (o := { dst := none, op := Go.Op.store 25 (Go.Operand.tmp 7) (Go.Operand.tmp 44), type := 0, pos := "ref.go:100", after := #[{ on := 18, ground := Go.Ground.data }, { on := 17, ground := Go.Ground.data }, { on := 16, ground := Go.Ground.chain }, { on := 0, ground := Go.Ground.phase }, { on := 1, ground := Go.Ground.phase }, { on := 2, ground := Go.Ground.phase }, { on := 3, ground := Go.Ground.phase }, { on := 4, ground := Go.Ground.phase }, { on := 5, ground := Go.Ground.phase }, { on := 6, ground := Go.Ground.phase }, { on := 7, ground := Go.Ground.phase }, { on := 8, ground := Go.Ground.phase }, { on := 9, ground := Go.Ground.phase }, { on := 10, ground := Go.Ground.phase }, { on := 11, ground := Go.Ground.phase }, { on := 12, ground := Go.Ground.phase }, { on := 13, ground := Go.Ground.phase }, { on := 14, ground := Go.Ground.phase }, { on := 15, ground := Go.Ground.phase }, { on := 16, ground := Go.Ground.phase }, { on := 17, ground := Go.Ground.phase }, { on := 18, ground := Go.Ground.phase }], guard := none }) rfl (fun K hK => ?_) AllReadyH.nil
          have HC := Lib.hid (hHeld.1.cons HB.out)
          have hgo := hgl.out
          obtain ⟨z0, z1, z2, z3, z4⟩ := HB.out.cells5
          have zf := HB.out.free
          have HD := HC.out.set5 (by omega) (by intro p hp; simp at hp; rcases hp with rfl; (simp; omega)) (.int .i64 y0) (.int .u32 a) (.string yc) (.int .i64 y3) (.int .i64 y4)
          have HE := Lib.hid HD
          clear HD
          go_simp
          refine hK.out _ _ ⟨HE.out.tl, row_set5 hHeld.2 HGG.out _ _ _ _ _⟩ (fun hHeld => ?_)
          clear hK K
          try simp only [Act.put, List.setIfInBounds_toArray, List.set_cons_zero, List.set_cons_succ]
          refine wpAnyH_done (by kernel_rfl) ?_ _
          refine NoPanic.normal ?_
          go_wp2_with fail
          go_meet
          exact ⟨g3, rfl, hgl.out, HE.out⟩
        exact AllReadyH.nil
      case rest =>
        obtain ⟨gp, rfl, hgl, hh⟩ := hcut
        have H8 := Lib.hid hh
        clear hh H0 H1 H5 R5 HRW
        obtain ⟨yy0_0, yy0_1, yy0_2, yy0_3, yy0_4⟩ := (H8.out).b0.cells5; obtain ⟨yy1_0, yy1_1, yy1_2, yy1_3, yy1_4⟩ := (H8.out).tl.b0.cells5
        have HPA := Lib.hid (HP.out a)
        by_cases hr : rightPr ⟨y0, a, yc, y3, y4⟩
        · have HR := Lib.hid hr
          clear hr
          by_cases hs : lineB ⟨y0, a, yc, y3, y4⟩ = s
          · have b1 := str_eqb hs
            have b2 := str_eqb' hs
            have HL := Lib.hid (ParseOf.ref (p := ⟨y0, a, yc, y3, y4⟩) HR.out (by simp only; omega) (by simp only; omega) hs.symm)
            clear hs
            go_wp2_with (go_at_call 9; (with_reducible refine (rline_yes y0 a yc y3 y4 HR.out ha4 _).mono ?_); rintro e w9 ⟨rfl, hx⟩; have H9 := Lib.hid (H8.out.keep hx); clear hx; obtain ⟨z0_0, z0_1, z0_2, z0_3, z0_4⟩ := (H9.out).b0.cells5; have zf0 := (H9.out).b0.free; obtain ⟨z1_0, z1_1, z1_2, z1_3, z1_4⟩ := (H9.out).tl.b0.cells5; have zf1 := (H9.out).tl.b0.free)
            refine bodyPost_ret (v := .tuple #[.agg #[.int .i64 y0, .int .u32 a, .string yc, .int .i64 y3, .int .i64 y4], .int .i64 0]) (by simp [results, Tryd.results11, go_sem, z0_0, z1_0, z0_1, z1_1, z0_2, z1_2, z0_3, z1_3, z0_4, z1_4]) rfl ?_
            exact ⟨(⟨y0, a, yc, y3, y4⟩, 0), rfl, HL.out, by first | exact H9.out.2 | exact below5 H9.out.2 (by omega) _ _ _ _ _⟩
          · have b1 := str_ne hs
            have b2 := str_ne' hs
            have HL := Lib.hid (ParseOf.noref HW1.out HA.out (fun h => hs (by rw [h.2, ← HPA.out])))
            clear hs
            go_wp2_with (go_at_call 9; (with_reducible refine (rline_yes y0 a yc y3 y4 HR.out ha4 _).mono ?_); rintro e w9 ⟨rfl, hx⟩; have H9 := Lib.hid (H8.out.keep hx); clear hx; obtain ⟨z0_0, z0_1, z0_2, z0_3, z0_4⟩ := (H9.out).b0.cells5; have zf0 := (H9.out).b0.free; obtain ⟨z1_0, z1_1, z1_2, z1_3, z1_4⟩ := (H9.out).tl.b0.cells5; have zf1 := (H9.out).tl.b0.free)
            refine bodyPost_ret (v := .tuple #[.agg #[.int .i64 0, .int .u32 0, .string { data := #[] }, .int .i64 0, .int .i64 0], .int .i64 2]) (by simp [results, Tryd.results11, go_sem, z0_0, z1_0, z0_1, z1_1, z0_2, z1_2, z0_3, z1_3, z0_4, z1_4]) rfl ?_
            exact ⟨(zeroPr, 2), rfl, HL.out, by first | exact H9.out.2 | exact below5 H9.out.2 (by omega) _ _ _ _ _⟩
        · have HR := Lib.hid hr
          clear hr
          have HL := Lib.hid (ParseOf.noref HW1.out HA.out (fun h => HR.out (by rw [← HPA.out]; exact h.1)))
          go_wp2_with (go_at_call 9; (with_reducible refine (rline_no y0 a yc y3 y4 HR.out _).mono ?_); rintro e w9 ⟨rfl, hx⟩; have H9 := Lib.hid (H8.out.keep hx); clear hx; obtain ⟨z0_0, z0_1, z0_2, z0_3, z0_4⟩ := (H9.out).b0.cells5; have zf0 := (H9.out).b0.free; obtain ⟨z1_0, z1_1, z1_2, z1_3, z1_4⟩ := (H9.out).tl.b0.cells5; have zf1 := (H9.out).tl.b0.free)
          refine bodyPost_ret (v := .tuple #[.agg #[.int .i64 0, .int .u32 0, .string { data := #[] }, .int .i64 0, .int .i64 0], .int .i64 2]) (by simp [results, Tryd.results11, go_sem, z0_0, z1_0, z0_1, z1_1, z0_2, z1_2, z0_3, z1_3, z0_4, z1_4]) rfl ?_
          exact ⟨(zeroPr, 2), rfl, HL.out, by first | exact H9.out.2 | exact below5 H9.out.2 (by omega) _ _ _ _ _⟩
    · have HL := Lib.hid (ParseOf.few HW1.out h5)
      have h5i : ((ws.length : Int) != 5) = true := by simp; omega
      obtain ⟨z0_0, z0_1, z0_2, z0_3, z0_4⟩ := (H1.out).b0.cells5; have zf0 := (H1.out).b0.free
      go_simp
      go_wp2
      refine bodyPost_ret (v := .tuple #[.agg #[.int .i64 0, .int .u32 0, .string { data := #[] }, .int .i64 0, .int .i64 0], .int .i64 2]) (by simp [results, Tryd.results11, go_sem, z0_0, z0_1, z0_2, z0_3, z0_4]) rfl ?_
      exact ⟨(zeroPr, 2), rfl, HL.out, by first | exact H1.out.2 | exact below5 H1.out.2 (by omega) _ _ _ _ _⟩

end Go.Proofs.YtodjeidofgbdlaaDoor
