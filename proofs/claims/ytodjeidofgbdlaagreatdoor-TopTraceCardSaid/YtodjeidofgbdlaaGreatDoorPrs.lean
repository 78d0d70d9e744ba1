/- A promise out of its line. -/
import Derived.Test.YtodjeidofgbdlaaGreatDoorNum
import Derived.Test.YtodjeidofgbdlaaGreatDoorRpa
namespace Go.Proofs.YtodjeidofgbdlaaGreatDoor
open Go.ChangeShapes Go.WideShapes Go.ChangeAt Go.RowKit
set_option linter.unusedVariables false
set_option linter.unusedSimpArgs false

def progP (x2 : ByteArray) (n0 a n3 n4 : Int) : Pr := ⟨n0, a, bl (unhexL x2.data.toList), n3, n4⟩
theorem prog_is {s x0 x1 x2 x3 x4 : ByteArray} {q : Pr} {r : Int × Int} (hq : rightPr q) (h0 : 0 ≤ q.adr) (h1 : q.adr ≤ 4294967295) (h : s = lineB q) (hw : [x0, x1, x2, x3, x4].map (·.data.toList) = cutsL 32 s.data.toList) (ha : AddrOf x1 r) :
    progP x2 (numOf x0).1 r.1 (numOf x3).1 (numOf x4).1 = q ∧ (numOf x0).2 = true ∧ (numOf x3).2 = true ∧ (numOf x4).2 = true ∧ r.2 = 0 := by
  have e := line_words h hw
  simp only [List.map_cons, List.map_nil, List.cons.injEq, and_true] at e
  obtain ⟨e0, e1, e2, e3, e4⟩ := e
  have hr := ha.of (a := q.adr.toNat) (by omega) e1
  obtain ⟨⟨g1, g2⟩, _, g3, g4, g5⟩ := hq
  unfold progP
  rw [numOf_dec (by omega) e0, numOf_dec (by omega) e3, numOf_dec (by omega) e4, e2, unhex_hex, hr, bl_of]
  obtain ⟨a1, a2, a3, a4, a5⟩ := q
  simp only at *
  refine ⟨?_, trivial, trivial, trivial, trivial⟩
  congr 1 <;> omega
theorem ParseOf.noprog {s x0 x1 x2 x3 x4 : ByteArray} {r1 r2 n0 n3 n4 : Int} {k0 k3 k4 : Bool} (hw : [x0, x1, x2, x3, x4].map (·.data.toList) = cutsL 32 s.data.toList) (ha : AddrOf x1 (r1, r2)) (h0 : numOf x0 = (n0, k0)) (h3 : numOf x3 = (n3, k3)) (h4 : numOf x4 = (n4, k4))
    (h : ¬ ((k0 = true ∧ k3 = true ∧ k4 = true) ∧ r2 = 0 ∧ rightPr (progP x2 n0 r1 n3 n4) ∧ s = lineB (progP x2 n0 r1 n3 n4))) : ParseOf s (zeroPr, 2) := .inr ⟨(fun p hp g0 g1 e => h (by
  have := prog_is hp g0 g1 e hw ha
  rw [h0, h3, h4] at this
  simp only at this
  obtain ⟨e1, e2, e3, e4, e5⟩ := this
  exact ⟨⟨e2, e3, e4⟩, e5, by rw [e1]; exact hp, by rw [e1]; exact e⟩)), rfl⟩
theorem AddrOf.two {s : ByteArray} {r : Int × Int} (h : AddrOf s r) : r.2 = 0 ∨ r.2 = 2 := by
  rcases h with ⟨a, ha, _, rfl⟩ | ⟨_, rfl⟩
  · exact .inl rfl
  · exact .inr rfl
theorem split_any (s : ByteArray) (hs : s.size ≤ 100000) (w : World) (he : Env w) : Calls Tryz.prog 30 #[.string s, .string { data := #[32] }] w fun e w' => ∃ v, ∃ ws : List ByteArray, e = .returned v ∧ v = .slice (some ⟨w.heap.size, 0, none⟩) ws.length ws.length ∧ ws.map (·.data.toList) = cutsL 32 s.data.toList ∧ w' = w.alloc (.cells (strs ws).toArray 9) := by
  obtain ⟨m, hm⟩ := he.len
  have hl := Lib.splitB_all { data := #[32] } (by decide) 0 _ s rfl
  refine (Tryz.strings_Split s { data := #[32] } m w (by omega) hm (by decide)).mono ?_
  rintro e w' ⟨rfl, rfl⟩
  refine ⟨_, _, rfl, by rw [hl], ?_, rfl⟩
  rw [Lib.splitB_data, ← split_cuts]
  rfl
theorem row_new (w : World) (xs : List Value) (t : TypeId) : RowIs (w.alloc (.cells xs.toArray t)) w.heap.size xs :=
  ⟨by simp, fun j hj => by
    have h := (Blk.new w xs.toArray t).cell j
    rw [h]
    simp⟩
theorem HeldB.far {W : World} {gs : List (Nat × Array Value × TypeId)} {w : World} (h : HeldB W gs w) {k : Nat} (hg : W.heap.size ≤ k) (hd : ∀ p ∈ gs, p.1 ≠ k) (i : Nat) (v : Value) : HeldB W gs (w.setCell ⟨k, i, none⟩ v) :=
  ⟨fun p hp => (h.1 p hp).other (hd p hp) i v, h.2.setCell hg v⟩
theorem num_at {s : ByteArray} {n : Int} {k : Bool} (hn : numOf s = (n, k)) (hs : s.size ≤ 100000) (b : Bool) (g : Nat) (w : World) (he : Env w) (hB : Blk w g #[.bool b] 4) :
    Calls Tryz.prog 31 #[.string s, .pointer (some ⟨g, 0, none⟩)] w fun e w' => e = .returned (.int .i64 n) ∧ ∃ w1 bb, Below w.heap.size w w1 ∧ bb = (b && k) ∧ w' = w1.setCell ⟨g, 0, none⟩ (.bool bb) := by
  have h := num_any s (by omega) b g w he hB.cells1 (hB.free 0)
  rw [hn] at h
  refine h.mono ?_
  rintro e w' ⟨rfl, w1, h1, rfl⟩
  exact ⟨rfl, w1, _, h1, rfl, rfl⟩

theorem HeldB.bel {W w : World} {gs : List (Nat × Array Value × TypeId)} (h : HeldB W gs w) : Below W.heap.size W w := h.2
theorem blk_set5 {w : World} {g : Nat} {A : Array Value} {t : TypeId} (h : Blk w g A t) {k : Nat} (hk : g ≠ k) (b0 b1 b2 b3 b4 : Value) : Blk (((((w.setCell ⟨k, 0, none⟩ b0).setCell ⟨k, 1, none⟩ b1).setCell ⟨k, 2, none⟩ b2).setCell ⟨k, 3, none⟩ b3).setCell ⟨k, 4, none⟩ b4) g A t :=
  ((((h.other hk 0 b0).other hk 1 b1).other hk 2 b2).other hk 3 b3).other hk 4 b4

set_option maxRecDepth 100000 in
set_option maxHeartbeats 4000000 in
theorem parse_any (s : ByteArray) (hs : s.size ≤ 100000) (w : World) (he : Env w) : Calls Tryz.prog 14 #[.string s] w fun e w' => ∃ r : Pr × Int, e = .returned (.tuple #[r.1.val, .int .i64 r.2]) ∧ ParseOf s r ∧ Below w.heap.size w w' := by
  have H0 := Lib.hid ((HeldB.nil (low0 w (.cells #[.int .i64 0, .int .u32 0, .string { data := #[] }, .int .i64 0, .int .i64 0] 29))).cons (Blk.new w #[.int .i64 0, .int .u32 0, .string { data := #[] }, .int .i64 0, .int .i64 0] 29))
  have HE := Lib.hid he
  have HE1 := Lib.hid (he.alloc (.cells #[.int .i64 0, .int .u32 0, .string { data := #[] }, .int .i64 0, .int .i64 0] 29))
  clear he
  go_enter Tryz.func14, Tryz.ntmps14
  go_wp2_with (go_at_call 30; (with_reducible refine (split_any s hs _ HE1.out).mono ?_); rintro e w1 ⟨v, ws, rfl, hv, hws, hw1⟩; have HV := Lib.hid hv; clear hv; have HW1 := Lib.hid hws; have H1 := Lib.hid (hw1 ▸ H0.out.alloc _ : HeldB w [(w.heap.size, #[.int .i64 0, .int .u32 0, .string { data := #[] }, .int .i64 0, .int .i64 0], 29)] w1); have HRW := Lib.hid (hw1 ▸ row_new _ (strs ws) 9 : RowIs w1 _ (strs ws)); have hsz1 : w1.heap.size = w.heap.size + 2 := (by rw [hw1]; simp); clear hw1 hws)
  have hv := HV.out
  clear HV
  subst hv
  by_cases h5 : ws.length = 5
  · obtain ⟨x0, x1, x2, x3, x4, rfl⟩ := words_five h5
    go_simp
    have zx0 : x0.size ≤ 100000 := by have := word_size HW1.out (x := x0) (by simp); omega
    have zx2 : x2.size ≤ 100000 := by have := word_size HW1.out (x := x2) (by simp); omega
    have zx3 : x3.size ≤ 100000 := by have := word_size HW1.out (x := x3) (by simp); omega
    have zx4 : x4.size ≤ 100000 := by have := word_size HW1.out (x := x4) (by simp); omega
    obtain ⟨⟨n0, k0⟩, hn0⟩ : ∃ r, numOf x0 = r := ⟨_, rfl⟩
    obtain ⟨⟨n3, k3⟩, hn3⟩ : ∃ r, numOf x3 = r := ⟨_, rfl⟩
    obtain ⟨⟨n4, k4⟩, hn4⟩ : ∃ r, numOf x4 = r := ⟨_, rfl⟩
    have HN0 := Lib.hid hn0
    have HN3 := Lib.hid hn3
    have HN4 := Lib.hid hn4
    clear hn0 hn3 hn4
    have H2 := Lib.hid (H1.out.alloc (.cells #[.bool true] 4))
    have R2 := Lib.hid (HRW.out.alloc (.cells #[.bool true] 4))
    have hz0 : (w.alloc (.cells #[.int .i64 0, .int .u32 0, .string { data := #[] }, .int .i64 0, .int .i64 0] 29)).heap.size = w.heap.size + 1 := by simp
    rw [hz0] at R2
    have HFI := Lib.hid (Blk.new w1 #[.bool true] 4)
    rw [hsz1] at HFI
    go_upto_region 6 with (fail)
    generalize w1.alloc _ = w2 at *
    clear H0 H1 HRW hz0 hsz1 h5
    go_cut [7] (fun p wx => ∃ (gp : Nat) (bb : Bool), p = .pointer (some ⟨gp, 0, none⟩) ∧ w.heap.size + 2 < gp ∧ bb = (k0 && (k3 && k4)) ∧ HeldB w [(gp, #[.int .i64 n0, .int .u32 0, .string { data := #[] }, .int .i64 n3, .int .i64 n4], 29), ((w.heap.size + 2), #[.bool bb], 4), (w.heap.size, #[.int .i64 0, .int .u32 0, .string { data := #[] }, .int .i64 0, .int .i64 0], 29)] wx ∧ RowIs wx (w.heap.size + 1) (strs [x0, x1, x2, x3, x4]))
    case first =>
      have HFI := Lib.hid (show Blk w2.drew _ _ _ from HFI.out)
      refine wp_region_noPanic ?_
      refine wp_region_held_drew (S := fun wS => HeldB w [(w.heap.size, #[.int .i64 0, .int .u32 0, .string { data := #[] }, .int .i64 0, .int .i64 0], 29)] wS ∧ RowIs wS (w.heap.size + 1) (strs [x0, x1, x2, x3, x4])) (by kernel_rfl) (show _ ∧ _ from ⟨H2.out.drew, R2.out.drew⟩) (fun hHeld => ?_)
      refine wpAnyH_take (i := 0) (oi := { dst := some 19, op := Go.Op.move (Go.Operand.tmp 6), type := 76, pos := "trace.go:68", after := #[], guard := none }) (v := ?vp0_0) rfl (by kernel_rfl) (by kernel_rfl) (by kernel_rfl) (fun _ _ _ h => h) (Or.inl ⟨by rfl, ?yp0_0⟩) (by assumption) ?rp0_0
      case yp0_0 => (intro wS hSw; go_simp; try (with_reducible rfl))
      try simp only [Act.put, List.setIfInBounds_toArray, List.set_cons_zero, List.set_cons_succ]
      refine wpAnyH_take (i := 1) (oi := { dst := some 20, op := Go.Op.move (Go.Operand.tmp 4), type := 67, pos := "trace.go:68", after := #[], guard := none }) (v := ?vp1_1) rfl (by kernel_rfl) (by kernel_rfl) (by kernel_rfl) (fun _ _ _ h => h) (Or.inl ⟨by rfl, ?yp1_1⟩) (by assumption) ?rp1_1
      case yp1_1 => (intro wS hSw; go_simp; try (with_reducible rfl))
      try simp only [Act.put, List.setIfInBounds_toArray, List.set_cons_zero, List.set_cons_succ]
      refine wpAnyH_take (i := 2) (oi := { dst := some 21, op := Go.Op.indexAddr 67 (Go.Operand.tmp 20) (Go.Operand.const (Go.Value.int Go.IntKind.i64 0)), type := 0, pos := "trace.go:68", after := #[{ on := 1, ground := Go.Ground.data }], guard := none }) (v := ?vp2_2) rfl (by kernel_rfl) (by kernel_rfl) (by kernel_rfl) (fun _ _ _ h => h) (Or.inl ⟨by rfl, ?yp2_2⟩) (by assumption) ?rp2_2
      case yp2_2 => (intro wS hSw; go_simp; try (with_reducible rfl))
      try simp only [Act.put, List.setIfInBounds_toArray, List.set_cons_zero, List.set_cons_succ]
      refine wpAnyH_take (i := 3) (oi := { dst := some 22, op := Go.Op.load 9 (Go.Operand.tmp 21), type := 9, pos := "trace.go:68", after := #[{ on := 2, ground := Go.Ground.data }], guard := none }) (v := ?vp3_3) rfl (by kernel_rfl) (by kernel_rfl) (by kernel_rfl) (fun _ _ _ h => h) (Or.inl ⟨by rfl, ?yp3_3⟩) (by assumption) ?rp3_3
      case yp3_3 => (intro wS hSw; have cw := hSw.2.at (j := 0) (v := .string x0) rfl; go_simp; try (with_reducible rfl))
      try simp only [Act.put, List.setIfInBounds_toArray, List.set_cons_zero, List.set_cons_succ]
      refine wpAnyH_take (i := 5) (oi := { dst := some 24, op := Go.Op.move (Go.Operand.tmp 6), type := 76, pos := "trace.go:68", after := #[], guard := none }) (v := ?vp5_4) rfl (by kernel_rfl) (by kernel_rfl) (by kernel_rfl) (fun _ _ _ h => h) (Or.inl ⟨by rfl, ?yp5_4⟩) (by assumption) ?rp5_4
      case yp5_4 => (intro wS hSw; go_simp; try (with_reducible rfl))
      try simp only [Act.put, List.setIfInBounds_toArray, List.set_cons_zero, List.set_cons_succ]
      refine wpAnyH_take (i := 6) (oi := { dst := some 25, op := Go.Op.move (Go.Operand.tmp 4), type := 67, pos := "trace.go:68", after := #[], guard := none }) (v := ?vp6_5) rfl (by kernel_rfl) (by kernel_rfl) (by kernel_rfl) (fun _ _ _ h => h) (Or.inl ⟨by rfl, ?yp6_5⟩) (by assumption) ?rp6_5
      case yp6_5 => (intro wS hSw; go_simp; try (with_reducible rfl))
      try simp only [Act.put, List.setIfInBounds_toArray, List.set_cons_zero, List.set_cons_succ]
      refine wpAnyH_take (i := 7) (oi := { dst := some 26, op := Go.Op.indexAddr 67 (Go.Operand.tmp 25) (Go.Operand.const (Go.Value.int Go.IntKind.i64 3)), type := 0, pos := "trace.go:68", after := #[{ on := 6, ground := Go.Ground.data }], guard := none }) (v := ?vp7_6) rfl (by kernel_rfl) (by kernel_rfl) (by kernel_rfl) (fun _ _ _ h => h) (Or.inl ⟨by rfl, ?yp7_6⟩) (by assumption) ?rp7_6
      case yp7_6 => (intro wS hSw; go_simp; try (with_reducible rfl))
      try simp only [Act.put, List.setIfInBounds_toArray, List.set_cons_zero, List.set_cons_succ]
      refine wpAnyH_take (i := 8) (oi := { dst := some 27, op := Go.Op.load 9 (Go.Operand.tmp 26), type := 9, pos := "trace.go:68", after := #[{ on := 7, ground := Go.Ground.data }], guard := none }) (v := ?vp8_7) rfl (by kernel_rfl) (by kernel_rfl) (by kernel_rfl) (fun _ _ _ h => h) (Or.inl ⟨by rfl, ?yp8_7⟩) (by assumption) ?rp8_7
      case yp8_7 => (intro wS hSw; have cw := hSw.2.at (j := 3) (v := .string x3) rfl; go_simp; try (with_reducible rfl))
      try simp only [Act.put, List.setIfInBounds_toArray, List.set_cons_zero, List.set_cons_succ]
      refine wpAnyH_take (i := 10) (oi := { dst := some 29, op := Go.Op.move (Go.Operand.tmp 6), type := 76, pos := "trace.go:68", after := #[], guard := none }) (v := ?vp10_8) rfl (by kernel_rfl) (by kernel_rfl) (by kernel_rfl) (fun _ _ _ h => h) (Or.inl ⟨by rfl, ?yp10_8⟩) (by assumption) ?rp10_8
      case yp10_8 => (intro wS hSw; go_simp; try (with_reducible rfl))
      try simp only [Act.put, List.setIfInBounds_toArray, List.set_cons_zero, List.set_cons_succ]
      refine wpAnyH_take (i := 11) (oi := { dst := some 30, op := Go.Op.move (Go.Operand.tmp 4), type := 67, pos := "trace.go:68", after := #[], guard := none }) (v := ?vp11_9) rfl (by kernel_rfl) (by kernel_rfl) (by kernel_rfl) (fun _ _ _ h => h) (Or.inl ⟨by rfl, ?yp11_9⟩) (by assumption) ?rp11_9
      case yp11_9 => (intro wS hSw; go_simp; try (with_reducible rfl))
      try simp only [Act.put, List.setIfInBounds_toArray, List.set_cons_zero, List.set_cons_succ]
      refine wpAnyH_take (i := 12) (oi := { dst := some 31, op := Go.Op.indexAddr 67 (Go.Operand.tmp 30) (Go.Operand.const (Go.Value.int Go.IntKind.i64 4)), type := 0, pos := "trace.go:68", after := #[{ on := 11, ground := Go.Ground.data }], guard := none }) (v := ?vp12_10) rfl (by kernel_rfl) (by kernel_rfl) (by kernel_rfl) (fun _ _ _ h => h) (Or.inl ⟨by rfl, ?yp12_10⟩) (by assumption) ?rp12_10
      case yp12_10 => (intro wS hSw; go_simp; try (with_reducible rfl))
      try simp only [Act.put, List.setIfInBounds_toArray, List.set_cons_zero, List.set_cons_succ]
      refine wpAnyH_take (i := 13) (oi := { dst := some 32, op := Go.Op.load 9 (Go.Operand.tmp 31), type := 9, pos := "trace.go:68", after := #[{ on := 12, ground := Go.Ground.data }], guard := none }) (v := ?vp13_11) rfl (by kernel_rfl) (by kernel_rfl) (by kernel_rfl) (fun _ _ _ h => h) (Or.inl ⟨by rfl, ?yp13_11⟩) (by assumption) ?rp13_11
      case yp13_11 => (intro wS hSw; have cw := hSw.2.at (j := 4) (v := .string x4) rfl; go_simp; try (with_reducible rfl))
      try simp only [Act.put, List.setIfInBounds_toArray, List.set_cons_zero, List.set_cons_succ]
      refine wpAnyH_ready (rs := [4, 16]) (by kernel_rfl) (by simp) ?_
      refine AllReadyH.cons (o := { dst := some 23, op := Go.Op.call { callee := Go.Callee.value (Go.Operand.tmp 19), args := #[Go.Operand.tmp 22], argTypes := #[9] }, type := 3, pos := "trace.go:68", after := #[{ on := 0, ground := Go.Ground.data }, { on := 3, ground := Go.Ground.data }], guard := none }) rfl (fun K hK => ?_) ?_
      · go_simp
        (go_at_call 31; (with_reducible refine (num_at HN0.out zx0 _ _ _ (HE.out.keep hHeld.1.bel) HFI.out).mono ?_); rintro e wr ⟨rfl, wn, bb0, hb, hbb, rfl⟩; have HBB0 := Lib.hid hbb; clear hbb)
        go_wp2_with fail
        have hlt := hHeld.1.b0.lt
        refine hK.out _ _ ⟨(hHeld.1.keep hb).far (k := w.heap.size + 2) (by omega) (by intro p hp; simp at hp; rcases hp with rfl; (simp; done)) 0 (.bool bb0), (hHeld.2.keep hb).set (k := w.heap.size + 2) (by omega) 0 (.bool bb0)⟩ (fun hHeld => ?_)
        clear hK K
        have HFI := Lib.hid ((HFI.out.keep hb).set 0 (.bool bb0))
        simp only [List.setIfInBounds_toArray, List.set_cons_zero] at HFI
        clear hb
        generalize wn.setCell _ _ = wc0 at *
        try simp only [Act.put, List.setIfInBounds_toArray, List.set_cons_zero, List.set_cons_succ]
        refine wpAnyH_ready (rs := [9, 16]) (by kernel_rfl) (by simp) ?_
        refine AllReadyH.cons (o := { dst := some 28, op := Go.Op.call { callee := Go.Callee.value (Go.Operand.tmp 24), args := #[Go.Operand.tmp 27], argTypes := #[9] }, type := 3, pos := "trace.go:68", after := #[{ on := 5, ground := Go.Ground.data }, { on := 8, ground := Go.Ground.data }, { on := 4, ground := Go.Ground.chain }], guard := none }) rfl (fun K hK => ?_) ?_
        · go_simp
          (go_at_call 31; (with_reducible refine (num_at HN3.out zx3 _ _ _ (HE.out.keep hHeld.1.bel) HFI.out).mono ?_); rintro e wr ⟨rfl, wn, bb3, hb, hbb, rfl⟩; have HBB3 := Lib.hid hbb; clear hbb)
          go_wp2_with fail
          have hlt := hHeld.1.b0.lt
          refine hK.out _ _ ⟨(hHeld.1.keep hb).far (k := w.heap.size + 2) (by omega) (by intro p hp; simp at hp; rcases hp with rfl; (simp; done)) 0 (.bool bb3), (hHeld.2.keep hb).set (k := w.heap.size + 2) (by omega) 0 (.bool bb3)⟩ (fun hHeld => ?_)
          clear hK K
          have HFI := Lib.hid ((HFI.out.keep hb).set 0 (.bool bb3))
          simp only [List.setIfInBounds_toArray, List.set_cons_zero] at HFI
          clear hb
          generalize wn.setCell _ _ = wc3 at *
          try simp only [Act.put, List.setIfInBounds_toArray, List.set_cons_zero, List.set_cons_succ]
          refine wpAnyH_ready (rs := [14, 16]) (by kernel_rfl) (by simp) ?_
          refine AllReadyH.cons (o := { dst := some 33, op := Go.Op.call { callee := Go.Callee.value (Go.Operand.tmp 29), args := #[Go.Operand.tmp 32], argTypes := #[9] }, type := 3, pos := "trace.go:68", after := #[{ on := 10, ground := Go.Ground.data }, { on := 13, ground := Go.Ground.data }, { on := 9, ground := Go.Ground.chain }], guard := none }) rfl (fun K hK => ?_) ?_
          · go_simp
            (go_at_call 31; (with_reducible refine (num_at HN4.out zx4 _ _ _ (HE.out.keep hHeld.1.bel) HFI.out).mono ?_); rintro e wr ⟨rfl, wn, bb4, hb, hbb, rfl⟩; have HBB4 := Lib.hid hbb; clear hbb)
            go_wp2_with fail
            have hlt := hHeld.1.b0.lt
            refine hK.out _ _ ⟨(hHeld.1.keep hb).far (k := w.heap.size + 2) (by omega) (by intro p hp; simp at hp; rcases hp with rfl; (simp; done)) 0 (.bool bb4), (hHeld.2.keep hb).set (k := w.heap.size + 2) (by omega) 0 (.bool bb4)⟩ (fun hHeld => ?_)
            clear hK K
            have HFI := Lib.hid ((HFI.out.keep hb).set 0 (.bool bb4))
            simp only [List.setIfInBounds_toArray, List.set_cons_zero] at HFI
            clear hb
            generalize wn.setCell _ _ = wc4 at *
            try simp only [Act.put, List.setIfInBounds_toArray, List.set_cons_zero, List.set_cons_succ]
            refine wpAnyH_take (i := 15) (oi := { dst := some 34, op := Go.Op.build 29 #[(0, Go.Operand.tmp 23), (3, Go.Operand.tmp 28), (4, Go.Operand.tmp 33)], type := 29, pos := "trace.go:68", after := #[{ on := 4, ground := Go.Ground.data }, { on := 9, ground := Go.Ground.data }, { on := 14, ground := Go.Ground.data }], guard := none }) (v := ?vp15_12) rfl (by kernel_rfl) (by kernel_rfl) (by kernel_rfl) (fun _ _ _ h => h) (Or.inl ⟨by rfl, ?yp15_12⟩) (by assumption) ?rp15_12
            case yp15_12 => (intro wS hSw; go_simp; try (with_reducible rfl))
            try simp only [Act.put, List.setIfInBounds_toArray, List.set_cons_zero, List.set_cons_succ]
            refine wpAnyH_ready (rs := [16]) (by kernel_rfl) (by simp) ?_
            refine AllReadyH.cons (o := { dst := some 7, op := Go.Op.alloc 29, type := 0, pos := "trace.go:68", after := #[], guard := none }) rfl (fun K hK => ?_) AllReadyH.nil
            have hgl := Lib.hid (show w.heap.size + 2 < wc4.heap.size from HFI.out.lt)
            go_simp
            refine hK.out _ _ ⟨hHeld.1.alloc (.cells #[.int .i64 0, .int .u32 0, .string { data := #[] }, .int .i64 0, .int .i64 0] 29), hHeld.2.alloc (.cells #[.int .i64 0, .int .u32 0, .string { data := #[] }, .int .i64 0, .int .i64 0] 29)⟩ (fun hHeld => ?_)
            clear hK K
            have HB := Lib.hid (show Blk (wc4.alloc (.cells #[.int .i64 0, .int .u32 0, .string { data := #[] }, .int .i64 0, .int .i64 0] 29)) wc4.heap.size #[.int .i64 0, .int .u32 0, .string { data := #[] }, .int .i64 0, .int .i64 0] 29 from Blk.new wc4 #[.int .i64 0, .int .u32 0, .string { data := #[] }, .int .i64 0, .int .i64 0] 29)
            have HFI := Lib.hid (show Blk (wc4.alloc (.cells #[.int .i64 0, .int .u32 0, .string { data := #[] }, .int .i64 0, .int .i64 0] 29)) _ _ _ from (show Blk wc4 _ _ _ from HFI.out).alloc (.cells #[.int .i64 0, .int .u32 0, .string { data := #[] }, .int .i64 0, .int .i64 0] 29))
            generalize wc4.alloc (.cells #[.int .i64 0, .int .u32 0, .string { data := #[] }, .int .i64 0, .int .i64 0] 29) = wa at *
            generalize wc4.heap.size = g3 at *
            try simp only [Act.put, List.setIfInBounds_toArray, List.set_cons_zero, List.set_cons_succ]
            refine wpAnyH_ready (rs := [17]) (by kernel_rfl) (by simp) ?_
            refine AllReadyH.cons (o := { dst := none, op := Go.Op.store 29 (Go.Operand.tmp 7) (Go.Operand.tmp 34), type := 0, pos := "trace.go:68", after := #[{ on := 16, ground := Go.Ground.data }, { on := 15, ground := Go.Ground.data }, { on := 14, ground := Go.Ground.chain }, { on := 0, ground := Go.Ground.phase }, { on := 1, ground := Go.Ground.phase }, { on := 2, ground := Go.Ground.phase }, { on := 3, ground := Go.Ground.phase }, { on := 4, ground := Go.Ground.phase }, { on := 5, ground := Go.Ground.phase }, { on := 6, ground := Go.Ground.phase }, { on := 7, ground := Go.Ground.phase }, { on := 8, ground := Go.Ground.phase }, { on := 9, ground := Go.Ground.phase }, { on := 10, ground := Go.Ground.phase }, { on := 11, ground := Go.Ground.phase }, { on := 12, ground := Go.Ground.phase }, { on := 13, ground := Go.Ground.phase }, { on := 14, ground := Go.Ground.phase }, { on := 15, ground := Go.Ground.phase }, { on := 16, ground := Go.Ground.phase }], guard := none }) rfl (fun K hK => ?_) AllReadyH.nil
            have HC := Lib.hid (hHeld.1.cons HB.out)
            have hgo := hgl.out
            obtain ⟨z0, z1, z2, z3, z4⟩ := HB.out.cells5
            have zf := HB.out.free
            have HD := HC.out.set5 (by omega) (by intro p hp; simp at hp; rcases hp with rfl; (simp; omega)) (.int .i64 n0) (.int .u32 0) (.string { data := #[] }) (.int .i64 n3) (.int .i64 n4)
            have HDE := Lib.hid HD
            clear HD
            have HFI := Lib.hid (blk_set5 HFI.out (k := g3) (by omega) (.int .i64 n0) (.int .u32 0) (.string { data := #[] }) (.int .i64 n3) (.int .i64 n4))
            go_simp
            refine hK.out _ _ ⟨HDE.out.tl, row_set5 hHeld.2 (by omega) _ _ _ _ _⟩ (fun hHeld => ?_)
            clear hK K
            try simp only [Act.put, List.setIfInBounds_toArray, List.set_cons_zero, List.set_cons_succ]
            refine wpAnyH_done (by kernel_rfl) ?_ _
            refine NoPanic.normal ?_
            go_wp2_with fail
            go_meet
            exact ⟨g3, bb4, rfl, hgl.out, by rw [HBB4.out, HBB3.out, HBB0.out, Bool.true_and, Bool.and_assoc], (HDE.out.tl.cons HFI.out).cons HDE.out.b0, hHeld.2⟩
          refine AllReadyH.cons (o := { dst := some 7, op := Go.Op.alloc 29, type := 0, pos := "trace.go:68", after := #[], guard := none }) rfl (fun K hK => ?_) ?_
          · have hgl := Lib.hid (show w.heap.size + 2 < wc3.heap.size from HFI.out.lt)
            go_simp
            refine hK.out _ _ ⟨hHeld.1.alloc (.cells #[.int .i64 0, .int .u32 0, .string { data := #[] }, .int .i64 0, .int .i64 0] 29), hHeld.2.alloc (.cells #[.int .i64 0, .int .u32 0, .string { data := #[] }, .int .i64 0, .int .i64 0] 29)⟩ (fun hHeld => ?_)
            clear hK K
            have HB := Lib.hid (show Blk (wc3.alloc (.cells #[.int .i64 0, .int .u32 0, .string { data := #[] }, .int .i64 0, .int .i64 0] 29)) wc3.heap.size #[.int .i64 0, .int .u32 0, .string { data := #[] }, .int .i64 0, .int .i64 0] 29 from Blk.new wc3 #[.int .i64 0, .int .u32 0, .string { data := #[] }, .int .i64 0, .int .i64 0] 29)
            have HFI := Lib.hid (show Blk (wc3.alloc (.cells #[.int .i64 0, .int .u32 0, .string { data := #[] }, .int .i64 0, .int .i64 0] 29)) _ _ _ from (show Blk wc3 _ _ _ from HFI.out).alloc (.cells #[.int .i64 0, .int .u32 0, .string { data := #[] }, .int .i64 0, .int .i64 0] 29))
            generalize wc3.alloc (.cells #[.int .i64 0, .int .u32 0, .string { data := #[] }, .int .i64 0, .int .i64 0] 29) = wa at *
            generalize wc3.heap.size = g3 at *
            try simp only [Act.put, List.setIfInBounds_toArray, List.set_cons_zero, List.set_cons_succ]
            refine wpAnyH_ready (rs := [14]) (by kernel_rfl) (by simp) ?_
            refine AllReadyH.cons (o := { dst := some 33, op := Go.Op.call { callee := Go.Callee.value (Go.Operand.tmp 29), args := #[Go.Operand.tmp 32], argTypes := #[9] }, type := 3, pos := "trace.go:68", after := #[{ on := 10, ground := Go.Ground.data }, { on := 13, ground := Go.Ground.data }, { on := 9, ground := Go.Ground.chain }], guard := none }) rfl (fun K hK => ?_) AllReadyH.nil
            go_simp
            (go_at_call 31; (with_reducible refine (num_at HN4.out zx4 _ _ _ (HE.out.keep hHeld.1.bel) HFI.out).mono ?_); rintro e wr ⟨rfl, wn, bb4, hb, hbb, rfl⟩; have HBB4 := Lib.hid hbb; clear hbb)
            go_wp2_with fail
            have hlt := hHeld.1.b0.lt
            refine hK.out _ _ ⟨(hHeld.1.keep hb).far (k := w.heap.size + 2) (by omega) (by intro p hp; simp at hp; rcases hp with rfl; (simp; done)) 0 (.bool bb4), (hHeld.2.keep hb).set (k := w.heap.size + 2) (by omega) 0 (.bool bb4)⟩ (fun hHeld => ?_)
            clear hK K
            have HFI := Lib.hid ((HFI.out.keep hb).set 0 (.bool bb4))
            simp only [List.setIfInBounds_toArray, List.set_cons_zero] at HFI
            have HB := Lib.hid ((HB.out.keep hb).other (k := w.heap.size + 2) (by have := hgl.out; omega) 0 (.bool bb4))
            clear hb
            generalize wn.setCell _ _ = wc4 at *
            try simp only [Act.put, List.setIfInBounds_toArray, List.set_cons_zero, List.set_cons_succ]
            refine wpAnyH_take (i := 15) (oi := { dst := some 34, op := Go.Op.build 29 #[(0, Go.Operand.tmp 23), (3, Go.Operand.tmp 28), (4, Go.Operand.tmp 33)], type := 29, pos := "trace.go:68", after := #[{ on := 4, ground := Go.Ground.data }, { on := 9, ground := Go.Ground.data }, { on := 14, ground := Go.Ground.data }], guard := none }) (v := ?vp15_13) rfl (by kernel_rfl) (by kernel_rfl) (by kernel_rfl) (fun _ _ _ h => h) (Or.inl ⟨by rfl, ?yp15_13⟩) (by assumption) ?rp15_13
            case yp15_13 => (intro wS hSw; go_simp; try (with_reducible rfl))
            try simp only [Act.put, List.setIfInBounds_toArray, List.set_cons_zero, List.set_cons_succ]
            refine wpAnyH_ready (rs := [17]) (by kernel_rfl) (by simp) ?_
            refine AllReadyH.cons (o := { dst := none, op := Go.Op.store 29 (Go.Operand.tmp 7) (Go.Operand.tmp 34), type := 0, pos := "trace.go:68", after := #[{ on := 16, ground := Go.Ground.data }, { on := 15, ground := Go.Ground.data }, { on := 14, ground := Go.Ground.chain }, { on := 0, ground := Go.Ground.phase }, { on := 1, ground := Go.Ground.phase }, { on := 2, ground := Go.Ground.phase }, { on := 3, ground := Go.Ground.phase }, { on := 4, ground := Go.Ground.phase }, { on := 5, ground := Go.Ground.phase }, { on := 6, ground := Go.Ground.phase }, { on := 7, ground := Go.Ground.phase }, { on := 8, ground := Go.Ground.phase }, { on := 9, ground := Go.Ground.phase }, { on := 10, ground := Go.Ground.phase }, { on := 11, ground := Go.Ground.phase }, { on := 12, ground := Go.Ground.phase }, { on := 13, ground := Go.Ground.phase }, { on := 14, ground := Go.Ground.phase }, { on := 15, ground := Go.Ground.phase }, { on := 16, ground := Go.Ground.phase }], guard := none }) rfl (fun K hK => ?_) AllReadyH.nil
            have HC := Lib.hid (hHeld.1.cons HB.out)
            have hgo := hgl.out
            obtain ⟨z0, z1, z2, z3, z4⟩ := HB.out.cells5
            have zf := HB.out.free
            have HD := HC.out.set5 (by omega) (by intro p hp; simp at hp; rcases hp with rfl; (simp; omega)) (.int .i64 n0) (.int .u32 0) (.string { data := #[] }) (.int .i64 n3) (.int .i64 n4)
            have HDE := Lib.hid HD
            clear HD
            have HFI := Lib.hid (blk_set5 HFI.out (k := g3) (by omega) (.int .i64 n0) (.int .u32 0) (.string { data := #[] }) (.int .i64 n3) (.int .i64 n4))
            go_simp
            refine hK.out _ _ ⟨HDE.out.tl, row_set5 hHeld.2 (by omega) _ _ _ _ _⟩ (fun hHeld => ?_)
            clear hK K
            try simp only [Act.put, List.setIfInBounds_toArray, List.set_cons_zero, List.set_cons_succ]
            refine wpAnyH_done (by kernel_rfl) ?_ _
            refine NoPanic.normal ?_
            go_wp2_with fail
            go_meet
            exact ⟨g3, bb4, rfl, hgl.out, by rw [HBB4.out, HBB3.out, HBB0.out, Bool.true_and, Bool.and_assoc], (HDE.out.tl.cons HFI.out).cons HDE.out.b0, hHeld.2⟩
          exact AllReadyH.nil
        refine AllReadyH.cons (o := { dst := some 7, op := Go.Op.alloc 29, type := 0, pos := "trace.go:68", after := #[], guard := none }) rfl (fun K hK => ?_) ?_
        · have hgl := Lib.hid (show w.heap.size + 2 < wc0.heap.size from HFI.out.lt)
          go_simp
          refine hK.out _ _ ⟨hHeld.1.alloc (.cells #[.int .i64 0, .int .u32 0, .string { data := #[] }, .int .i64 0, .int .i64 0] 29), hHeld.2.alloc (.cells #[.int .i64 0, .int .u32 0, .string { data := #[] }, .int .i64 0, .int .i64 0] 29)⟩ (fun hHeld => ?_)
          clear hK K
          have HB := Lib.hid (show Blk (wc0.alloc (.cells #[.int .i64 0, .int .u32 0, .string { data := #[] }, .int .i64 0, .int .i64 0] 29)) wc0.heap.size #[.int .i64 0, .int .u32 0, .string { data := #[] }, .int .i64 0, .int .i64 0] 29 from Blk.new wc0 #[.int .i64 0, .int .u32 0, .string { data := #[] }, .int .i64 0, .int .i64 0] 29)
          have HFI := Lib.hid (show Blk (wc0.alloc (.cells #[.int .i64 0, .int .u32 0, .string { data := #[] }, .int .i64 0, .int .i64 0] 29)) _ _ _ from (show Blk wc0 _ _ _ from HFI.out).alloc (.cells #[.int .i64 0, .int .u32 0, .string { data := #[] }, .int .i64 0, .int .i64 0] 29))
          generalize wc0.alloc (.cells #[.int .i64 0, .int .u32 0, .string { data := #[] }, .int .i64 0, .int .i64 0] 29) = wa at *
          generalize wc0.heap.size = g3 at *
          try simp only [Act.put, List.setIfInBounds_toArray, List.set_cons_zero, List.set_cons_succ]
          refine wpAnyH_ready (rs := [9]) (by kernel_rfl) (by simp) ?_
          refine AllReadyH.cons (o := { dst := some 28, op := Go.Op.call { callee := Go.Callee.value (Go.Operand.tmp 24), args := #[Go.Operand.tmp 27], argTypes := #[9] }, type := 3, pos := "trace.go:68", after := #[{ on := 5, ground := Go.Ground.data }, { on := 8, ground := Go.Ground.data }, { on := 4, ground := Go.Ground.chain }], guard := none }) rfl (fun K hK => ?_) AllReadyH.nil
          go_simp
          (go_at_call 31; (with_reducible refine (num_at HN3.out zx3 _ _ _ (HE.out.keep hHeld.1.bel) HFI.out).mono ?_); rintro e wr ⟨rfl, wn, bb3, hb, hbb, rfl⟩; have HBB3 := Lib.hid hbb; clear hbb)
          go_wp2_with fail
          have hlt := hHeld.1.b0.lt
          refine hK.out _ _ ⟨(hHeld.1.keep hb).far (k := w.heap.size + 2) (by omega) (by intro p hp; simp at hp; rcases hp with rfl; (simp; done)) 0 (.bool bb3), (hHeld.2.keep hb).set (k := w.heap.size + 2) (by omega) 0 (.bool bb3)⟩ (fun hHeld => ?_)
          clear hK K
          have HFI := Lib.hid ((HFI.out.keep hb).set 0 (.bool bb3))
          simp only [List.setIfInBounds_toArray, List.set_cons_zero] at HFI
          have HB := Lib.hid ((HB.out.keep hb).other (k := w.heap.size + 2) (by have := hgl.out; omega) 0 (.bool bb3))
          clear hb
          generalize wn.setCell _ _ = wc3 at *
          try simp only [Act.put, List.setIfInBounds_toArray, List.set_cons_zero, List.set_cons_succ]
          refine wpAnyH_ready (rs := [14]) (by kernel_rfl) (by simp) ?_
          refine AllReadyH.cons (o := { dst := some 33, op := Go.Op.call { callee := Go.Callee.value (Go.Operand.tmp 29), args := #[Go.Operand.tmp 32], argTypes := #[9] }, type := 3, pos := "trace.go:68", after := #[{ on := 10, ground := Go.Ground.data }, { on := 13, ground := Go.Ground.data }, { on := 9, ground := Go.Ground.chain }], guard := none }) rfl (fun K hK => ?_) AllReadyH.nil
          go_simp
          (go_at_call 31; (with_reducible refine (num_at HN4.out zx4 _ _ _ (HE.out.keep hHeld.1.bel) HFI.out).mono ?_); rintro e wr ⟨rfl, wn, bb4, hb, hbb, rfl⟩; have HBB4 := Lib.hid hbb; clear hbb)
          go_wp2_with fail
          have hlt := hHeld.1.b0.lt
          refine hK.out _ _ ⟨(hHeld.1.keep hb).far (k := w.heap.size + 2) (by omega) (by intro p hp; simp at hp; rcases hp with rfl; (simp; done)) 0 (.bool bb4), (hHeld.2.keep hb).set (k := w.heap.size + 2) (by omega) 0 (.bool bb4)⟩ (fun hHeld => ?_)
          clear hK K
          have HFI := Lib.hid ((HFI.out.keep hb).set 0 (.bool bb4))
          simp only [List.setIfInBounds_toArray, List.set_cons_zero] at HFI
          have HB := Lib.hid ((HB.out.keep hb).other (k := w.heap.size + 2) (by have := hgl.out; omega) 0 (.bool bb4))
          clear hb
          generalize wn.setCell _ _ = wc4 at *
          try simp only [Act.put, List.setIfInBounds_toArray, List.set_cons_zero, List.set_cons_succ]
          refine wpAnyH_take (i := 15) (oi := { dst := some 34, op := Go.Op.build 29 #[(0, Go.Operand.tmp 23), (3, Go.Operand.tmp 28), (4, Go.Operand.tmp 33)], type := 29, pos := "trace.go:68", after := #[{ on := 4, ground := Go.Ground.data }, { on := 9, ground := Go.Ground.data }, { on := 14, ground := Go.Ground.data }], guard := none }) (v := ?vp15_14) rfl (by kernel_rfl) (by kernel_rfl) (by kernel_rfl) (fun _ _ _ h => h) (Or.inl ⟨by rfl, ?yp15_14⟩) (by assumption) ?rp15_14
          case yp15_14 => (intro wS hSw; go_simp; try (with_reducible rfl))
          try simp only [Act.put, List.setIfInBounds_toArray, List.set_cons_zero, List.set_cons_succ]
          refine wpAnyH_ready (rs := [17]) (by kernel_rfl) (by simp) ?_
          refine AllReadyH.cons (o := { dst := none, op := Go.Op.store 29 (Go.Operand.tmp 7) (Go.Operand.tmp 34), type := 0, pos := "trace.go:68", after := #[{ on := 16, ground := Go.Ground.data }, { on := 15, ground := Go.Ground.data }, { on := 14, ground := Go.Ground.chain }, { on := 0, ground := Go.Ground.phase }, { on := 1, ground := Go.Ground.phase }, { on := 2, ground := Go.Ground.phase }, { on := 3, ground := Go.Ground.phase }, { on := 4, ground := Go.Ground.phase }, { on := 5, ground := Go.Ground.phase }, { on := 6, ground := Go.Ground.phase }, { on := 7, ground := Go.Ground.phase }, { on := 8, ground := Go.Ground.phase }, { on := 9, ground := Go.Ground.phase }, { on := 10, ground := Go.Ground.phase }, { on := 11, ground := Go.Ground.phase }, { on := 12, ground := Go.Ground.phase }, { on := 13, ground := Go.Ground.phase }, { on := 14, ground := Go.Ground.phase }, { on := 15, ground := Go.Ground.phase }, { on := 16, ground := Go.Ground.phase }], guard := none }) rfl (fun K hK => ?_) AllReadyH.nil
          have HC := Lib.hid (hHeld.1.cons HB.out)
          have hgo := hgl.out
          obtain ⟨z0, z1, z2, z3, z4⟩ := HB.out.cells5
          have zf := HB.out.free
          have HD := HC.out.set5 (by omega) (by intro p hp; simp at hp; rcases hp with rfl; (simp; omega)) (.int .i64 n0) (.int .u32 0) (.string { data := #[] }) (.int .i64 n3) (.int .i64 n4)
          have HDE := Lib.hid HD
          clear HD
          have HFI := Lib.hid (blk_set5 HFI.out (k := g3) (by omega) (.int .i64 n0) (.int .u32 0) (.string { data := #[] }) (.int .i64 n3) (.int .i64 n4))
          go_simp
          refine hK.out _ _ ⟨HDE.out.tl, row_set5 hHeld.2 (by omega) _ _ _ _ _⟩ (fun hHeld => ?_)
          clear hK K
          try simp only [Act.put, List.setIfInBounds_toArray, List.set_cons_zero, List.set_cons_succ]
          refine wpAnyH_done (by kernel_rfl) ?_ _
          refine NoPanic.normal ?_
          go_wp2_with fail
          go_meet
          exact ⟨g3, bb4, rfl, hgl.out, by rw [HBB4.out, HBB3.out, HBB0.out, Bool.true_and, Bool.and_assoc], (HDE.out.tl.cons HFI.out).cons HDE.out.b0, hHeld.2⟩
        exact AllReadyH.nil
      refine AllReadyH.cons (o := { dst := some 7, op := Go.Op.alloc 29, type := 0, pos := "trace.go:68", after := #[], guard := none }) rfl (fun K hK => ?_) ?_
      · have hgl := Lib.hid (show w.heap.size + 2 < w2.heap.size from HFI.out.lt)
        go_simp
        refine hK.out _ _ ⟨hHeld.1.alloc (.cells #[.int .i64 0, .int .u32 0, .string { data := #[] }, .int .i64 0, .int .i64 0] 29), hHeld.2.alloc (.cells #[.int .i64 0, .int .u32 0, .string { data := #[] }, .int .i64 0, .int .i64 0] 29)⟩ (fun hHeld => ?_)
        clear hK K
        have HB := Lib.hid (show Blk ((w2.alloc (.cells #[.int .i64 0, .int .u32 0, .string { data := #[] }, .int .i64 0, .int .i64 0] 29)).drew) w2.heap.size #[.int .i64 0, .int .u32 0, .string { data := #[] }, .int .i64 0, .int .i64 0] 29 from Blk.new w2 #[.int .i64 0, .int .u32 0, .string { data := #[] }, .int .i64 0, .int .i64 0] 29)
        have HFI := Lib.hid (show Blk ((w2.alloc (.cells #[.int .i64 0, .int .u32 0, .string { data := #[] }, .int .i64 0, .int .i64 0] 29)).drew) _ _ _ from (show Blk w2 _ _ _ from HFI.out).alloc (.cells #[.int .i64 0, .int .u32 0, .string { data := #[] }, .int .i64 0, .int .i64 0] 29))
        generalize (w2.alloc (.cells #[.int .i64 0, .int .u32 0, .string { data := #[] }, .int .i64 0, .int .i64 0] 29)).drew = wa at *
        generalize w2.heap.size = g3 at *
        try simp only [Act.put, List.setIfInBounds_toArray, List.set_cons_zero, List.set_cons_succ]
        refine wpAnyH_ready (rs := [4]) (by kernel_rfl) (by simp) ?_
        refine AllReadyH.cons (o := { dst := some 23, op := Go.Op.call { callee := Go.Callee.value (Go.Operand.tmp 19), args := #[Go.Operand.tmp 22], argTypes := #[9] }, type := 3, pos := "trace.go:68", after := #[{ on := 0, ground := Go.Ground.data }, { on := 3, ground := Go.Ground.data }], guard := none }) rfl (fun K hK => ?_) AllReadyH.nil
        go_simp
        (go_at_call 31; (with_reducible refine (num_at HN0.out zx0 _ _ _ (HE.out.keep hHeld.1.bel) HFI.out).mono ?_); rintro e wr ⟨rfl, wn, bb0, hb, hbb, rfl⟩; have HBB0 := Lib.hid hbb; clear hbb)
        go_wp2_with fail
        have hlt := hHeld.1.b0.lt
        refine hK.out _ _ ⟨(hHeld.1.keep hb).far (k := w.heap.size + 2) (by omega) (by intro p hp; simp at hp; rcases hp with rfl; (simp; done)) 0 (.bool bb0), (hHeld.2.keep hb).set (k := w.heap.size + 2) (by omega) 0 (.bool bb0)⟩ (fun hHeld => ?_)
        clear hK K
        have HFI := Lib.hid ((HFI.out.keep hb).set 0 (.bool bb0))
        simp only [List.setIfInBounds_toArray, List.set_cons_zero] at HFI
        have HB := Lib.hid ((HB.out.keep hb).other (k := w.heap.size + 2) (by have := hgl.out; omega) 0 (.bool bb0))
        clear hb
        generalize wn.setCell _ _ = wc0 at *
        try simp only [Act.put, List.setIfInBounds_toArray, List.set_cons_zero, List.set_cons_succ]
        refine wpAnyH_ready (rs := [9]) (by kernel_rfl) (by simp) ?_
        refine AllReadyH.cons (o := { dst := some 28, op := Go.Op.call { callee := Go.Callee.value (Go.Operand.tmp 24), args := #[Go.Operand.tmp 27], argTypes := #[9] }, type := 3, pos := "trace.go:68", after := #[{ on := 5, ground := Go.Ground.data }, { on := 8, ground := Go.Ground.data }, { on := 4, ground := Go.Ground.chain }], guard := none }) rfl (fun K hK => ?_) AllReadyH.nil
        go_simp
        (go_at_call 31; (with_reducible refine (num_at HN3.out zx3 _ _ _ (HE.out.keep hHeld.1.bel) HFI.out).mono ?_); rintro e wr ⟨rfl, wn, bb3, hb, hbb, rfl⟩; have HBB3 := Lib.hid hbb; clear hbb)
        go_wp2_with fail
        have hlt := hHeld.1.b0.lt
        refine hK.out _ _ ⟨(hHeld.1.keep hb).far (k := w.heap.size + 2) (by omega) (by intro p hp; simp at hp; rcases hp with rfl; (simp; done)) 0 (.bool bb3), (hHeld.2.keep hb).set (k := w.heap.size + 2) (by omega) 0 (.bool bb3)⟩ (fun hHeld => ?_)
        clear hK K
        have HFI := Lib.hid ((HFI.out.keep hb).set 0 (.bool bb3))
        simp only [List.setIfInBounds_toArray, List.set_cons_zero] at HFI
        have HB := Lib.hid ((HB.out.keep hb).other (k := w.heap.size + 2) (by have := hgl.out; omega) 0 (.bool bb3))
        clear hb
        generalize wn.setCell _ _ = wc3 at *
        try simp only [Act.put, List.setIfInBounds_toArray, List.set_cons_zero, List.set_cons_succ]
        refine wpAnyH_ready (rs := [14]) (by kernel_rfl) (by simp) ?_
        refine AllReadyH.cons (o := { dst := some 33, op := Go.Op.call { callee := Go.Callee.value (Go.Operand.tmp 29), args := #[Go.Operand.tmp 32], argTypes := #[9] }, type := 3, pos := "trace.go:68", after := #[{ on := 10, ground := Go.Ground.data }, { on := 13, ground := Go.Ground.data }, { on := 9, ground := Go.Ground.chain }], guard := none }) rfl (fun K hK => ?_) AllReadyH.nil
        go_simp
        (go_at_call 31; (with_reducible refine (num_at HN4.out zx4 _ _ _ (HE.out.keep hHeld.1.bel) HFI.out).mono ?_); rintro e wr ⟨rfl, wn, bb4, hb, hbb, rfl⟩; have HBB4 := Lib.hid hbb; clear hbb)
        go_wp2_with fail
        have hlt := hHeld.1.b0.lt
        refine hK.out _ _ ⟨(hHeld.1.keep hb).far (k := w.heap.size + 2) (by omega) (by intro p hp; simp at hp; rcases hp with rfl; (simp; done)) 0 (.bool bb4), (hHeld.2.keep hb).set (k := w.heap.size + 2) (by omega) 0 (.bool bb4)⟩ (fun hHeld => ?_)
        clear hK K
        have HFI := Lib.hid ((HFI.out.keep hb).set 0 (.bool bb4))
        simp only [List.setIfInBounds_toArray, List.set_cons_zero] at HFI
        have HB := Lib.hid ((HB.out.keep hb).other (k := w.heap.size + 2) (by have := hgl.out; omega) 0 (.bool bb4))
        clear hb
        generalize wn.setCell _ _ = wc4 at *
        try simp only [Act.put, List.setIfInBounds_toArray, List.set_cons_zero, List.set_cons_succ]
        refine wpAnyH_take (i := 15) (oi := { dst := some 34, op := Go.Op.build 29 #[(0, Go.Operand.tmp 23), (3, Go.Operand.tmp 28), (4, Go.Operand.tmp 33)], type := 29, pos := "trace.go:68", after := #[{ on := 4, ground := Go.Ground.data }, { on := 9, ground := Go.Ground.data }, { on := 14, ground := Go.Ground.data }], guard := none }) (v := ?vp15_15) rfl (by kernel_rfl) (by kernel_rfl) (by kernel_rfl) (fun _ _ _ h => h) (Or.inl ⟨by rfl, ?yp15_15⟩) (by assumption) ?rp15_15
        case yp15_15 => (intro wS hSw; go_simp; try (with_reducible rfl))
        try simp only [Act.put, List.setIfInBounds_toArray, List.set_cons_zero, List.set_cons_succ]
        refine wpAnyH_ready (rs := [17]) (by kernel_rfl) (by simp) ?_
        refine AllReadyH.cons (o := { dst := none, op := Go.Op.store 29 (Go.Operand.tmp 7) (Go.Operand.tmp 34), type := 0, pos := "trace.go:68", after := #[{ on := 16, ground := Go.Ground.data }, { on := 15, ground := Go.Ground.data }, { on := 14, ground := Go.Ground.chain }, { on := 0, ground := Go.Ground.phase }, { on := 1, ground := Go.Ground.phase }, { on := 2, ground := Go.Ground.phase }, { on := 3, ground := Go.Ground.phase }, { on := 4, ground := Go.Ground.phase }, { on := 5, ground := Go.Ground.phase }, { on := 6, ground := Go.Ground.phase }, { on := 7, ground := Go.Ground.phase }, { on := 8, ground := Go.Ground.phase }, { on := 9, ground := Go.Ground.phase }, { on := 10, ground := Go.Ground.phase }, { on := 11, ground := Go.Ground.phase }, { on := 12, ground := Go.Ground.phase }, { on := 13, ground := Go.Ground.phase }, { on := 14, ground := Go.Ground.phase }, { on := 15, ground := Go.Ground.phase }, { on := 16, ground := Go.Ground.phase }], guard := none }) rfl (fun K hK => ?_) AllReadyH.nil
        have HC := Lib.hid (hHeld.1.cons HB.out)
        have hgo := hgl.out
        obtain ⟨z0, z1, z2, z3, z4⟩ := HB.out.cells5
        have zf := HB.out.free
        have HD := HC.out.set5 (by omega) (by intro p hp; simp at hp; rcases hp with rfl; (simp; omega)) (.int .i64 n0) (.int .u32 0) (.string { data := #[] }) (.int .i64 n3) (.int .i64 n4)
        have HDE := Lib.hid HD
        clear HD
        have HFI := Lib.hid (blk_set5 HFI.out (k := g3) (by omega) (.int .i64 n0) (.int .u32 0) (.string { data := #[] }) (.int .i64 n3) (.int .i64 n4))
        go_simp
        refine hK.out _ _ ⟨HDE.out.tl, row_set5 hHeld.2 (by omega) _ _ _ _ _⟩ (fun hHeld => ?_)
        clear hK K
        try simp only [Act.put, List.setIfInBounds_toArray, List.set_cons_zero, List.set_cons_succ]
        refine wpAnyH_done (by kernel_rfl) ?_ _
        refine NoPanic.normal ?_
        go_wp2_with fail
        go_meet
        exact ⟨g3, bb4, rfl, hgl.out, by rw [HBB4.out, HBB3.out, HBB0.out, Bool.true_and, Bool.and_assoc], (HDE.out.tl.cons HFI.out).cons HDE.out.b0, hHeld.2⟩
      exact AllReadyH.nil
    case rest =>
      obtain ⟨gp, bb, rfl, hgl, hbb, hh, hrw⟩ := hcut
      have H8 := Lib.hid hh
      have R8 := Lib.hid hrw
      have HBB := Lib.hid hbb
      have c1 := hrw.at (j := 1) (v := .string x1) rfl
      clear hh hrw hbb
      obtain ⟨yc, hyc⟩ : ∃ y, bl (unhexL x2.data.toList) = y := ⟨_, rfl⟩
      have HU := Lib.hid (hyc ▸ fun w => unfigured_any x2 zx2 w)
      have HYC := Lib.hid hyc
      clear hyc
      go_upto_region 9 with (first | (go_at_call 33; (with_reducible refine (aparse_any x1 _).mono ?_); rintro e w5 ⟨⟨r1, r2⟩, rfl, ha, hx⟩; have HA := Lib.hid ha; have H5 := Lib.hid (H8.out.keep hx); have R5 := Lib.hid (R8.out.keep hx); have c2 := R5.out.at (j := 2) (v := .string x2) rfl; obtain ⟨a, ha4, hra⟩ := ha.fit; simp only at hra; subst hra; have htwo := ha.two; clear hx ha) | (go_at_call 34; (with_reducible refine (HU.out _).mono ?_); rintro e w6 ⟨rfl, hx⟩; have H6 := Lib.hid (H5.out.keep hx); clear hx c2; obtain ⟨p0_0, p0_1, p0_2, p0_3, p0_4⟩ := (H6.out).b0.cells5; have pf0 := (H6.out).b0.free; have p1_0 := (H6.out).tl.b0.cells1; have pf1 := (H6.out).tl.b0.free; obtain ⟨p2_0, p2_1, p2_2, p2_3, p2_4⟩ := (H6.out).tl.tl.b0.cells5; have pf2 := (H6.out).tl.tl.b0.free))
      have HPA := Lib.hid (show progP x2 n0 a n3 n4 = ⟨n0, a, yc, n3, n4⟩ from by unfold progP; rw [HYC.out])
      have H7 := Lib.hid ((H6.out.set (by omega) (by intro p hp; simp at hp; rcases hp with rfl | rfl <;> (simp; omega)) 1 (.int .u32 a)).set (by omega) (by intro p hp; simp at hp; rcases hp with rfl | rfl <;> (simp; omega)) 2 (.string yc))
      simp only [List.setIfInBounds_toArray, List.set_cons_zero, List.set_cons_succ] at H7
      generalize (w6.setCell _ _).setCell _ _ = w7 at *
      clear p0_0 p0_1 p0_2 p0_3 p0_4 p1_0 p2_0 p2_1 p2_2 p2_3 p2_4 pf0 pf1 pf2
      obtain ⟨y0_0, y0_1, y0_2, y0_3, y0_4⟩ := (H7.out).b0.cells5; have y1_0 := (H7.out).tl.b0.cells1; obtain ⟨y2_0, y2_1, y2_2, y2_3, y2_4⟩ := (H7.out).tl.tl.b0.cells5
      by_cases hr : rightPr ⟨n0, a, yc, n3, n4⟩
      · have HR := Lib.hid hr
        clear hr
        by_cases hs2 : lineB ⟨n0, a, yc, n3, n4⟩ = s
        · have b1 := str_eqb hs2
          have b2 := str_eqb' hs2
          have HS := Lib.hid hs2
          clear hs2
          rcases htwo with rfl | rfl
          · cases bb
            · have HL := Lib.hid (ParseOf.noprog HW1.out HA.out HN0.out HN3.out HN4.out (fun h => by have := HBB.out; rw [h.1.1, h.1.2.1, h.1.2.2] at this; cases this))
              go_wp2_with (go_at_call 10; (with_reducible refine (line_yes n0 a yc n3 n4 HR.out ha4 _ (HE.out.keep H7.out.bel)).mono ?_); rintro e w9 ⟨rfl, hx⟩; have H9 := Lib.hid (H7.out.keep hx); clear hx; obtain ⟨z0_0, z0_1, z0_2, z0_3, z0_4⟩ := (H9.out).b0.cells5; have zf0 := (H9.out).b0.free; have z1_0 := (H9.out).tl.b0.cells1; have zf1 := (H9.out).tl.b0.free; obtain ⟨z2_0, z2_1, z2_2, z2_3, z2_4⟩ := (H9.out).tl.tl.b0.cells5; have zf2 := (H9.out).tl.tl.b0.free)
              refine bodyPost_ret (v := .tuple #[.agg #[.int .i64 0, .int .u32 0, .string { data := #[] }, .int .i64 0, .int .i64 0], .int .i64 2]) (by simp [results, Tryz.results14, go_sem, z0_0, z2_0, z0_1, z2_1, z0_2, z2_2, z0_3, z2_3, z0_4, z2_4]) rfl ?_
              exact ⟨(zeroPr, 2), rfl, HL.out, by first | exact H9.out.2 | exact below5 H9.out.2 (by omega) _ _ _ _ _⟩
            · have HL := Lib.hid (ParseOf.ref (p := ⟨n0, a, yc, n3, n4⟩) HR.out (by simp only; omega) (by simp only; omega) HS.out.symm)
              go_wp2_with (go_at_call 10; (with_reducible refine (line_yes n0 a yc n3 n4 HR.out ha4 _ (HE.out.keep H7.out.bel)).mono ?_); rintro e w9 ⟨rfl, hx⟩; have H9 := Lib.hid (H7.out.keep hx); clear hx; obtain ⟨z0_0, z0_1, z0_2, z0_3, z0_4⟩ := (H9.out).b0.cells5; have zf0 := (H9.out).b0.free; have z1_0 := (H9.out).tl.b0.cells1; have zf1 := (H9.out).tl.b0.free; obtain ⟨z2_0, z2_1, z2_2, z2_3, z2_4⟩ := (H9.out).tl.tl.b0.cells5; have zf2 := (H9.out).tl.tl.b0.free)
              refine bodyPost_ret (v := .tuple #[.agg #[.int .i64 n0, .int .u32 a, .string yc, .int .i64 n3, .int .i64 n4], .int .i64 0]) (by simp [results, Tryz.results14, go_sem, z0_0, z2_0, z0_1, z2_1, z0_2, z2_2, z0_3, z2_3, z0_4, z2_4]) rfl ?_
              exact ⟨(⟨n0, a, yc, n3, n4⟩, 0), rfl, HL.out, by first | exact H9.out.2 | exact below5 H9.out.2 (by omega) _ _ _ _ _⟩
          · cases bb
            · have HL := Lib.hid (ParseOf.noprog HW1.out HA.out HN0.out HN3.out HN4.out (fun h => absurd h.2.1 (by decide)))
              go_wp2_with (go_at_call 10; (with_reducible refine (line_yes n0 a yc n3 n4 HR.out ha4 _ (HE.out.keep H7.out.bel)).mono ?_); rintro e w9 ⟨rfl, hx⟩; have H9 := Lib.hid (H7.out.keep hx); clear hx; obtain ⟨z0_0, z0_1, z0_2, z0_3, z0_4⟩ := (H9.out).b0.cells5; have zf0 := (H9.out).b0.free; have z1_0 := (H9.out).tl.b0.cells1; have zf1 := (H9.out).tl.b0.free; obtain ⟨z2_0, z2_1, z2_2, z2_3, z2_4⟩ := (H9.out).tl.tl.b0.cells5; have zf2 := (H9.out).tl.tl.b0.free)
              refine bodyPost_ret (v := .tuple #[.agg #[.int .i64 0, .int .u32 0, .string { data := #[] }, .int .i64 0, .int .i64 0], .int .i64 2]) (by simp [results, Tryz.results14, go_sem, z0_0, z2_0, z0_1, z2_1, z0_2, z2_2, z0_3, z2_3, z0_4, z2_4]) rfl ?_
              exact ⟨(zeroPr, 2), rfl, HL.out, by first | exact H9.out.2 | exact below5 H9.out.2 (by omega) _ _ _ _ _⟩
            · have HL := Lib.hid (ParseOf.noprog HW1.out HA.out HN0.out HN3.out HN4.out (fun h => absurd h.2.1 (by decide)))
              go_wp2_with (go_at_call 10; (with_reducible refine (line_yes n0 a yc n3 n4 HR.out ha4 _ (HE.out.keep H7.out.bel)).mono ?_); rintro e w9 ⟨rfl, hx⟩; have H9 := Lib.hid (H7.out.keep hx); clear hx; obtain ⟨z0_0, z0_1, z0_2, z0_3, z0_4⟩ := (H9.out).b0.cells5; have zf0 := (H9.out).b0.free; have z1_0 := (H9.out).tl.b0.cells1; have zf1 := (H9.out).tl.b0.free; obtain ⟨z2_0, z2_1, z2_2, z2_3, z2_4⟩ := (H9.out).tl.tl.b0.cells5; have zf2 := (H9.out).tl.tl.b0.free)
              refine bodyPost_ret (v := .tuple #[.agg #[.int .i64 0, .int .u32 0, .string { data := #[] }, .int .i64 0, .int .i64 0], .int .i64 2]) (by simp [results, Tryz.results14, go_sem, z0_0, z2_0, z0_1, z2_1, z0_2, z2_2, z0_3, z2_3, z0_4, z2_4]) rfl ?_
              exact ⟨(zeroPr, 2), rfl, HL.out, by first | exact H9.out.2 | exact below5 H9.out.2 (by omega) _ _ _ _ _⟩
        · have b1 := str_ne hs2
          have b2 := str_ne' hs2
          have HS := Lib.hid hs2
          clear hs2
          rcases htwo with rfl | rfl
          · cases bb
            · have HL := Lib.hid (ParseOf.noprog HW1.out HA.out HN0.out HN3.out HN4.out (fun h => HS.out (by rw [h.2.2.2, ← HPA.out])))
              go_wp2_with (go_at_call 10; (with_reducible refine (line_yes n0 a yc n3 n4 HR.out ha4 _ (HE.out.keep H7.out.bel)).mono ?_); rintro e w9 ⟨rfl, hx⟩; have H9 := Lib.hid (H7.out.keep hx); clear hx; obtain ⟨z0_0, z0_1, z0_2, z0_3, z0_4⟩ := (H9.out).b0.cells5; have zf0 := (H9.out).b0.free; have z1_0 := (H9.out).tl.b0.cells1; have zf1 := (H9.out).tl.b0.free; obtain ⟨z2_0, z2_1, z2_2, z2_3, z2_4⟩ := (H9.out).tl.tl.b0.cells5; have zf2 := (H9.out).tl.tl.b0.free)
              refine bodyPost_ret (v := .tuple #[.agg #[.int .i64 0, .int .u32 0, .string { data := #[] }, .int .i64 0, .int .i64 0], .int .i64 2]) (by simp [results, Tryz.results14, go_sem, z0_0, z2_0, z0_1, z2_1, z0_2, z2_2, z0_3, z2_3, z0_4, z2_4]) rfl ?_
              exact ⟨(zeroPr, 2), rfl, HL.out, by first | exact H9.out.2 | exact below5 H9.out.2 (by omega) _ _ _ _ _⟩
            · have HL := Lib.hid (ParseOf.noprog HW1.out HA.out HN0.out HN3.out HN4.out (fun h => HS.out (by rw [h.2.2.2, ← HPA.out])))
              go_wp2_with (go_at_call 10; (with_reducible refine (line_yes n0 a yc n3 n4 HR.out ha4 _ (HE.out.keep H7.out.bel)).mono ?_); rintro e w9 ⟨rfl, hx⟩; have H9 := Lib.hid (H7.out.keep hx); clear hx; obtain ⟨z0_0, z0_1, z0_2, z0_3, z0_4⟩ := (H9.out).b0.cells5; have zf0 := (H9.out).b0.free; have z1_0 := (H9.out).tl.b0.cells1; have zf1 := (H9.out).tl.b0.free; obtain ⟨z2_0, z2_1, z2_2, z2_3, z2_4⟩ := (H9.out).tl.tl.b0.cells5; have zf2 := (H9.out).tl.tl.b0.free)
              refine bodyPost_ret (v := .tuple #[.agg #[.int .i64 0, .int .u32 0, .string { data := #[] }, .int .i64 0, .int .i64 0], .int .i64 2]) (by simp [results, Tryz.results14, go_sem, z0_0, z2_0, z0_1, z2_1, z0_2, z2_2, z0_3, z2_3, z0_4, z2_4]) rfl ?_
              exact ⟨(zeroPr, 2), rfl, HL.out, by first | exact H9.out.2 | exact below5 H9.out.2 (by omega) _ _ _ _ _⟩
          · cases bb
            · have HL := Lib.hid (ParseOf.noprog HW1.out HA.out HN0.out HN3.out HN4.out (fun h => HS.out (by rw [h.2.2.2, ← HPA.out])))
              go_wp2_with (go_at_call 10; (with_reducible refine (line_yes n0 a yc n3 n4 HR.out ha4 _ (HE.out.keep H7.out.bel)).mono ?_); rintro e w9 ⟨rfl, hx⟩; have H9 := Lib.hid (H7.out.keep hx); clear hx; obtain ⟨z0_0, z0_1, z0_2, z0_3, z0_4⟩ := (H9.out).b0.cells5; have zf0 := (H9.out).b0.free; have z1_0 := (H9.out).tl.b0.cells1; have zf1 := (H9.out).tl.b0.free; obtain ⟨z2_0, z2_1, z2_2, z2_3, z2_4⟩ := (H9.out).tl.tl.b0.cells5; have zf2 := (H9.out).tl.tl.b0.free)
              refine bodyPost_ret (v := .tuple #[.agg #[.int .i64 0, .int .u32 0, .string { data := #[] }, .int .i64 0, .int .i64 0], .int .i64 2]) (by simp [results, Tryz.results14, go_sem, z0_0, z2_0, z0_1, z2_1, z0_2, z2_2, z0_3, z2_3, z0_4, z2_4]) rfl ?_
              exact ⟨(zeroPr, 2), rfl, HL.out, by first | exact H9.out.2 | exact below5 H9.out.2 (by omega) _ _ _ _ _⟩
            · have HL := Lib.hid (ParseOf.noprog HW1.out HA.out HN0.out HN3.out HN4.out (fun h => HS.out (by rw [h.2.2.2, ← HPA.out])))
              go_wp2_with (go_at_call 10; (with_reducible refine (line_yes n0 a yc n3 n4 HR.out ha4 _ (HE.out.keep H7.out.bel)).mono ?_); rintro e w9 ⟨rfl, hx⟩; have H9 := Lib.hid (H7.out.keep hx); clear hx; obtain ⟨z0_0, z0_1, z0_2, z0_3, z0_4⟩ := (H9.out).b0.cells5; have zf0 := (H9.out).b0.free; have z1_0 := (H9.out).tl.b0.cells1; have zf1 := (H9.out).tl.b0.free; obtain ⟨z2_0, z2_1, z2_2, z2_3, z2_4⟩ := (H9.out).tl.tl.b0.cells5; have zf2 := (H9.out).tl.tl.b0.free)
              refine bodyPost_ret (v := .tuple #[.agg #[.int .i64 0, .int .u32 0, .string { data := #[] }, .int .i64 0, .int .i64 0], .int .i64 2]) (by simp [results, Tryz.results14, go_sem, z0_0, z2_0, z0_1, z2_1, z0_2, z2_2, z0_3, z2_3, z0_4, z2_4]) rfl ?_
              exact ⟨(zeroPr, 2), rfl, HL.out, by first | exact H9.out.2 | exact below5 H9.out.2 (by omega) _ _ _ _ _⟩
      · have HR := Lib.hid hr
        clear hr
        rcases htwo with rfl | rfl
        · cases bb
          · have HL := Lib.hid (ParseOf.noprog HW1.out HA.out HN0.out HN3.out HN4.out (fun h => HR.out (by rw [← HPA.out]; exact h.2.2.1)))
            go_wp2_with (go_at_call 10; (with_reducible refine (line_no n0 a yc n3 n4 HR.out _ (HE.out.keep H7.out.bel)).mono ?_); rintro e w9 ⟨rfl, hx⟩; have H9 := Lib.hid (H7.out.keep hx); clear hx; obtain ⟨z0_0, z0_1, z0_2, z0_3, z0_4⟩ := (H9.out).b0.cells5; have zf0 := (H9.out).b0.free; have z1_0 := (H9.out).tl.b0.cells1; have zf1 := (H9.out).tl.b0.free; obtain ⟨z2_0, z2_1, z2_2, z2_3, z2_4⟩ := (H9.out).tl.tl.b0.cells5; have zf2 := (H9.out).tl.tl.b0.free)
            refine bodyPost_ret (v := .tuple #[.agg #[.int .i64 0, .int .u32 0, .string { data := #[] }, .int .i64 0, .int .i64 0], .int .i64 2]) (by simp [results, Tryz.results14, go_sem, z0_0, z2_0, z0_1, z2_1, z0_2, z2_2, z0_3, z2_3, z0_4, z2_4]) rfl ?_
            exact ⟨(zeroPr, 2), rfl, HL.out, by first | exact H9.out.2 | exact below5 H9.out.2 (by omega) _ _ _ _ _⟩
          · have HL := Lib.hid (ParseOf.noprog HW1.out HA.out HN0.out HN3.out HN4.out (fun h => HR.out (by rw [← HPA.out]; exact h.2.2.1)))
            go_wp2_with (go_at_call 10; (with_reducible refine (line_no n0 a yc n3 n4 HR.out _ (HE.out.keep H7.out.bel)).mono ?_); rintro e w9 ⟨rfl, hx⟩; have H9 := Lib.hid (H7.out.keep hx); clear hx; obtain ⟨z0_0, z0_1, z0_2, z0_3, z0_4⟩ := (H9.out).b0.cells5; have zf0 := (H9.out).b0.free; have z1_0 := (H9.out).tl.b0.cells1; have zf1 := (H9.out).tl.b0.free; obtain ⟨z2_0, z2_1, z2_2, z2_3, z2_4⟩ := (H9.out).tl.tl.b0.cells5; have zf2 := (H9.out).tl.tl.b0.free)
            refine bodyPost_ret (v := .tuple #[.agg #[.int .i64 0, .int .u32 0, .string { data := #[] }, .int .i64 0, .int .i64 0], .int .i64 2]) (by simp [results, Tryz.results14, go_sem, z0_0, z2_0, z0_1, z2_1, z0_2, z2_2, z0_3, z2_3, z0_4, z2_4]) rfl ?_
            exact ⟨(zeroPr, 2), rfl, HL.out, by first | exact H9.out.2 | exact below5 H9.out.2 (by omega) _ _ _ _ _⟩
        · cases bb
          · have HL := Lib.hid (ParseOf.noprog HW1.out HA.out HN0.out HN3.out HN4.out (fun h => HR.out (by rw [← HPA.out]; exact h.2.2.1)))
            go_wp2_with (go_at_call 10; (with_reducible refine (line_no n0 a yc n3 n4 HR.out _ (HE.out.keep H7.out.bel)).mono ?_); rintro e w9 ⟨rfl, hx⟩; have H9 := Lib.hid (H7.out.keep hx); clear hx; obtain ⟨z0_0, z0_1, z0_2, z0_3, z0_4⟩ := (H9.out).b0.cells5; have zf0 := (H9.out).b0.free; have z1_0 := (H9.out).tl.b0.cells1; have zf1 := (H9.out).tl.b0.free; obtain ⟨z2_0, z2_1, z2_2, z2_3, z2_4⟩ := (H9.out).tl.tl.b0.cells5; have zf2 := (H9.out).tl.tl.b0.free)
            refine bodyPost_ret (v := .tuple #[.agg #[.int .i64 0, .int .u32 0, .string { data := #[] }, .int .i64 0, .int .i64 0], .int .i64 2]) (by simp [results, Tryz.results14, go_sem, z0_0, z2_0, z0_1, z2_1, z0_2, z2_2, z0_3, z2_3, z0_4, z2_4]) rfl ?_
            exact ⟨(zeroPr, 2), rfl, HL.out, by first | exact H9.out.2 | exact below5 H9.out.2 (by omega) _ _ _ _ _⟩
          · have HL := Lib.hid (ParseOf.noprog HW1.out HA.out HN0.out HN3.out HN4.out (fun h => HR.out (by rw [← HPA.out]; exact h.2.2.1)))
            go_wp2_with (go_at_call 10; (with_reducible refine (line_no n0 a yc n3 n4 HR.out _ (HE.out.keep H7.out.bel)).mono ?_); rintro e w9 ⟨rfl, hx⟩; have H9 := Lib.hid (H7.out.keep hx); clear hx; obtain ⟨z0_0, z0_1, z0_2, z0_3, z0_4⟩ := (H9.out).b0.cells5; have zf0 := (H9.out).b0.free; have z1_0 := (H9.out).tl.b0.cells1; have zf1 := (H9.out).tl.b0.free; obtain ⟨z2_0, z2_1, z2_2, z2_3, z2_4⟩ := (H9.out).tl.tl.b0.cells5; have zf2 := (H9.out).tl.tl.b0.free)
            refine bodyPost_ret (v := .tuple #[.agg #[.int .i64 0, .int .u32 0, .string { data := #[] }, .int .i64 0, .int .i64 0], .int .i64 2]) (by simp [results, Tryz.results14, go_sem, z0_0, z2_0, z0_1, z2_1, z0_2, z2_2, z0_3, z2_3, z0_4, z2_4]) rfl ?_
            exact ⟨(zeroPr, 2), rfl, HL.out, by first | exact H9.out.2 | exact below5 H9.out.2 (by omega) _ _ _ _ _⟩
  · have HL := Lib.hid (ParseOf.few HW1.out h5)
    have h5i : ((ws.length : Int) != 5) = true := by simp; omega
    obtain ⟨z0_0, z0_1, z0_2, z0_3, z0_4⟩ := (H1.out).b0.cells5; have zf0 := (H1.out).b0.free
    go_simp
    go_wp2
    refine bodyPost_ret (v := .tuple #[.agg #[.int .i64 0, .int .u32 0, .string { data := #[] }, .int .i64 0, .int .i64 0], .int .i64 2]) (by simp [results, Tryz.results14, go_sem, z0_0, z0_1, z0_2, z0_3, z0_4]) rfl ?_
    exact ⟨(zeroPr, 2), rfl, HL.out, by first | exact H1.out.2 | exact below5 H1.out.2 (by omega) _ _ _ _ _⟩

end Go.Proofs.YtodjeidofgbdlaaGreatDoor
