/- The iterator over the leases of a table. -/
import Derived.Test.YtmncpcchdhieoaaItl
import Derived.Test.YtmncpcchdhieoaaBx
import Derived.Test.YtmncpcchdhieoaaBlk
import Derived.RangeFuncSeq
import Derived.Sort.MapsRangeIn
import Derived.Sort.KeysCollected
import Derived.Shelf.Abstract
import Derived.Shelf.AbstractIn
import Derived.WalkKit
import Derived.OwnWalkIn
import Derived.TacticsInMore
import Derived.RegionIn
import Derived.LoopNIn
import Derived.LoopIn
import Derived.Lib.Hide
namespace Go.Proofs.Ytmncpcchdhieoaa
open Go.ChangeShapes Go.WideShapes Go.ChangeAt Go.RowKit
set_option linter.unusedVariables false
set_option linter.unusedSimpArgs false

open Go.Maps
/-- What lies below h is as it was. -/
def LowEq (h : Nat) (A B : World) : Prop := ∀ i, i < h → B.heap[i]? = A.heap[i]?
theorem LowEq.refl (h : Nat) (A : World) : LowEq h A A := fun _ _ => rfl
theorem LowEq.trans {h : Nat} {A B C : World} (a : LowEq h A B) (b : LowEq h B C) : LowEq h A C := fun i hi => (b i hi).trans (a i hi)
theorem LowEq.grown {h : Nat} {A B : World} {row : Option Nat} (g : A.grownBy B row) (hh : h ≤ A.heap.size) (hr : ∀ k, row = some k → h ≤ k) : LowEq h A B := fun i hi => g.block i (by omega) (fun e => by have := hr i e.symm; omega)
theorem LowEq.low {h : Nat} {A B : World} (g : Below A.heap.size A B) (hh : h ≤ A.heap.size) : LowEq h A B := fun i hi => g.block i (by omega)
theorem LowEq.cell {h : Nat} {A B : World} (a : LowEq h A B) {g i : Nat} (hg : g < h) {v : Value} (hv : A.cell? ⟨g, i, none⟩ = some v) : B.cell? ⟨g, i, none⟩ = some v := (World.cell?_of_block (a := ⟨g, i, none⟩) (a g hg)).trans hv
/-- What a round keeps: ranges under way, and what lies below h. -/
def KeepLow (h : Nat) (A B : World) : Prop := KeepsWalks A B ∧ LowEq h A B
theorem KeepLow.trans {h : Nat} {A B C : World} (a : KeepLow h A B) (b : KeepLow h B C) : KeepLow h A C := ⟨a.1.trans b.1, a.2.trans b.2⟩
theorem KeepLow.put {h : Nat} (W : World) (l : Nat) (o o' : Obj) (hl : h ≤ l) (ho : W.heap[l]? = some o) (hw : o.isWalk = false) : KeepLow h W (W.putObj l o') := ⟨KeepsWalks.putObj o' ho hw, fun i hi => World.putObj_heap_other (by omega)⟩

attribute [local go_sem] Oper.semAt_some

set_option maxRecDepth 100000 in
set_option maxHeartbeats 2000000 in
theorem tall_iter (B1 B2 tb m nn n h : Nat) (f : Int → Le) (w : World) (hh : h ≤ w.heap.size) (hl1 : B1 < h) (hl2 : B2 < h) (hB1 : w.cell? ⟨B1, 0, none⟩ = some (.pointer (some ⟨tb, 0, none⟩))) (hB2 : w.cell? ⟨B2, 0, none⟩ = some (.func (.func 21) #[] #[])) (hT : w.cell? ⟨tb, 0, none⟩ = some (.map (some m))) (htm : TabM w m nn 20 f) (hn : 1 ≤ n) :
    IteratesW Fence.wide n Try.prog 43 #[.pointer (some ⟨B1, 0, none⟩), .pointer (some ⟨B2, 0, none⟩)] (fun x : Le => #[x.val]) (KeepLow h) (fun xs => xs.Perm (thoseL f (fun _ => true))) (fun _ => True) 21 w := by
  intro l J Jx W hW hJ hY h0
  have HLT := World.block_lt_of_cell? w _ hT
  have cT := (hW.cell (p := ⟨tb, 0, none⟩) HLT).trans hT
  have c1 := (hW.cell (p := ⟨B1, 0, none⟩) (show B1 < _ by omega)).trans hB1
  have c2 := (hW.cell (p := ⟨B2, 0, none⟩) (show B2 < _ by omega)).trans hB2
  have HC2 := Lib.hid c2
  skip
  have HL2 := Lib.hid hl2
  have HH := Lib.hid (Nat.le_trans hh hW.size)
  obtain ⟨D0, hown, hhas, hat0⟩ := htm.low hW
  have HJ := Lib.hid hJ
  have HY := Lib.hid hY
  have HOWN := Lib.hid hown
  have HHAS := Lib.hid hhas
  have HAT0 := Lib.hid hat0
  have H0 := Lib.hid h0
  clear hB1 hB2 hT htm hJ hY hown h0 hhas hat0 HLT hh hl1 hl2
  refine callsIn_of_wp Try.func43 rfl trivial ?_ rfl
  simp only [Try.ntmps43, List.size_toArray, List.length_cons, List.length_nil, Nat.reduceAdd, Nat.reduceSub, Array.replicate_succ, Array.replicate_zero, List.push_toArray, List.append_toArray, List.nil_append, List.cons_append]
  gi_wp2_with (first
    | (gi_at_range; refine wpListIn_range_own _ rfl _ 49 rfl 30 35 lkeyed Try.underlying49 _ m nn _ rfl HOWN.out ?_; intro w0 hrg0 hg0 hs0)
    | gi_in)
  clear c1 c2 cT
  gi_loopw [11] (fun _ wr => ∃ (left : Lit → Bool) (cnt : Nat) (vs : List Int), wr.ranges Try.prog 30 leR m W.heap.size nn D0 left cnt ∧ Seen left vs ∧ (LowEq h W wr ∧ h ≤ wr.heap.size) ∧ J (gotL f (fun _ => true) vs) wr)
    (fun _ wr => wr.rangeLeft m W.heap.size)
  case atStart => exact ⟨_, _, [], hrg0, Seen.none HHAS.out, ⟨LowEq.grown hg0 HH.out (fun k e => by cases e), Nat.le_trans HH.out hg0.size⟩, HJ.out [] W w0 none H0.out hg0 (fun r e => by cases e)⟩
  case round =>
    obtain ⟨left, cnt, vs, hrg, hC, hbw, hJs⟩ := hrel
    have HC := Lib.hid hC
    have HJS := Lib.hid hJs
    have HBW := Lib.hid hbw.1
    have HHW := Lib.hid hbw.2
    clear hC hJs hbw
    gi_wp2_with (first
      | (gi_at_next; refine wpListIn_next_ranges _ rfl _ rfl 30 lkeyed leR (Value.int .u32) Le.val (fun key kl hk => by obtain ⟨x, hx, _⟩ := keyV Try.underlying30 hk; exact ⟨x, hx⟩) (fun v y hv => by obtain ⟨l, hl, _⟩ := leR_inv hv; exact ⟨l, hl⟩) m W.heap.size nn _ _ _ rfl hrg ?_ ?_)
      | gi_in)
    · intro hc0 hl0
      gi_wp2
      go_end0
      exact ⟨⟨_, rfl⟩, Or.inl ⟨gotL f (fun _ => true) vs, got_all (HC.out.all hl0), HJS.out⟩⟩
    · intro x c kl yd yp w2 cnt2 hkey hlk hv hat hrg2 hlt hg2 hs2 hen
      obtain ⟨x', ex, rfl⟩ := keyV Try.underlying30 hkey
      obtain rfl : x = x' := by simpa using ex
      have hx20 : 1 ≤ x ∧ x ≤ ((20 : Nat) : Int) := (HHAS.out x).1 (has_true_of_atKey hat)
      have hcx : c = f x := by
        obtain ⟨l, e1, e2⟩ := leR_inv hv
        have e3 := (hat .nil).symm.trans (HAT0.out x hx20.1 hx20.2 .nil)
        rw [(Prod.mk.inj e2).1] at e3
        have e4 := leD_inj e3
        rw [← e4]
        have e5 : leR c.val = leR l.val := by rw [e1]
        rw [leR_mk, leR_mk] at e5
        exact leD_inj (Prod.mk.inj (Option.some.inj e5)).1
      have hJ2 : J (gotL f (fun _ => true) vs) w2 := HJ.out _ wr w2 (some W.heap.size) HJS.out hg2 (fun r e => by cases e; exact ⟨Nat.le_refl _, hrg.iter_walk⟩)
      have hb2 : LowEq h W w2 := HBW.out.trans (LowEq.grown hg2 HHW.out (fun k e => by cases e; exact HH.out))
      have HH2 := Lib.hid (Nat.le_trans HHW.out hg2.size)
      have hlen : (gotL f (fun _ => true) vs).length < 21 := Nat.lt_of_le_of_lt (got_len f _ vs) (Nat.lt_of_le_of_lt HC.out.few (by decide))
      have HS2 := Lib.hid (HC.out.more hx20 hlk)
      have HLEFT := Lib.hid (hrg.left_eq)
      have HLT9 := Lib.hid hlt
      have HJ2 := Lib.hid hJ2
      have HB2 := Lib.hid hb2
      have HRG2 := Lib.hid hrg2
      have HLEN := Lib.hid hlen
      have HCX := Lib.hid hcx
      have HWL := Lib.hid hrg2.lt
      have HML := Lib.hid hrg2.owns.lt
      clear hJ2 hb2 hlen hlk hat hkey hv hrg hlt hg2 hs2 HJS HC hrg2 hcx hx20
      obtain ⟨xa, xb, xc, xu, xk, xt, xz, xv⟩ := c
      simp only [Le.val] at hen
      have hA := low0 w2 (.cells #[.int .u32 xa, .int .i64 xb, .string xc, .int .i64 xu, .int .i64 xk, .int .i64 xt, .int .i64 xz, .int .i64 xv] 35)
      have c2 := HB2.out.cell HL2.out HC2.out
      have hc2 := (HB2.out.trans (LowEq.low hA HH2.out)).cell HL2.out HC2.out
      have HN2 := Lib.hid (Blk.new w2 #[.int .u32 xa, .int .i64 xb, .string xc, .int .i64 xu, .int .i64 xk, .int .i64 xt, .int .i64 xz, .int .i64 xv] 35)
      have HA2 := Lib.hid hA
      have hF : Fence.wide.fn 21 := trivial
      clear hA
      gi_wp2_with (gi_at_call 21; refine (callsIn_wide.2 (isall_any _ _ _ _ _ _ _ _ _)).mono ?_; rintro e w5 ⟨rfl, hx⟩; have hb5 := low HA2.out hx; obtain ⟨p0, p1, p2, p3, p4, p5, p6, p7⟩ := (HN2.out.keep hx).cells8; have hJ5 := HJ.out _ w2 w5 none HJ2.out (grown_of_low hb5) (fun r e => by cases e); have HRG5 := Lib.hid (HRG2.out.kept (row := none) (grown_of_low hb5) (by simp) (by simp)); have HB5 := Lib.hid (HB2.out.trans (LowEq.low hb5 HH2.out)); have HH5 := Lib.hid (Nat.le_trans HH2.out hb5.size); obtain ⟨fn, tmps, assign, body, hy, hR⟩ := HY.out _ ⟨xa, xb, xc, xu, xk, xt, xz, xv⟩ w5 hJ5 HLEN.out; simp only [Le.val] at hy; clear hx hb5 hJ5)
      refine hR.mono ?_
      rintro e W3 (⟨rfl, hJ3, hk3⟩ | ⟨rfl, hJ3⟩)
      · gi_wp2
        have hrg3 := HRG5.out.of_walks hk3.1
        have hsz3 : h ≤ W3.heap.size := Nat.le_trans HH.out (Nat.le_of_lt (Nat.lt_of_le_of_lt (Nat.le_refl _) hrg3.lt))
        go_roundw
        case rel => exact ⟨_, cnt2, vs ++ [x], hrg3, HS2.out, ⟨HB5.out.trans hk3.2, hsz3⟩, by rw [got_more (rfl), ← HCX.out]; exact hJ3⟩
        case measure => rw [hrg3.left_eq, HLEFT.out]; exact HLT9.out
      · gi_wp2
        ((try simp only [Exit.inBlock, Exit.then]); refine bodyPost_ret (results_none rfl _ _ _) rfl ?_)
        exact ⟨⟨_, rfl⟩, Or.inr ⟨_, trivial, hJ3⟩⟩

set_option maxRecDepth 100000 in
set_option maxHeartbeats 2000000 in
theorem tbound_iter (B1 B2 tb m nn n h : Nat) (Bb : Nat) (bd : Int) (f : Int → Le) (w : World) (hh : h ≤ w.heap.size) (hl1 : B1 < h) (hl2 : B2 < h) (hB1 : w.cell? ⟨B1, 0, none⟩ = some (.pointer (some ⟨tb, 0, none⟩))) (hB2 : w.cell? ⟨B2, 0, none⟩ = some (.func (.func 33) #[] #[.pointer (some ⟨Bb, 0, none⟩)])) (hT : w.cell? ⟨tb, 0, none⟩ = some (.map (some m))) (htm : TabM w m nn 20 f) (hlb : Bb < h) (hBb : w.cell? ⟨Bb, 0, none⟩ = some (.int .i64 bd)) (hn : 1 ≤ n) :
    IteratesW Fence.wide n Try.prog 43 #[.pointer (some ⟨B1, 0, none⟩), .pointer (some ⟨B2, 0, none⟩)] (fun x : Le => #[x.val]) (KeepLow h) (fun xs => xs.Perm (thoseL f (fun l => decide (l.bind = bd)))) (fun _ => True) 21 w := by
  intro l J Jx W hW hJ hY h0
  have HLT := World.block_lt_of_cell? w _ hT
  have cT := (hW.cell (p := ⟨tb, 0, none⟩) HLT).trans hT
  have c1 := (hW.cell (p := ⟨B1, 0, none⟩) (show B1 < _ by omega)).trans hB1
  have c2 := (hW.cell (p := ⟨B2, 0, none⟩) (show B2 < _ by omega)).trans hB2
  have HC2 := Lib.hid c2
  have cb := (hW.cell (p := ⟨Bb, 0, none⟩) (show Bb < _ by omega)).trans hBb
  have HCB := Lib.hid cb
  have HLB := Lib.hid hlb
  clear hBb hlb cb
  have HL2 := Lib.hid hl2
  have HH := Lib.hid (Nat.le_trans hh hW.size)
  obtain ⟨D0, hown, hhas, hat0⟩ := htm.low hW
  have HJ := Lib.hid hJ
  have HY := Lib.hid hY
  have HOWN := Lib.hid hown
  have HHAS := Lib.hid hhas
  have HAT0 := Lib.hid hat0
  have H0 := Lib.hid h0
  clear hB1 hB2 hT htm hJ hY hown h0 hhas hat0 HLT hh hl1 hl2
  refine callsIn_of_wp Try.func43 rfl trivial ?_ rfl
  simp only [Try.ntmps43, List.size_toArray, List.length_cons, List.length_nil, Nat.reduceAdd, Nat.reduceSub, Array.replicate_succ, Array.replicate_zero, List.push_toArray, List.append_toArray, List.nil_append, List.cons_append]
  gi_wp2_with (first
    | (gi_at_range; refine wpListIn_range_own _ rfl _ 49 rfl 30 35 lkeyed Try.underlying49 _ m nn _ rfl HOWN.out ?_; intro w0 hrg0 hg0 hs0)
    | gi_in)
  clear c1 c2 cT
  gi_loopw [11] (fun _ wr => ∃ (left : Lit → Bool) (cnt : Nat) (vs : List Int), wr.ranges Try.prog 30 leR m W.heap.size nn D0 left cnt ∧ Seen left vs ∧ (LowEq h W wr ∧ h ≤ wr.heap.size) ∧ J (gotL f (fun l => decide (l.bind = bd)) vs) wr)
    (fun _ wr => wr.rangeLeft m W.heap.size)
  case atStart => exact ⟨_, _, [], hrg0, Seen.none HHAS.out, ⟨LowEq.grown hg0 HH.out (fun k e => by cases e), Nat.le_trans HH.out hg0.size⟩, HJ.out [] W w0 none H0.out hg0 (fun r e => by cases e)⟩
  case round =>
    obtain ⟨left, cnt, vs, hrg, hC, hbw, hJs⟩ := hrel
    have HC := Lib.hid hC
    have HJS := Lib.hid hJs
    have HBW := Lib.hid hbw.1
    have HHW := Lib.hid hbw.2
    clear hC hJs hbw
    gi_wp2_with (first
      | (gi_at_next; refine wpListIn_next_ranges _ rfl _ rfl 30 lkeyed leR (Value.int .u32) Le.val (fun key kl hk => by obtain ⟨x, hx, _⟩ := keyV Try.underlying30 hk; exact ⟨x, hx⟩) (fun v y hv => by obtain ⟨l, hl, _⟩ := leR_inv hv; exact ⟨l, hl⟩) m W.heap.size nn _ _ _ rfl hrg ?_ ?_)
      | gi_in)
    · intro hc0 hl0
      gi_wp2
      go_end0
      exact ⟨⟨_, rfl⟩, Or.inl ⟨gotL f (fun l => decide (l.bind = bd)) vs, got_all (HC.out.all hl0), HJS.out⟩⟩
    · intro x c kl yd yp w2 cnt2 hkey hlk hv hat hrg2 hlt hg2 hs2 hen
      obtain ⟨x', ex, rfl⟩ := keyV Try.underlying30 hkey
      obtain rfl : x = x' := by simpa using ex
      have hx20 : 1 ≤ x ∧ x ≤ ((20 : Nat) : Int) := (HHAS.out x).1 (has_true_of_atKey hat)
      have hcx : c = f x := by
        obtain ⟨l, e1, e2⟩ := leR_inv hv
        have e3 := (hat .nil).symm.trans (HAT0.out x hx20.1 hx20.2 .nil)
        rw [(Prod.mk.inj e2).1] at e3
        have e4 := leD_inj e3
        rw [← e4]
        have e5 : leR c.val = leR l.val := by rw [e1]
        rw [leR_mk, leR_mk] at e5
        exact leD_inj (Prod.mk.inj (Option.some.inj e5)).1
      have hJ2 : J (gotL f (fun l => decide (l.bind = bd)) vs) w2 := HJ.out _ wr w2 (some W.heap.size) HJS.out hg2 (fun r e => by cases e; exact ⟨Nat.le_refl _, hrg.iter_walk⟩)
      have hb2 : LowEq h W w2 := HBW.out.trans (LowEq.grown hg2 HHW.out (fun k e => by cases e; exact HH.out))
      have HH2 := Lib.hid (Nat.le_trans HHW.out hg2.size)
      have hlen : (gotL f (fun l => decide (l.bind = bd)) vs).length < 21 := Nat.lt_of_le_of_lt (got_len f _ vs) (Nat.lt_of_le_of_lt HC.out.few (by decide))
      have HS2 := Lib.hid (HC.out.more hx20 hlk)
      have HLEFT := Lib.hid (hrg.left_eq)
      have HLT9 := Lib.hid hlt
      have HJ2 := Lib.hid hJ2
      have HB2 := Lib.hid hb2
      have HRG2 := Lib.hid hrg2
      have HLEN := Lib.hid hlen
      have HCX := Lib.hid hcx
      have HWL := Lib.hid hrg2.lt
      have HML := Lib.hid hrg2.owns.lt
      clear hJ2 hb2 hlen hlk hat hkey hv hrg hlt hg2 hs2 HJS HC hrg2 hcx hx20
      obtain ⟨xa, xb, xc, xu, xk, xt, xz, xv⟩ := c
      simp only [Le.val] at hen
      have hA := low0 w2 (.cells #[.int .u32 xa, .int .i64 xb, .string xc, .int .i64 xu, .int .i64 xk, .int .i64 xt, .int .i64 xz, .int .i64 xv] 35)
      have c2 := HB2.out.cell HL2.out HC2.out
      have hc2 := (HB2.out.trans (LowEq.low hA HH2.out)).cell HL2.out HC2.out
      have HN2 := Lib.hid (Blk.new w2 #[.int .u32 xa, .int .i64 xb, .string xc, .int .i64 xu, .int .i64 xk, .int .i64 xt, .int .i64 xz, .int .i64 xv] 35)
      have HA2 := Lib.hid hA
      have hF : Fence.wide.fn 33 := trivial
      clear hA
      have HCB2 := Lib.hid ((HB2.out.trans (LowEq.low HA2.out HH2.out)).cell HLB.out HCB.out)
      by_cases hp : xb = bd
      · have q := decide_eq_true hp
        have HP := Lib.hid q
        clear hp
        gi_wp2_with (gi_at_call 33; refine (callsIn_wide.2 (isbound_any _ _ _ _ _ _ _ _ bd Bb _ HCB2.out)).mono ?_; rintro e w5 ⟨rfl, hx⟩; have hb5 := low HA2.out hx; obtain ⟨p0, p1, p2, p3, p4, p5, p6, p7⟩ := (HN2.out.keep hx).cells8; have hJ5 := HJ.out _ w2 w5 none HJ2.out (grown_of_low hb5) (fun r e => by cases e); have HRG5 := Lib.hid (HRG2.out.kept (row := none) (grown_of_low hb5) (by simp) (by simp)); have HB5 := Lib.hid (HB2.out.trans (LowEq.low hb5 HH2.out)); have HH5 := Lib.hid (Nat.le_trans HH2.out hb5.size); obtain ⟨fn, tmps, assign, body, hy, hR⟩ := HY.out _ ⟨xa, xb, xc, xu, xk, xt, xz, xv⟩ w5 hJ5 HLEN.out; simp only [Le.val] at hy; clear hx hb5 hJ5)
        refine hR.mono ?_
        rintro e W3 (⟨rfl, hJ3, hk3⟩ | ⟨rfl, hJ3⟩)
        · gi_wp2
          have hrg3 := HRG5.out.of_walks hk3.1
          have hsz3 : h ≤ W3.heap.size := Nat.le_trans HH.out (Nat.le_of_lt (Nat.lt_of_le_of_lt (Nat.le_refl _) hrg3.lt))
          go_roundw
          case rel => exact ⟨_, cnt2, vs ++ [x], hrg3, HS2.out, ⟨HB5.out.trans hk3.2, hsz3⟩, by rw [got_more (by rw [← HCX.out]; exact HP.out), ← HCX.out]; exact hJ3⟩
          case measure => rw [hrg3.left_eq, HLEFT.out]; exact HLT9.out
        · gi_wp2
          ((try simp only [Exit.inBlock, Exit.then]); refine bodyPost_ret (results_none rfl _ _ _) rfl ?_)
          exact ⟨⟨_, rfl⟩, Or.inr ⟨_, trivial, hJ3⟩⟩
      · have q := decide_eq_false hp
        have HP := Lib.hid q
        clear hp
        gi_wp2_with (gi_at_call 33; refine (callsIn_wide.2 (isbound_any _ _ _ _ _ _ _ _ bd Bb _ HCB2.out)).mono ?_; rintro e w5 ⟨rfl, hx⟩; have hb5 := low HA2.out hx; have hJ5 := HJ.out _ w2 w5 none HJ2.out (grown_of_low hb5) (fun r e => by cases e); have HRG5 := Lib.hid (HRG2.out.kept (row := none) (grown_of_low hb5) (by simp) (by simp)); have HB5 := Lib.hid (HB2.out.trans (LowEq.low hb5 HH2.out)); have HH5 := Lib.hid (Nat.le_trans HH2.out hb5.size); clear hx hb5)
        all_goals
          try refine ⟨(fun fx hfx => by cases hfx), ?_⟩
          gi_wp2
          go_roundw
          · exact ⟨_, cnt2, vs ++ [x], HRG5.out, HS2.out, ⟨HB5.out, HH5.out⟩, by rw [got_same (by rw [← HCX.out]; exact HP.out)]; exact hJ5⟩
          · rw [HRG5.out.left_eq, HLEFT.out]; exact HLT9.out

end Go.Proofs.Ytmncpcchdhieoaa
