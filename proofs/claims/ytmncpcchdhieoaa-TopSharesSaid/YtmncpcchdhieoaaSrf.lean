/- The library's sort of addresses: the stirring. -/
import Derived.Test.YtmncpcchdhieoaaChecked
import Derived.WalkKit
import Derived.BigGuard
import Derived.BigCall
import Derived.CellFam
import Derived.Deep.Draws
import Derived.Deep.QuietTactic
import Derived.BigQuiet
import Derived.BigRegion
import Derived.Lib.Hide
import Derived.Below
import Derived.Laws.Rows
import Derived.Sort.Row
import Derived.ProofKit
import Derived.Deep.RegionHeld3
import Derived.OrdersHeld
import Derived.StillTailTactics
import Derived.Deep.CutBlock
import Derived.Deep.DeepCutAuto
import Derived.Deep.LoopGhost
import Derived.Laws.Bits64b
import Derived.Maps.Range
import Derived.Test.YtmncpcchdhieoaaSra
import Derived.Test.YtmncpcchdhieoaaSrb
import Derived.Test.YtmncpcchdhieoaaSre
namespace Go.Proofs.Ytmncpcchdhieoaa
open Go.RowKit
set_option linter.unusedVariables false
set_option linter.unusedSimpArgs false
theorem and_le (Y m : Nat) (hY : Y < 18446744073709551616) (hm : m ≤ 2000000) (h1 : 1 ≤ m) : ∃ o : Nat, o < m ∧ bits .and .u64 (Y : Int) ((m : Int) - 1) = (o : Int) := by
  refine ⟨Y &&& (m - 1), ?_, ?_⟩
  · have := Nat.and_le_right (n := Y) (m := m - 1)
    omega
  · rw [show ((m : Int) - 1) = ((m - 1 : Nat) : Int) by omega, bits_and_u64_nat _ _ hY (by omega)]
theorem Sorting.box {w wr w1 : World} {g rb : Nat} {d d1 : Array Int} {k : IntKind} {Y : Int} (h : Sorting w g d d1 wr) (hg : g < w.heap.size) (hrb : w.heap.size ≤ rb) (b : Box wr rb k Y w1) : Sorting w g d d1 w1 :=
  ⟨h.perm, h.row.kept (Nat.lt_of_lt_of_le hg h.grown.size) b.grown (by intro e; injection e with e; omega), h.grown.andThen b.grown (fun j e => Or.inl (by injection e with e; omega))⟩
theorem Box.swapped {w wr : World} {rb g : Nat} {k : IntKind} {Y : Int} {d d1 : Array Int} (hc : w.cell? ⟨rb, 0, none⟩ = some (.int k Y)) (hf : w.frozen? ⟨rb, 0, none⟩ = false) (hlt : rb < w.heap.size) (hne : rb ≠ g) (h : Sorting w g d d1 wr) : rb < wr.heap.size ∧ wr.cell? ⟨rb, 0, none⟩ = some (.int k Y) ∧ wr.frozen? ⟨rb, 0, none⟩ = false := by
  have e := h.grown.block rb hlt (by intro e; injection e with e; exact hne e)
  exact ⟨Nat.lt_of_lt_of_le hlt h.grown.size, (World.cell?_of_block (w := w) e).trans hc, (World.frozen?_of_block (w := w) e).trans hf⟩
set_option maxRecDepth 100000 in
set_option maxHeartbeats 2000000 in
theorem break_any (g n c : Nat) (d : Array Int) (hd : d.size = n) (hn : n ≤ 1000000) (a b : Nat) (hab : a ≤ b) (hh : b ≤ n) (w : World) (hrow : RowU w g d) (hg : g < w.heap.size) :
    Calls Try.prog 52 #[.slice (some ⟨g, 0, none⟩) n c, .int .i64 a, .int .i64 b] w fun e w' => e = .returned (.tuple #[]) ∧ ∃ d', Sorting w g d d' w' := by
  have HD := Lib.hid hd
  have HROW := Lib.hid hrow
  clear hd hrow
  obtain ⟨l, hl⟩ : ∃ l : Nat, (b : Int) - a = l := ⟨b - a, by omega⟩
  have hb1 : b = a + l := by omega
  have HB1 := Lib.hid hb1
  have hlb : l ≤ 1000000 := by omega
  have hlb2 : a + l ≤ n := by omega
  obtain ⟨z, hz, hz4⟩ : ∃ z : Nat, (l : Int).tdiv 4 = z ∧ z = l / 4 := ⟨l / 4, by rw [Int.tdiv_eq_ediv_of_nonneg (by omega)]; omega, rfl⟩
  have hz5 : 4 * z ≤ l := by omega
  have hz6 : l < 4 * z + 4 := by omega
  clear hz4 hb1
  go_enter Try.func52, Try.ntmps52
  by_cases h8 : (8 : Int) ≤ l
  · have hg0 := hg
    go_upto_region 3 with (fail)
    have hcN := cell_of_row (w.alloc (.cells #[.int .u64 (l : Int)] 118)) w.heap.size 0 #[.int .u64 (l : Int)] 118 _ (heap_alloc_new w _)
    have hfN := frozen_of_row (w.alloc (.cells #[.int .u64 (l : Int)] 118)) w.heap.size 0 #[.int .u64 (l : Int)] 118 (heap_alloc_new w _)
    have hGN : w.grownBy (w.alloc (.cells #[.int .u64 (l : Int)] 118)) none := World.grownBy_alloc w _ none
    have hROWN := HROW.out.kept hg hGN (by simp)
    have hgN : g < (w.alloc (.cells #[.int .u64 (l : Int)] 118)).heap.size := Nat.lt_of_lt_of_le hg hGN.size
    generalize w.alloc (.cells #[.int .u64 (l : Int)] 118) = W at hcN hfN hGN hROWN hgN ⊢
    have HROW := Lib.hid hROWN
    have hne : w.heap.size ≠ g := by omega
    have hne' : some g ≠ some w.heap.size := by simp; omega
    obtain ⟨rb, hrb⟩ : ∃ rb, rb = w.heap.size := ⟨_, rfl⟩
    rw [← hrb] at hcN hfN hne hne' ⊢
    have HB : Box W rb .u64 ((l : Nat) : Int) W := Box.refl hcN hfN
    have HRB := Lib.hid hrb
    have hg := hgN
    clear hcN hfN hROWN hrb hgN
    have hrbw : w.heap.size ≤ rb := by have := HRB.out; omega
    have hrbl : rb < W.heap.size := by
      have e := hGN.size
      have := HB.cell
      by_cases hq : rb < W.heap.size
      · exact hq
      · exfalso
        simp [World.cell?, Array.getElem?_eq_none (Nat.le_of_not_lt hq)] at this
    have hS0 : Sorting w g d d W := ⟨List.Perm.refl _, HROW.out, hGN.os, hGN.tape, hGN.output, hGN.size, fun i hi _ => hGN.block i hi (by simp)⟩
    have HS0 := Lib.hid hS0
    clear hS0
    go_wp2_with (go_at_call 70; (with_reducible refine (npt_any l (by omega) (by omega) _).mono ?_); rintro e w1 ⟨m, hm1, hm2, rfl, rfl⟩)
    go_loopg [9] 3 (fun k v9 wr => ∃ (i : Nat) (d' : Array Int) (Y : Nat), v9 = .int .i64 i ∧ a + 2 * z ≤ i + 1 ∧ i ≤ a + 2 * z + 2 ∧ a + 2 * z + 2 - i ≤ k ∧ Y < 18446744073709551616 ∧ Sorting w g d d' wr ∧ rb < wr.heap.size ∧ wr.cell? ⟨rb, 0, none⟩ = some (.int .u64 Y) ∧ wr.frozen? ⟨rb, 0, none⟩ = false)
    case atStart => exact ⟨a + 2 * z - 1, d, l, by congr 1; omega, by omega, by omega, by omega, by omega, HS0.out, hrbl, HB.cell, HB.open_⟩
    case round =>
      obtain ⟨i, d1, Y, rfl, hi1, hi2, hi3, hY, hs1, hrl, hc, hf⟩ := hrel
      have HS := Lib.hid hs1
      have HY := Lib.hid hY
      have HC := Lib.hid hc
      have HF := Lib.hid hf
      clear hs1 hY hc hf
      by_cases hin : (i : Int) ≤ (a : Int) + (z : Int) * 2 + 1
      · go_wp2_with (go_at_call 71; (with_reducible refine (xor_any rb _ HY.out _ HC.out HF.out).mono ?_); rintro e w1 ⟨Y1, hY1, rfl, hb⟩; obtain ⟨o, ho, eo⟩ := and_le Y1 m hY1 (by omega) hm1; have HS1 := Lib.hid (HS.out.box hg0 hrbw hb); have HB1 := Lib.hid hb; clear hb)
        · obtain ⟨q, hq⟩ : ∃ q : Nat, (o : Int) - l = q := ⟨o - l, by omega⟩
          have hq3 : q < l := by omega
          simp only [hq]
          have x1 : (0 : Int) ≤ (i : Int) := by omega
          have x2 : (i : Int) < n := by omega
          have y2 : i < n := by omega
          have ew : IntKind.i64.wrap ((a : Int) + (q : Int)) = (a : Int) + (q : Int) := IntWalk.i64_in _ (by omega)
          have x3 : (0 : Int) ≤ (a : Int) + (q : Int) := by omega
          have x4 : (a : Int) + (q : Int) < n := by omega
          have y4 : a + q < n := by omega
          have hs2 := HS1.out
          have H2 := Lib.hid hs2
          have sz2 : d1.size = n := hs2.size.trans HD.out
          obtain ⟨G2, hG2⟩ : ∃ G : Nat → Int, ∀ t, G t = d1[t]! := ⟨fun t => d1[t]!, fun _ => rfl⟩
          have cw2 : ∀ t, t < n → World.cell? w1 ⟨g, t, none⟩ = some (.int .u32 (G2 t)) := fun t ht => by rw [hG2]; exact (hs2.row t (by omega)).1
          have fw2 : ∀ t, t < n → World.frozen? w1 ⟨g, t, none⟩ = false := fun t ht => (hs2.row t (by omega)).2
          have HG2 := Lib.hid hG2
          have HSZ2 := Lib.hid sz2
          clear hs2 hG2 sz2
          have st2 : World.cell? (World.setCell w1 ⟨g, i, none⟩ (.int .u32 (G2 (a + q)))) ⟨g, a + q, none⟩ = some (.int .u32 (G2 (a + q))) := still (cw2 _ y2) (cw2 _ y4)
          go_wp2
          go_region
          all_goals go_wp2
          go_roundg (gk - 1)
          case measure => omega
          case rel => exact ⟨i + 1, _, Y1, by go_num, by omega, by omega, by omega, hY1, (H2.out.swapG HG2.out (by rw [HSZ2.out]; exact y2) (by rw [HSZ2.out]; exact y4) _), Box.swapped HB1.out.cell HB1.out.open_ (Nat.lt_of_lt_of_le hrl HB1.out.grown.size) hne ((Sorting.refl H2.out.row).swapG HG2.out (by rw [HSZ2.out]; exact y2) (by rw [HSZ2.out]; exact y4) _)⟩
        · have hol : o < l := by omega
          have x1 : (0 : Int) ≤ (i : Int) := by omega
          have x2 : (i : Int) < n := by omega
          have y2 : i < n := by omega
          have ew : IntKind.i64.wrap ((a : Int) + (o : Int)) = (a : Int) + (o : Int) := IntWalk.i64_in _ (by omega)
          have x3 : (0 : Int) ≤ (a : Int) + (o : Int) := by omega
          have x4 : (a : Int) + (o : Int) < n := by omega
          have y4 : a + o < n := by omega
          have hs2 := HS1.out
          have H2 := Lib.hid hs2
          have sz2 : d1.size = n := hs2.size.trans HD.out
          obtain ⟨G2, hG2⟩ : ∃ G : Nat → Int, ∀ t, G t = d1[t]! := ⟨fun t => d1[t]!, fun _ => rfl⟩
          have cw2 : ∀ t, t < n → World.cell? w1 ⟨g, t, none⟩ = some (.int .u32 (G2 t)) := fun t ht => by rw [hG2]; exact (hs2.row t (by omega)).1
          have fw2 : ∀ t, t < n → World.frozen? w1 ⟨g, t, none⟩ = false := fun t ht => (hs2.row t (by omega)).2
          have HG2 := Lib.hid hG2
          have HSZ2 := Lib.hid sz2
          clear hs2 hG2 sz2
          have st2 : World.cell? (World.setCell w1 ⟨g, i, none⟩ (.int .u32 (G2 (a + o)))) ⟨g, a + o, none⟩ = some (.int .u32 (G2 (a + o))) := still (cw2 _ y2) (cw2 _ y4)
          go_wp2
          go_region
          all_goals go_wp2
          go_roundg (gk - 1)
          case measure => omega
          case rel => exact ⟨i + 1, _, Y1, by go_num, by omega, by omega, by omega, hY1, (H2.out.swapG HG2.out (by rw [HSZ2.out]; exact y2) (by rw [HSZ2.out]; exact y4) _), Box.swapped HB1.out.cell HB1.out.open_ (Nat.lt_of_lt_of_le hrl HB1.out.grown.size) hne ((Sorting.refl H2.out.row).swapG HG2.out (by rw [HSZ2.out]; exact y2) (by rw [HSZ2.out]; exact y4) _)⟩
      · go_wp2
        go_end0
        exact ⟨rfl, d1, HS.out⟩
  · go_wp2
    go_end0
    exact ⟨rfl, d, Sorting.refl HROW.out⟩
end Go.Proofs.Ytmncpcchdhieoaa
