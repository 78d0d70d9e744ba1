/- The library's sort of addresses: the heap, and the turn of a row. -/
import Derived.Test.YtmncpcchdhieoaaChecked
import Derived.WalkKit
import Derived.BigGuard
import Derived.BigCall
import Derived.CellFam
import Derived.Deep.Draws
import Derived.Deep.QuietTactic
import Derived.BigQuiet
import Derived.BigRegion
import Derived.Lib.Hide
import Derived.Below
import Derived.Laws.Rows
import Derived.Sort.Row
import Derived.ProofKit
import Derived.Deep.RegionHeld3
import Derived.OrdersHeld
import Derived.StillTailTactics
import Derived.Test.YtmncpcchdhieoaaSra
namespace Go.Proofs.Ytmncpcchdhieoaa
open Go.RowKit
set_option linter.unusedVariables false
set_option linter.unusedSimpArgs false
theorem still {w : World} {g i j : Nat} {u v : Value} (hi : w.cell? ⟨g, i, none⟩ = some u) (hj : w.cell? ⟨g, j, none⟩ = some v) : (w.setCell ⟨g, i, none⟩ v).cell? ⟨g, j, none⟩ = some v := by
  by_cases e : j = i
  · subst e
    exact World.cell?_setCell_same' _ _ _ (by rw [hj]; rfl)
  · rw [World.cell?_setCell_other _ _ _ _ (by intro e'; cases e'; exact e rfl)]
    exact hj
theorem Sorting.swapG {w wr : World} {g : Nat} {d d1 : Array Int} (h : Sorting w g d d1 wr) {G : Nat → Int} (hG : ∀ t, G t = d1[t]!) {i j : Nat} (hi : i < d1.size) (hj : j < d1.size) (m : Nat) :
    Sorting w g d (swapU d1 i j) (((wr.drewN m).setCell ⟨g, i, none⟩ (.int .u32 (G j))).setCell ⟨g, j, none⟩ (.int .u32 (G i))) := by
  rw [hG, hG]
  exact h.swap hi hj m
theorem Sorting.swapE {w wr : World} {g : Nat} {d d1 : Array Int} (h : Sorting w g d d1 wr) {G : Nat → Int} (hG : ∀ t, G t = d1[t]!) {i j : Nat} (hi : i < d1.size) (hj : j < d1.size) :
    Sorting w g d (swapU d1 i j) (((wr.setCell ⟨g, i, none⟩ (.int .u32 (G j))).setCell ⟨g, j, none⟩ (.int .u32 (G i))).drew) := by
  rw [hG, hG]
  exact (h.trans (swap_world h.row hi hj)).drew
theorem less_quiet (x y : Int) (w : World) (k n : Nat) : Calls Try.prog 56 #[.int .u32 x, .int .u32 y] (w.drewN (k + n)) fun e w' => e = .returned (.bool (decide (x < y))) ∧ ∃ m, w' = w.drewN (k + m) :=
  (less_any x y _).mono (by rintro e w' ⟨rfl, rfl⟩; exact ⟨rfl, n, rfl⟩)
set_option maxRecDepth 100000 in
set_option maxHeartbeats 2000000 in
theorem sift_any (g n c : Nat) (d : Array Int) (hd : d.size = n) (hn : n ≤ 1000000) (lo hi f : Nat) (hlo : lo ≤ 1000000) (hf : f + hi ≤ n) (w : World) (hrow : RowU w g d) :
    Calls Try.prog 69 #[.slice (some ⟨g, 0, none⟩) n c, .int .i64 lo, .int .i64 hi, .int .i64 f] w fun e w' => e = .returned (.tuple #[]) ∧ ∃ d', Sorting w g d d' w' := by
  have HD := Lib.hid hd
  have HROW := Lib.hid hrow
  clear hd hrow
  go_enter Try.func69, Try.ntmps69
  go_wp2
  go_loopw [8] (fun vi wr => ∃ (r : Nat) (d' : Array Int), vi = .int .i64 r ∧ r ≤ 1000000 ∧ Sorting w g d d' wr) (fun vi _ => hi - (intU vi).toNat)
  case atStart => exact ⟨lo, d, rfl, hlo, Sorting.refl HROW.out⟩
  case round =>
    obtain ⟨r, d1, rfl, hr, hs1⟩ := hrel
    have H1 := Lib.hid hs1
    have sz1 : d1.size = n := hs1.size.trans HD.out
    obtain ⟨G1, hG1⟩ : ∃ G : Nat → Int, ∀ t, G t = d1[t]! := ⟨fun t => d1[t]!, fun _ => rfl⟩
    have cw1 : ∀ t, t < n → World.cell? wr ⟨g, t, none⟩ = some (.int .u32 (G1 t)) := fun t ht => by rw [hG1]; exact (hs1.row t (by omega)).1
    have fw1 : ∀ t, t < n → World.frozen? wr ⟨g, t, none⟩ = false := fun t ht => (hs1.row t (by omega)).2
    have HG1 := Lib.hid hG1
    have HSZ1 := Lib.hid sz1
    clear hs1 hG1 sz1
    go_wp2
    · go_end0
      exact ⟨rfl, d1, H1.out⟩
    · have e1 : IntKind.i64.wrap ((f : Int) + (r : Int)) = (f : Int) + (r : Int) := IntWalk.i64_in _ (by omega)
      have e2 : IntKind.i64.wrap ((f : Int) + (2 * (r : Int) + 1)) = (f : Int) + (2 * (r : Int) + 1) := IntWalk.i64_in _ (by omega)
      have a1 : (0 : Int) ≤ (f : Int) + (r : Int) := by omega
      have a2 : (f : Int) + (r : Int) < n := by omega
      have a3 : (0 : Int) ≤ (f : Int) + (2 * (r : Int) + 1) := by omega
      have a4 : (f : Int) + (2 * (r : Int) + 1) < n := by omega
      have b2 : f + r < n := by omega
      have b4 : f + (2 * r + 1) < n := by omega
      by_cases h3 : 2 * (r : Int) + 1 + 1 < hi
      · have e3 : IntKind.i64.wrap ((f : Int) + (2 * (r : Int) + 1 + 1)) = (f : Int) + (2 * (r : Int) + 1 + 1) := IntWalk.i64_in _ (by omega)
        have a5 : (0 : Int) ≤ (f : Int) + (2 * (r : Int) + 1) + 1 := by omega
        have a6 : (f : Int) + (2 * (r : Int) + 1) + 1 < n := by omega
        have a7 : (0 : Int) ≤ (f : Int) + (2 * (r : Int) + 1 + 1) := by omega
        have a8 : (f : Int) + (2 * (r : Int) + 1 + 1) < n := by omega
        have b6 : f + (2 * r + 1) + 1 < n := by omega
        have b8 : f + (2 * r + 1 + 1) < n := by omega
        go_quiet (first | (go_at_call 56; first | exact Calls.quiet_of_same (less_any _ _ _) | exact less_quiet _ _ _ _ _))
        go_wp2
        · go_quiet (first | (go_at_call 56; first | exact Calls.quiet_of_same (less_any _ _ _) | exact less_quiet _ _ _ _ _))
          go_wp2
          · (((try simp only [Exit.inBlock, Exit.then]); refine bodyPost_ret (results_none rfl _ _ _) rfl ?_))
            exact ⟨rfl, d1, (H1.out.drewN _).drewN _⟩
          · go_region
            all_goals go_wp2
            go_roundw
            case rel =>
              refine ⟨2 * r + 1 + 1, swapU d1 (f + r) (f + (2 * r + 1 + 1)), by first | rfl | go_num | (congr 1; omega), by omega, ?_⟩
              rw [HG1.out, HG1.out]
              exact H1.out.swap (by rw [HSZ1.out]; exact b2) (by rw [HSZ1.out]; exact b8) _
            case measure => simp [intU]; omega
        · go_quiet (first | (go_at_call 56; first | exact Calls.quiet_of_same (less_any _ _ _) | exact less_quiet _ _ _ _ _))
          go_wp2
          · (((try simp only [Exit.inBlock, Exit.then]); refine bodyPost_ret (results_none rfl _ _ _) rfl ?_))
            exact ⟨rfl, d1, (H1.out.drewN _).drewN _⟩
          · go_region
            all_goals go_wp2
            go_roundw
            case rel =>
              refine ⟨2 * r + 1, swapU d1 (f + r) (f + (2 * r + 1)), by first | rfl | go_num | (congr 1; omega), by omega, ?_⟩
              rw [HG1.out, HG1.out]
              exact H1.out.swap (by rw [HSZ1.out]; exact b2) (by rw [HSZ1.out]; exact b4) _
            case measure => simp [intU]; omega
      · go_quiet (first | (go_at_call 56; first | exact Calls.quiet_of_same (less_any _ _ _) | exact less_quiet _ _ _ _ _))
        go_wp2
        go_quiet (first | (go_at_call 56; first | exact Calls.quiet_of_same (less_any _ _ _) | exact less_quiet _ _ _ _ _))
        go_wp2
        · (((try simp only [Exit.inBlock, Exit.then]); refine bodyPost_ret (results_none rfl _ _ _) rfl ?_))
          exact ⟨rfl, d1, (H1.out.drewN _).drewN _⟩
        · go_region
          all_goals go_wp2
          go_roundw
          case rel =>
            refine ⟨2 * r + 1, swapU d1 (f + r) (f + (2 * r + 1)), by first | rfl | go_num | (congr 1; omega), by omega, ?_⟩
            rw [HG1.out, HG1.out]
            exact H1.out.swap (by rw [HSZ1.out]; exact b2) (by rw [HSZ1.out]; exact b4) _
          case measure => simp [intU]; omega
theorem sift_int (g n c : Nat) (d : Array Int) (hd : d.size = n) (hn : n ≤ 1000000) (lo hi f : Int) (hl0 : 0 ≤ lo) (hlo : lo ≤ 1000000) (hh0 : 0 ≤ hi) (hf0 : 0 ≤ f) (hf : f + hi ≤ n) (w : World) (hrow : RowU w g d) :
    Calls Try.prog 69 #[.slice (some ⟨g, 0, none⟩) n c, .int .i64 lo, .int .i64 hi, .int .i64 f] w fun e w' => e = .returned (.tuple #[]) ∧ ∃ d', Sorting w g d d' w' := by
  obtain ⟨lo, rfl⟩ := Int.eq_ofNat_of_zero_le hl0
  obtain ⟨hi, rfl⟩ := Int.eq_ofNat_of_zero_le hh0
  obtain ⟨f, rfl⟩ := Int.eq_ofNat_of_zero_le hf0
  exact sift_any g n c d hd hn lo hi f (by omega) (by omega) w hrow
theorem half (x : Int) (h : -1 ≤ x) : -1 ≤ x.tdiv 2 ∧ (x.tdiv 2 ≤ x ∨ x.tdiv 2 = 0) := by
  by_cases h0 : 0 ≤ x
  · rw [Int.tdiv_eq_ediv_of_nonneg h0]
    omega
  · rw [show x = -1 by omega]
    decide
set_option maxRecDepth 100000 in
set_option maxHeartbeats 2000000 in
theorem heap_any (g n c : Nat) (d : Array Int) (hd : d.size = n) (hn : n ≤ 1000000) (a b : Nat) (hab : a ≤ b) (hb : b ≤ n) (w : World) (hrow : RowU w g d) :
    Calls Try.prog 51 #[.slice (some ⟨g, 0, none⟩) n c, .int .i64 a, .int .i64 b] w fun e w' => e = .returned (.tuple #[]) ∧ ∃ d', Sorting w g d d' w' := by
  have HD := Lib.hid hd
  have HROW := Lib.hid hrow
  clear hd hrow
  go_enter Try.func51, Try.ntmps51
  have q0 : -1 ≤ ((b : Int) - a - 1).tdiv 2 ∧ ((b : Int) - a - 1).tdiv 2 ≤ b := by
    have q := half ((b : Int) - a - 1) (by omega)
    omega
  go_wp2
  go_loopw [9] (fun vi wr => ∃ (i : Int) (d' : Array Int), vi = .int .i64 i ∧ -1 ≤ i ∧ i ≤ b ∧ Sorting w g d d' wr) (fun vi _ => (intU vi + 1).toNat)
  case atStart => exact ⟨_, d, rfl, q0.1, q0.2, Sorting.refl HROW.out⟩
  case round =>
    obtain ⟨i, d1, rfl, hi1, hi2, hs1⟩ := hrel
    have H1 := Lib.hid hs1
    have HSZ1 := Lib.hid (hs1.size.trans HD.out)
    clear hs1
    go_wp2_with (go_at_call 69; (with_reducible refine (sift_int g n c _ HSZ1.out hn _ _ _ (by omega) (by omega) (by omega) (by omega) (by omega) _ H1.out.row).mono ?_); rintro e w1 ⟨rfl, d2, hs2⟩)
    · refine ⟨⟨_, d2, rfl, by omega, by omega, H1.out.trans hs2⟩, ?_⟩
      simp [intU]
      omega
    · go_loopw [10] (fun vi wr => ∃ (i : Int) (d' : Array Int), vi = .int .i64 i ∧ -1 ≤ i ∧ i < (b : Int) - a ∧ Sorting w g d d' wr) (fun vi _ => (intU vi + 1).toNat)
      case atStart => exact ⟨_, d1, rfl, by omega, by omega, H1.out⟩
      case round =>
        obtain ⟨i, d1, rfl, hi1, hi2, hs1⟩ := hrel
        have H2 := Lib.hid hs1
        have sz2 : d1.size = n := hs1.size.trans HD.out
        obtain ⟨G2, hG2⟩ : ∃ G : Nat → Int, ∀ t, G t = d1[t]! := ⟨fun t => d1[t]!, fun _ => rfl⟩
        have cw2 : ∀ t, t < n → World.cell? wr ⟨g, t, none⟩ = some (.int .u32 (G2 t)) := fun t ht => by rw [hG2]; exact (hs1.row t (by omega)).1
        have fw2 : ∀ t, t < n → World.frozen? wr ⟨g, t, none⟩ = false := fun t ht => (hs1.row t (by omega)).2
        have HG2 := Lib.hid hG2
        have HSZ2 := Lib.hid sz2
        clear hs1 hG2 sz2
        by_cases hk0 : 0 ≤ i
        · obtain ⟨k, rfl⟩ := Int.eq_ofNat_of_zero_le hk0
          have e1 : IntKind.i64.wrap ((a : Int) + (k : Int)) = (a : Int) + (k : Int) := IntWalk.i64_in _ (by omega)
          have a1 : (0 : Int) ≤ (a : Int) + (k : Int) := by omega
          have a2 : (a : Int) + (k : Int) < n := by omega
          have a3 : (0 : Int) ≤ (a : Int) := by omega
          have a4 : (a : Int) < n := by omega
          have b2 : a + k < n := by omega
          have b4 : a < n := by omega
          have st2 : World.cell? (World.setCell wr ⟨g, a, none⟩ (.int .u32 (G2 (a + k)))) ⟨g, a + k, none⟩ = some (.int .u32 (G2 (a + k))) := still (cw2 _ b4) (cw2 _ b2)
          go_wp2
          go_region
          all_goals go_wp2_with (go_at_call 69; (with_reducible refine (sift_int g n c _ ((swapU_size _ _ _).trans HSZ2.out) hn _ _ _ (by omega) (by omega) (by omega) (by omega) (by omega) _ (H2.out.swapE HG2.out (by rw [HSZ2.out]; exact b4) (by rw [HSZ2.out]; exact b2)).row).mono ?_); rintro e w1 ⟨rfl, d2, hs2⟩)
          refine ⟨⟨_, d2, rfl, by omega, by omega, (H2.out.swapE HG2.out (by rw [HSZ2.out]; exact b4) (by rw [HSZ2.out]; exact b2)).trans hs2⟩, ?_⟩
          first | (simp [intU]; done) | (simp [intU]; omega)
        · go_wp2
          go_end0
          exact ⟨rfl, d1, H2.out⟩
set_option maxRecDepth 100000 in
set_option maxHeartbeats 2000000 in
theorem reverse_any (g n c : Nat) (d : Array Int) (hd : d.size = n) (hn : n ≤ 1000000) (a b : Nat) (hab : a ≤ b) (hb : b ≤ n) (w : World) (hrow : RowU w g d) :
    Calls Try.prog 54 #[.slice (some ⟨g, 0, none⟩) n c, .int .i64 a, .int .i64 b] w fun e w' => e = .returned (.tuple #[]) ∧ ∃ d', Sorting w g d d' w' := by
  have HD := Lib.hid hd
  have HROW := Lib.hid hrow
  clear hd hrow
  go_enter Try.func54, Try.ntmps54
  go_wp2
  go_loopw [6, 7] (fun vi vj wr => ∃ (i : Nat) (j : Int) (d' : Array Int), vi = .int .i64 i ∧ vj = .int .i64 j ∧ i ≤ b ∧ -1 ≤ j ∧ j < b ∧ Sorting w g d d' wr) (fun vi _ _ => b - (intU vi).toNat)
  case atStart => exact ⟨a, _, d, rfl, rfl, hab, by omega, by omega, Sorting.refl HROW.out⟩
  case round =>
    obtain ⟨i, j, d1, rfl, rfl, hi1, hj1, hj2, hs1⟩ := hrel
    have H2 := Lib.hid hs1
    have sz2 : d1.size = n := hs1.size.trans HD.out
    obtain ⟨G2, hG2⟩ : ∃ G : Nat → Int, ∀ t, G t = d1[t]! := ⟨fun t => d1[t]!, fun _ => rfl⟩
    have cw2 : ∀ t, t < n → World.cell? wr ⟨g, t, none⟩ = some (.int .u32 (G2 t)) := fun t ht => by rw [hG2]; exact (hs1.row t (by omega)).1
    have fw2 : ∀ t, t < n → World.frozen? wr ⟨g, t, none⟩ = false := fun t ht => (hs1.row t (by omega)).2
    have HG2 := Lib.hid hG2
    have HSZ2 := Lib.hid sz2
    clear hs1 hG2 sz2
    by_cases hij : (i : Int) < j
    · obtain ⟨k, rfl⟩ := Int.eq_ofNat_of_zero_le (show 0 ≤ j by omega)
      have a1 : (0 : Int) ≤ (i : Int) := by omega
      have a2 : (i : Int) < n := by omega
      have a3 : (0 : Int) ≤ (k : Int) := by omega
      have a4 : (k : Int) < n := by omega
      have b2 : i < n := by omega
      have b4 : k < n := by omega
      have st2 : World.cell? (World.setCell wr ⟨g, i, none⟩ (.int .u32 (G2 (k)))) ⟨g, k, none⟩ = some (.int .u32 (G2 (k))) := still (cw2 _ b2) (cw2 _ b4)
      go_wp2
      go_region
      all_goals go_wp2
      go_roundw
      case rel => exact ⟨i + 1, _, swapU d1 i k, by go_num, rfl, by omega, by omega, by omega, (H2.out.swapG HG2.out (by rw [HSZ2.out]; exact b2) (by rw [HSZ2.out]; exact b4) _)⟩
      case measure => first | (simp [intU]; done) | (simp [intU]; omega)
    · go_wp2
      go_end0
      exact ⟨rfl, d1, H2.out⟩
end Go.Proofs.Ytmncpcchdhieoaa
