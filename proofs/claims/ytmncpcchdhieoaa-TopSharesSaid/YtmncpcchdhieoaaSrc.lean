/- The library's sort of addresses: the partings. -/
import Derived.Test.YtmncpcchdhieoaaChecked
import Derived.WalkKit
import Derived.BigGuard
import Derived.BigCall
import Derived.CellFam
import Derived.Deep.Draws
import Derived.Deep.QuietTactic
import Derived.BigQuiet
import Derived.BigRegion
import Derived.Lib.Hide
import Derived.Below
import Derived.Laws.Rows
import Derived.Sort.Row
import Derived.ProofKit
import Derived.Deep.RegionHeld3
import Derived.OrdersHeld
import Derived.StillTailTactics
import Derived.Deep.CutBlock
import Derived.Deep.DeepCutAuto
import Derived.Deep.LoopGhost
import Derived.Test.YtmncpcchdhieoaaSra
import Derived.Test.YtmncpcchdhieoaaSrb
namespace Go.Proofs.Ytmncpcchdhieoaa
open Go.RowKit
set_option linter.unusedVariables false
set_option linter.unusedSimpArgs false
set_option maxRecDepth 100000 in
set_option maxHeartbeats 2000000 in
theorem part_any (g n c : Nat) (d : Array Int) (hd : d.size = n) (hn : n ≤ 1000000) (a b pv : Nat) (hap : a ≤ pv) (hpb : pv < b) (hb : b ≤ n) (w : World) (hrow : RowU w g d) :
    Calls Try.prog 58 #[.slice (some ⟨g, 0, none⟩) n c, .int .i64 a, .int .i64 b, .int .i64 pv] w fun e w' => ∃ (p : Nat) (r : Bool) (d' : Array Int), e = .returned (.tuple #[.int .i64 p, .bool r]) ∧ a ≤ p ∧ p < b ∧ Sorting w g d d' w' := by
  have HD := Lib.hid hd
  have HROW := Lib.hid hrow
  clear hd hrow
  have hs0 := Sorting.refl HROW.out
  have H0 := Lib.hid hs0
  have sz0 : d.size = n := hs0.size.trans HD.out
  obtain ⟨G0, hG0⟩ : ∃ G : Nat → Int, ∀ t, G t = d[t]! := ⟨fun t => d[t]!, fun _ => rfl⟩
  have cw0 : ∀ t, t < n → World.cell? w ⟨g, t, none⟩ = some (.int .u32 (G0 t)) := fun t ht => by rw [hG0]; exact (hs0.row t (by omega)).1
  have fw0 : ∀ t, t < n → World.frozen? w ⟨g, t, none⟩ = false := fun t ht => (hs0.row t (by omega)).2
  have HG0 := Lib.hid hG0
  have HSZ0 := Lib.hid sz0
  clear hs0 hG0 sz0
  have la : (0 : Int) ≤ (a : Int) := by omega
  have ua : (a : Int) < n := by omega
  have va : a < n := by omega
  have lpv : (0 : Int) ≤ (pv : Int) := by omega
  have upv : (pv : Int) < n := by omega
  have vpv : pv < n := by omega
  have st0 : World.cell? (World.setCell w ⟨g, a, none⟩ (.int .u32 (G0 (pv)))) ⟨g, pv, none⟩ = some (.int .u32 (G0 (pv))) := still (cw0 _ va) (cw0 _ vpv)
  go_enter Try.func58, Try.ntmps58
  go_wp2
  go_region
  all_goals skip
  go_upto_block 0 with (fail)
  go_cut [10] (fun vi wx => ∃ i1 : Nat, vi = .int .i64 i1 ∧ a < i1 ∧ i1 ≤ b ∧ Sorting w g d (swapU d a pv) wx)
  case first =>
    go_wp2_with (fail)
    go_loopw [10] (fun vi wr => ∃ i1 : Nat, vi = .int .i64 i1 ∧ a < i1 ∧ i1 ≤ b ∧ Sorting w g d (swapU d a pv) wr) (fun vi _ => b - (intU vi).toNat)
    case atStart => exact ⟨(a + 1), (by go_num), by omega, by omega, (H0.out.swapE HG0.out (by rw [HSZ0.out]; exact va) (by rw [HSZ0.out]; exact vpv))⟩
    case round =>
      obtain ⟨i1, rfl, h10, h11, hs1⟩ := hrel
      have H1 := Lib.hid hs1
      have sz1 : (swapU d a pv).size = n := hs1.size.trans HD.out
      obtain ⟨G1, hG1⟩ : ∃ G : Nat → Int, ∀ t, G t = (swapU d a pv)[t]! := ⟨fun t => (swapU d a pv)[t]!, fun _ => rfl⟩
      have cw1 : ∀ t, t < n → World.cell? wr ⟨g, t, none⟩ = some (.int .u32 (G1 t)) := fun t ht => by rw [hG1]; exact (hs1.row t (by omega)).1
      have fw1 : ∀ t, t < n → World.frozen? wr ⟨g, t, none⟩ = false := fun t ht => (hs1.row t (by omega)).2
      have HG1 := Lib.hid hG1
      have HSZ1 := Lib.hid sz1
      clear hs1 hG1 sz1
      by_cases hij : (i1 : Int) ≤ (b : Int) - 1
      · skip
        have la : (0 : Int) ≤ (a : Int) := by omega
        have ua : (a : Int) < n := by omega
        have va : a < n := by omega
        have li1 : (0 : Int) ≤ (i1 : Int) := by omega
        have ui1 : (i1 : Int) < n := by omega
        have vi1 : i1 < n := by omega
        go_wp2_with (fail)
        go_quiet (first | (go_at_call 56; first | exact Calls.quiet_of_same (less_any _ _ _) | exact less_quiet _ _ _ _ _))
        go_wp2
        · go_roundw
          case rel => exact ⟨i1 + 1, by go_num, by omega, by omega, H1.out.drewN _⟩
          case measure => first | (simp [intU]; done) | (simp [intU]; omega)
        · go_meet
          exact ⟨i1, rfl, by omega, by omega, H1.out.drewN _⟩
      · have hd : decide ((i1 : Int) ≤ (b : Int) - 1) = false := decide_eq_false hij
        go_wp2_with (fail)
        go_quiet (first | (go_at_call 56; first | exact Calls.quiet_of_same (less_any _ _ _) | exact less_quiet _ _ _ _ _))
        go_wp2
        go_meet
        exact ⟨i1, rfl, by omega, by omega, H1.out.drewN _⟩
  case rest =>
    obtain ⟨i1, rfl, h10, h11, hs1⟩ := hcut
    go_upto_block 2 with (fail)
    go_cut [11] (fun vi wx => ∃ j1 : Nat, vi = .int .i64 j1 ∧ a ≤ j1 ∧ j1 < b ∧ j1 ≤ (b - 1) ∧ Sorting w g d (swapU d a pv) wx)
    case first =>
      go_wp2_with (fail)
      go_loopw [11] (fun vi wr => ∃ j1 : Nat, vi = .int .i64 j1 ∧ a ≤ j1 ∧ j1 < b ∧ j1 ≤ (b - 1) ∧ Sorting w g d (swapU d a pv) wr) (fun vi _ => (intU vi).toNat)
      case atStart => exact ⟨(b - 1), (by congr 1; omega), by omega, by omega, by omega, hs1⟩
      case round =>
        obtain ⟨j1, rfl, h20, h21, h22, hs2⟩ := hrel
        have H2 := Lib.hid hs2
        have sz2 : (swapU d a pv).size = n := hs2.size.trans HD.out
        obtain ⟨G2, hG2⟩ : ∃ G : Nat → Int, ∀ t, G t = (swapU d a pv)[t]! := ⟨fun t => (swapU d a pv)[t]!, fun _ => rfl⟩
        have cw2 : ∀ t, t < n → World.cell? wr ⟨g, t, none⟩ = some (.int .u32 (G2 t)) := fun t ht => by rw [hG2]; exact (hs2.row t (by omega)).1
        have fw2 : ∀ t, t < n → World.frozen? wr ⟨g, t, none⟩ = false := fun t ht => (hs2.row t (by omega)).2
        have HG2 := Lib.hid hG2
        have HSZ2 := Lib.hid sz2
        clear hs2 hG2 sz2
        by_cases hij : (i1 : Int) ≤ j1
        · skip
          have la : (0 : Int) ≤ (a : Int) := by omega
          have ua : (a : Int) < n := by omega
          have va : a < n := by omega
          have lj1 : (0 : Int) ≤ (j1 : Int) := by omega
          have uj1 : (j1 : Int) < n := by omega
          have vj1 : j1 < n := by omega
          go_wp2_with (fail)
          go_quiet (first | (go_at_call 56; first | exact Calls.quiet_of_same (less_any _ _ _) | exact less_quiet _ _ _ _ _))
          go_wp2
          · go_roundw
            case rel => exact ⟨j1 - 1, by congr 1; omega, by omega, by omega, by omega, H2.out.drewN _⟩
            case measure => first | (simp [intU]; done) | (simp [intU]; omega)
          · go_meet
            exact ⟨j1, rfl, by omega, by omega, by omega, H2.out.drewN _⟩
        · have hd : decide ((i1 : Int) ≤ j1) = false := decide_eq_false hij
          have hd2 : decide (i1 ≤ j1) = false := decide_eq_false (by omega)
          go_wp2_with (fail)
          go_quiet (first | (go_at_call 56; first | exact Calls.quiet_of_same (less_any _ _ _) | exact less_quiet _ _ _ _ _))
          go_wp2
          go_meet
          exact ⟨j1, rfl, by omega, by omega, by omega, H2.out.drewN _⟩
    case rest =>
      obtain ⟨j1, rfl, h20, h21, h22, hs2⟩ := hcut
      have H3 := Lib.hid hs2
      have sz3 : (swapU d a pv).size = n := hs2.size.trans HD.out
      obtain ⟨G3, hG3⟩ : ∃ G : Nat → Int, ∀ t, G t = (swapU d a pv)[t]! := ⟨fun t => (swapU d a pv)[t]!, fun _ => rfl⟩
      have cw3 : ∀ t, t < n → World.cell? wc ⟨g, t, none⟩ = some (.int .u32 (G3 t)) := fun t ht => by rw [hG3]; exact (hs2.row t (by omega)).1
      have fw3 : ∀ t, t < n → World.frozen? wc ⟨g, t, none⟩ = false := fun t ht => (hs2.row t (by omega)).2
      have HG3 := Lib.hid hG3
      have HSZ3 := Lib.hid sz3
      clear hs2 hG3 sz3
      have la : (0 : Int) ≤ (a : Int) := by omega
      have ua : (a : Int) < n := by omega
      have va : a < n := by omega
      have lj1 : (0 : Int) ≤ (j1 : Int) := by omega
      have uj1 : (j1 : Int) < n := by omega
      have vj1 : j1 < n := by omega
      have st3 : World.cell? (World.setCell wc ⟨g, j1, none⟩ (.int .u32 (G3 (a)))) ⟨g, a, none⟩ = some (.int .u32 (G3 (a))) := still (cw3 _ vj1) (cw3 _ va)
      by_cases hij : (i1 : Int) ≤ j1
      · skip
        have li1 : (0 : Int) ≤ (i1 : Int) := by omega
        have ui1 : (i1 : Int) < n := by omega
        have vi1 : i1 < n := by omega
        have st4 : World.cell? (World.setCell wc ⟨g, i1, none⟩ (.int .u32 (G3 (j1)))) ⟨g, j1, none⟩ = some (.int .u32 (G3 (j1))) := still (cw3 _ vi1) (cw3 _ vj1)
        go_wp2
        go_cut [10, 11] from 12 (fun vi vj wx => vi = .int .i64 i1 ∧ vj = .int .i64 j1 ∧ Sorting w g d (swapU (swapU d a pv) i1 j1) wx)
        case first =>
          go_region
          all_goals go_wp2_with (fail)
          all_goals go_meet
          all_goals exact ⟨rfl, rfl, (H3.out.swapE HG3.out (by rw [HSZ3.out]; exact vi1) (by rw [HSZ3.out]; exact vj1))⟩
        case rest =>
          obtain ⟨rfl, rfl, hs9⟩ := hcut
          go_upto_block 4 with (fail)
          go_wp2_with (fail)
          go_loopg [10, 11] b (fun k vi vj wr => ∃ (i j : Nat) (d' : Array Int), vi = .int .i64 i ∧ vj = .int .i64 j ∧ a < i ∧ i ≤ b ∧ a ≤ j ∧ j < b ∧ j ≤ k ∧ Sorting w g d d' wr)
          case atStart => exact ⟨(i1 + 1), (j1 - 1), swapU (swapU d a pv) i1 j1, by go_num, (by congr 1; omega), by omega, by omega, by omega, by omega, by omega, hs9⟩
          case round =>
            obtain ⟨i2, j2, d2, rfl, rfl, g1, g2, g3, g4, g5, hs4⟩ := hrel
            go_upto_block 6 with (fail)
            go_cut [10] (fun vi wx => ∃ i3 : Nat, vi = .int .i64 i3 ∧ a < i3 ∧ i3 ≤ b ∧ Sorting w g d d2 wx)
            case first =>
              go_wp2_with (fail)
              go_loopw [10] (fun vi wr => ∃ i3 : Nat, vi = .int .i64 i3 ∧ a < i3 ∧ i3 ≤ b ∧ Sorting w g d d2 wr) (fun vi _ => b - (intU vi).toNat)
              case atStart => exact ⟨i2, rfl, by omega, by omega, hs4⟩
              case round =>
                obtain ⟨i3, rfl, h50, h51, hs5⟩ := hrel
                have H5 := Lib.hid hs5
                have sz5 : d2.size = n := hs5.size.trans HD.out
                obtain ⟨G5, hG5⟩ : ∃ G : Nat → Int, ∀ t, G t = d2[t]! := ⟨fun t => d2[t]!, fun _ => rfl⟩
                have cw5 : ∀ t, t < n → World.cell? wr ⟨g, t, none⟩ = some (.int .u32 (G5 t)) := fun t ht => by rw [hG5]; exact (hs5.row t (by omega)).1
                have fw5 : ∀ t, t < n → World.frozen? wr ⟨g, t, none⟩ = false := fun t ht => (hs5.row t (by omega)).2
                have HG5 := Lib.hid hG5
                have HSZ5 := Lib.hid sz5
                clear hs5 hG5 sz5
                by_cases hij : (i3 : Int) ≤ j2
                · skip
                  have la : (0 : Int) ≤ (a : Int) := by omega
                  have ua : (a : Int) < n := by omega
                  have va : a < n := by omega
                  have li3 : (0 : Int) ≤ (i3 : Int) := by omega
                  have ui3 : (i3 : Int) < n := by omega
                  have vi3 : i3 < n := by omega
                  go_wp2_with (fail)
                  go_quiet (first | (go_at_call 56; first | exact Calls.quiet_of_same (less_any _ _ _) | exact less_quiet _ _ _ _ _))
                  go_wp2
                  · go_roundw
                    case rel => exact ⟨i3 + 1, by go_num, by omega, by omega, H5.out.drewN _⟩
                    case measure => first | (simp [intU]; done) | (simp [intU]; omega)
                  · go_meet
                    exact ⟨i3, rfl, by omega, by omega, H5.out.drewN _⟩
                · have hd : decide ((i3 : Int) ≤ j2) = false := decide_eq_false hij
                  have hd2 : decide (i3 ≤ j2) = false := decide_eq_false (by omega)
                  go_wp2_with (fail)
                  go_quiet (first | (go_at_call 56; first | exact Calls.quiet_of_same (less_any _ _ _) | exact less_quiet _ _ _ _ _))
                  go_wp2
                  go_meet
                  exact ⟨i3, rfl, by omega, by omega, H5.out.drewN _⟩
            case rest =>
              obtain ⟨i3, rfl, h50, h51, hs5⟩ := hcut
              go_upto_block 8 with (fail)
              go_cut [11] (fun vi wx => ∃ j3 : Nat, vi = .int .i64 j3 ∧ a ≤ j3 ∧ j3 < b ∧ j3 ≤ j2 ∧ Sorting w g d d2 wx)
              case first =>
                go_wp2_with (fail)
                go_loopw [11] (fun vi wr => ∃ j3 : Nat, vi = .int .i64 j3 ∧ a ≤ j3 ∧ j3 < b ∧ j3 ≤ j2 ∧ Sorting w g d d2 wr) (fun vi _ => (intU vi).toNat)
                case atStart => exact ⟨j2, rfl, by omega, by omega, by omega, hs5⟩
                case round =>
                  obtain ⟨j3, rfl, h60, h61, h62, hs6⟩ := hrel
                  have H6 := Lib.hid hs6
                  have sz6 : d2.size = n := hs6.size.trans HD.out
                  obtain ⟨G6, hG6⟩ : ∃ G : Nat → Int, ∀ t, G t = d2[t]! := ⟨fun t => d2[t]!, fun _ => rfl⟩
                  have cw6 : ∀ t, t < n → World.cell? wr ⟨g, t, none⟩ = some (.int .u32 (G6 t)) := fun t ht => by rw [hG6]; exact (hs6.row t (by omega)).1
                  have fw6 : ∀ t, t < n → World.frozen? wr ⟨g, t, none⟩ = false := fun t ht => (hs6.row t (by omega)).2
                  have HG6 := Lib.hid hG6
                  have HSZ6 := Lib.hid sz6
                  clear hs6 hG6 sz6
                  by_cases hij : (i3 : Int) ≤ j3
                  · skip
                    have la : (0 : Int) ≤ (a : Int) := by omega
                    have ua : (a : Int) < n := by omega
                    have va : a < n := by omega
                    have lj3 : (0 : Int) ≤ (j3 : Int) := by omega
                    have uj3 : (j3 : Int) < n := by omega
                    have vj3 : j3 < n := by omega
                    go_wp2_with (fail)
                    go_quiet (first | (go_at_call 56; first | exact Calls.quiet_of_same (less_any _ _ _) | exact less_quiet _ _ _ _ _))
                    go_wp2
                    · go_roundw
                      case rel => exact ⟨j3 - 1, by congr 1; omega, by omega, by omega, by omega, H6.out.drewN _⟩
                      case measure => first | (simp [intU]; done) | (simp [intU]; omega)
                    · go_meet
                      exact ⟨j3, rfl, by omega, by omega, by omega, H6.out.drewN _⟩
                  · have hd : decide ((i3 : Int) ≤ j3) = false := decide_eq_false hij
                    have hd2 : decide (i3 ≤ j3) = false := decide_eq_false (by omega)
                    go_wp2_with (fail)
                    go_quiet (first | (go_at_call 56; first | exact Calls.quiet_of_same (less_any _ _ _) | exact less_quiet _ _ _ _ _))
                    go_wp2
                    go_meet
                    exact ⟨j3, rfl, by omega, by omega, by omega, H6.out.drewN _⟩
              case rest =>
                obtain ⟨j3, rfl, h60, h61, h62, hs6⟩ := hcut
                have H7 := Lib.hid hs6
                have sz7 : d2.size = n := hs6.size.trans HD.out
                obtain ⟨G7, hG7⟩ : ∃ G : Nat → Int, ∀ t, G t = d2[t]! := ⟨fun t => d2[t]!, fun _ => rfl⟩
                have cw7 : ∀ t, t < n → World.cell? wc ⟨g, t, none⟩ = some (.int .u32 (G7 t)) := fun t ht => by rw [hG7]; exact (hs6.row t (by omega)).1
                have fw7 : ∀ t, t < n → World.frozen? wc ⟨g, t, none⟩ = false := fun t ht => (hs6.row t (by omega)).2
                have HG7 := Lib.hid hG7
                have HSZ7 := Lib.hid sz7
                clear hs6 hG7 sz7
                have la : (0 : Int) ≤ (a : Int) := by omega
                have ua : (a : Int) < n := by omega
                have va : a < n := by omega
                have lj3 : (0 : Int) ≤ (j3 : Int) := by omega
                have uj3 : (j3 : Int) < n := by omega
                have vj3 : j3 < n := by omega
                by_cases hij : (i3 : Int) ≤ j3
                · skip
                  have li3 : (0 : Int) ≤ (i3 : Int) := by omega
                  have ui3 : (i3 : Int) < n := by omega
                  have vi3 : i3 < n := by omega
                  have st7 : World.cell? (World.setCell wc ⟨g, i3, none⟩ (.int .u32 (G7 (j3)))) ⟨g, j3, none⟩ = some (.int .u32 (G7 (j3))) := still (cw7 _ vi3) (cw7 _ vj3)
                  go_wp2
                  go_region
                  all_goals go_wp2
                  go_roundg (j3 - 1)
                  case measure => omega
                  case rel => exact ⟨i3 + 1, j3 - 1, swapU d2 i3 j3, by go_num, by congr 1; omega, by omega, by omega, by omega, by omega, by omega, (H7.out.swapG HG7.out (by rw [HSZ7.out]; exact vi3) (by rw [HSZ7.out]; exact vj3) _)⟩
                · skip
                  have st7 : World.cell? (World.setCell wc ⟨g, j3, none⟩ (.int .u32 (G7 (a)))) ⟨g, a, none⟩ = some (.int .u32 (G7 (a))) := still (cw7 _ vj3) (cw7 _ va)
                  go_wp2
                  go_region
                  all_goals go_wp2
                  go_ret2
                  exact ⟨j3, false, _, rfl, by omega, by omega, (H7.out.swapG HG7.out (by rw [HSZ7.out]; exact vj3) (by rw [HSZ7.out]; exact va) _)⟩

      · go_wp2
        go_region
        all_goals go_wp2
        go_ret2
        exact ⟨j1, true, _, rfl, by omega, by omega, (H3.out.swapG HG3.out (by rw [HSZ3.out]; exact vj1) (by rw [HSZ3.out]; exact va) _)⟩

set_option maxRecDepth 100000 in
set_option maxHeartbeats 2000000 in
theorem parteq_any (g n c : Nat) (d : Array Int) (hd : d.size = n) (hn : n ≤ 1000000) (a b pv : Nat) (hap : a ≤ pv) (hpb : pv < b) (hb : b ≤ n) (w : World) (hrow : RowU w g d) :
    Calls Try.prog 57 #[.slice (some ⟨g, 0, none⟩) n c, .int .i64 a, .int .i64 b, .int .i64 pv] w fun e w' => ∃ (p : Nat) (d' : Array Int), e = .returned (.int .i64 p) ∧ a < p ∧ p ≤ b ∧ Sorting w g d d' w' := by
  have HD := Lib.hid hd
  have HROW := Lib.hid hrow
  clear hd hrow
  have hs0 := Sorting.refl HROW.out
  have H0 := Lib.hid hs0
  have sz0 : d.size = n := hs0.size.trans HD.out
  obtain ⟨G0, hG0⟩ : ∃ G : Nat → Int, ∀ t, G t = d[t]! := ⟨fun t => d[t]!, fun _ => rfl⟩
  have cw0 : ∀ t, t < n → World.cell? w ⟨g, t, none⟩ = some (.int .u32 (G0 t)) := fun t ht => by rw [hG0]; exact (hs0.row t (by omega)).1
  have fw0 : ∀ t, t < n → World.frozen? w ⟨g, t, none⟩ = false := fun t ht => (hs0.row t (by omega)).2
  have HG0 := Lib.hid hG0
  have HSZ0 := Lib.hid sz0
  clear hs0 hG0 sz0
  have la : (0 : Int) ≤ (a : Int) := by omega
  have ua : (a : Int) < n := by omega
  have va : a < n := by omega
  have lpv : (0 : Int) ≤ (pv : Int) := by omega
  have upv : (pv : Int) < n := by omega
  have vpv : pv < n := by omega
  have st0 : World.cell? (World.setCell w ⟨g, a, none⟩ (.int .u32 (G0 (pv)))) ⟨g, pv, none⟩ = some (.int .u32 (G0 (pv))) := still (cw0 _ va) (cw0 _ vpv)
  go_enter Try.func57, Try.ntmps57
  go_wp2
  go_cut [8] from 11 (fun vi wx => vi = .int .i64 0 ∧ Sorting w g d (swapU d a pv) wx)
  case first =>
    go_region
    all_goals go_wp2_with (fail)
    all_goals go_meet
    all_goals exact ⟨rfl, (H0.out.swapE HG0.out (by rw [HSZ0.out]; exact va) (by rw [HSZ0.out]; exact vpv))⟩
  case rest =>
    obtain ⟨rfl, hs9⟩ := hcut
    go_upto_block 0 with (fail)
    go_wp2_with (fail)
    go_loopg [9, 10] b (fun k vi vj wr => ∃ (i j : Nat) (d' : Array Int), vi = .int .i64 i ∧ vj = .int .i64 j ∧ a < i ∧ i ≤ b ∧ a ≤ j ∧ j < b ∧ j ≤ k ∧ Sorting w g d d' wr)
    case atStart => exact ⟨(a + 1), (b - 1), swapU d a pv, by go_num, (by congr 1; omega), by omega, by omega, by omega, by omega, by omega, hs9⟩
    case round =>
      obtain ⟨i2, j2, d2, rfl, rfl, g1, g2, g3, g4, g5, hs4⟩ := hrel
      go_upto_block 2 with (fail)
      go_cut [9] (fun vi wx => ∃ i3 : Nat, vi = .int .i64 i3 ∧ a < i3 ∧ i3 ≤ b ∧ Sorting w g d d2 wx)
      case first =>
        go_wp2_with (fail)
        go_loopw [9] (fun vi wr => ∃ i3 : Nat, vi = .int .i64 i3 ∧ a < i3 ∧ i3 ≤ b ∧ Sorting w g d d2 wr) (fun vi _ => b - (intU vi).toNat)
        case atStart => exact ⟨i2, rfl, by omega, by omega, hs4⟩
        case round =>
          obtain ⟨i3, rfl, h50, h51, hs5⟩ := hrel
          have H5 := Lib.hid hs5
          have sz5 : d2.size = n := hs5.size.trans HD.out
          obtain ⟨G5, hG5⟩ : ∃ G : Nat → Int, ∀ t, G t = d2[t]! := ⟨fun t => d2[t]!, fun _ => rfl⟩
          have cw5 : ∀ t, t < n → World.cell? wr ⟨g, t, none⟩ = some (.int .u32 (G5 t)) := fun t ht => by rw [hG5]; exact (hs5.row t (by omega)).1
          have fw5 : ∀ t, t < n → World.frozen? wr ⟨g, t, none⟩ = false := fun t ht => (hs5.row t (by omega)).2
          have HG5 := Lib.hid hG5
          have HSZ5 := Lib.hid sz5
          clear hs5 hG5 sz5
          by_cases hij : (i3 : Int) ≤ j2
          · skip
            have la : (0 : Int) ≤ (a : Int) := by omega
            have ua : (a : Int) < n := by omega
            have va : a < n := by omega
            have li3 : (0 : Int) ≤ (i3 : Int) := by omega
            have ui3 : (i3 : Int) < n := by omega
            have vi3 : i3 < n := by omega
            go_wp2_with (fail)
            go_quiet (first | (go_at_call 56; first | exact Calls.quiet_of_same (less_any _ _ _) | exact less_quiet _ _ _ _ _))
            go_wp2
            · go_roundw
              case rel => exact ⟨i3 + 1, by go_num, by omega, by omega, H5.out.drewN _⟩
              case measure => first | (simp [intU]; done) | (simp [intU]; omega)
            · go_meet
              exact ⟨i3, rfl, by omega, by omega, H5.out.drewN _⟩
          · have hd : decide ((i3 : Int) ≤ j2) = false := decide_eq_false hij
            have hd2 : decide (i3 ≤ j2) = false := decide_eq_false (by omega)
            go_wp2_with (fail)
            go_quiet (first | (go_at_call 56; first | exact Calls.quiet_of_same (less_any _ _ _) | exact less_quiet _ _ _ _ _))
            go_wp2
            go_meet
            exact ⟨i3, rfl, by omega, by omega, H5.out.drewN _⟩
      case rest =>
        obtain ⟨i3, rfl, h50, h51, hs5⟩ := hcut
        go_upto_block 4 with (fail)
        go_cut [10] (fun vi wx => ∃ j3 : Nat, vi = .int .i64 j3 ∧ a ≤ j3 ∧ j3 < b ∧ j3 ≤ j2 ∧ Sorting w g d d2 wx)
        case first =>
          go_wp2_with (fail)
          go_loopw [10] (fun vi wr => ∃ j3 : Nat, vi = .int .i64 j3 ∧ a ≤ j3 ∧ j3 < b ∧ j3 ≤ j2 ∧ Sorting w g d d2 wr) (fun vi _ => (intU vi).toNat)
          case atStart => exact ⟨j2, rfl, by omega, by omega, by omega, hs5⟩
          case round =>
            obtain ⟨j3, rfl, h60, h61, h62, hs6⟩ := hrel
            have H6 := Lib.hid hs6
            have sz6 : d2.size = n := hs6.size.trans HD.out
            obtain ⟨G6, hG6⟩ : ∃ G : Nat → Int, ∀ t, G t = d2[t]! := ⟨fun t => d2[t]!, fun _ => rfl⟩
            have cw6 : ∀ t, t < n → World.cell? wr ⟨g, t, none⟩ = some (.int .u32 (G6 t)) := fun t ht => by rw [hG6]; exact (hs6.row t (by omega)).1
            have fw6 : ∀ t, t < n → World.frozen? wr ⟨g, t, none⟩ = false := fun t ht => (hs6.row t (by omega)).2
            have HG6 := Lib.hid hG6
            have HSZ6 := Lib.hid sz6
            clear hs6 hG6 sz6
            by_cases hij : (i3 : Int) ≤ j3
            · skip
              have la : (0 : Int) ≤ (a : Int) := by omega
              have ua : (a : Int) < n := by omega
              have va : a < n := by omega
              have lj3 : (0 : Int) ≤ (j3 : Int) := by omega
              have uj3 : (j3 : Int) < n := by omega
              have vj3 : j3 < n := by omega
              go_wp2_with (fail)
              go_quiet (first | (go_at_call 56; first | exact Calls.quiet_of_same (less_any _ _ _) | exact less_quiet _ _ _ _ _))
              go_wp2
              · go_roundw
                case rel => exact ⟨j3 - 1, by congr 1; omega, by omega, by omega, by omega, H6.out.drewN _⟩
                case measure => first | (simp [intU]; done) | (simp [intU]; omega)
              · go_meet
                exact ⟨j3, rfl, by omega, by omega, by omega, H6.out.drewN _⟩
            · have hd : decide ((i3 : Int) ≤ j3) = false := decide_eq_false hij
              have hd2 : decide (i3 ≤ j3) = false := decide_eq_false (by omega)
              go_wp2_with (fail)
              go_quiet (first | (go_at_call 56; first | exact Calls.quiet_of_same (less_any _ _ _) | exact less_quiet _ _ _ _ _))
              go_wp2
              go_meet
              exact ⟨j3, rfl, by omega, by omega, by omega, H6.out.drewN _⟩
        case rest =>
          obtain ⟨j3, rfl, h60, h61, h62, hs6⟩ := hcut
          have H7 := Lib.hid hs6
          have sz7 : d2.size = n := hs6.size.trans HD.out
          obtain ⟨G7, hG7⟩ : ∃ G : Nat → Int, ∀ t, G t = d2[t]! := ⟨fun t => d2[t]!, fun _ => rfl⟩
          have cw7 : ∀ t, t < n → World.cell? wc ⟨g, t, none⟩ = some (.int .u32 (G7 t)) := fun t ht => by rw [hG7]; exact (hs6.row t (by omega)).1
          have fw7 : ∀ t, t < n → World.frozen? wc ⟨g, t, none⟩ = false := fun t ht => (hs6.row t (by omega)).2
          have HG7 := Lib.hid hG7
          have HSZ7 := Lib.hid sz7
          clear hs6 hG7 sz7
          have la : (0 : Int) ≤ (a : Int) := by omega
          have ua : (a : Int) < n := by omega
          have va : a < n := by omega
          have lj3 : (0 : Int) ≤ (j3 : Int) := by omega
          have uj3 : (j3 : Int) < n := by omega
          have vj3 : j3 < n := by omega
          by_cases hij : (i3 : Int) ≤ j3
          · skip
            have li3 : (0 : Int) ≤ (i3 : Int) := by omega
            have ui3 : (i3 : Int) < n := by omega
            have vi3 : i3 < n := by omega
            have st7 : World.cell? (World.setCell wc ⟨g, i3, none⟩ (.int .u32 (G7 (j3)))) ⟨g, j3, none⟩ = some (.int .u32 (G7 (j3))) := still (cw7 _ vi3) (cw7 _ vj3)
            go_wp2
            go_region
            all_goals go_wp2
            go_roundg (j3 - 1)
            case measure => omega
            case rel => exact ⟨i3 + 1, j3 - 1, swapU d2 i3 j3, by go_num, by congr 1; omega, by omega, by omega, by omega, by omega, by omega, (H7.out.swapG HG7.out (by rw [HSZ7.out]; exact vi3) (by rw [HSZ7.out]; exact vj3) _)⟩
          · skip
            go_wp2
            go_ret
            first
              | exact ⟨i3, _, rfl, by omega, by omega, H7.out⟩
              | exact ⟨i3, rfl, by omega, by omega, _, H7.out⟩

end Go.Proofs.Ytmncpcchdhieoaa
