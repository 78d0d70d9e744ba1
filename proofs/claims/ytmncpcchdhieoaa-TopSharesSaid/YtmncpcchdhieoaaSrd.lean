/- The library's sort of addresses: the first try. -/
import Derived.Test.YtmncpcchdhieoaaChecked
import Derived.WalkKit
import Derived.BigGuard
import Derived.BigCall
import Derived.CellFam
import Derived.Deep.Draws
import Derived.Deep.QuietTactic
import Derived.BigQuiet
import Derived.BigRegion
import Derived.Lib.Hide
import Derived.Below
import Derived.Laws.Rows
import Derived.Sort.Row
import Derived.ProofKit
import Derived.Deep.RegionHeld3
import Derived.OrdersHeld
import Derived.StillTailTactics
import Derived.Deep.CutBlock
import Derived.Deep.DeepCutAuto
import Derived.Deep.LoopGhost
import Derived.Test.YtmncpcchdhieoaaSra
import Derived.Test.YtmncpcchdhieoaaSrb
namespace Go.Proofs.Ytmncpcchdhieoaa
open Go.RowKit
set_option linter.unusedVariables false
set_option linter.unusedSimpArgs false
set_option maxRecDepth 100000 in
set_option maxHeartbeats 2000000 in
theorem partial_any (g n c : Nat) (d : Array Int) (hd : d.size = n) (hn : n ≤ 1000000) (a b : Nat) (hab : a ≤ b) (hb : b ≤ n) (w : World) (hrow : RowU w g d) :
    Calls Try.prog 55 #[.slice (some ⟨g, 0, none⟩) n c, .int .i64 a, .int .i64 b] w fun e w' => ∃ (r : Bool) (d' : Array Int), e = .returned (.bool r) ∧ Sorting w g d d' w' := by
  have HD := Lib.hid hd
  have HROW := Lib.hid hrow
  clear hd hrow
  go_enter Try.func55, Try.ntmps55
  go_wp2
  go_loopg [7, 8] 5 (fun k vi vk wr => ∃ (i m : Nat) (d' : Array Int), vi = .int .i64 i ∧ vk = .int .i64 m ∧ a < i ∧ (i ≤ b ∨ i = a + 1) ∧ m ≤ 5 ∧ 5 - m ≤ k ∧ Sorting w g d d' wr)
  case atStart => exact ⟨a + 1, 0, d, by go_num, rfl, by omega, by omega, by omega, by omega, Sorting.refl HROW.out⟩
  case round =>
    obtain ⟨i, m, d1, rfl, rfl, hi1, hi2, hm1, hm2, hs1⟩ := hrel
    by_cases hm : m < 5
    · skip
      go_upto_block 2 with (fail)
      go_cut [7] (fun vi wx => ∃ i1 : Nat, vi = .int .i64 i1 ∧ a < i1 ∧ (i1 ≤ b ∨ i1 = a + 1) ∧ Sorting w g d d1 wx)
      case first =>
        go_wp2_with (fail)
        go_loopw [7] (fun vi wr => ∃ i1 : Nat, vi = .int .i64 i1 ∧ a < i1 ∧ (i1 ≤ b ∨ i1 = a + 1) ∧ Sorting w g d d1 wr) (fun vi _ => b - (intU vi).toNat)
        case atStart => exact ⟨i, rfl, hi1, hi2, hs1⟩
        case round =>
          obtain ⟨i1, rfl, g1, g2, hs2⟩ := hrel
          have H2 := Lib.hid hs2
          have sz2 : d1.size = n := hs2.size.trans HD.out
          obtain ⟨G2, hG2⟩ : ∃ G : Nat → Int, ∀ t, G t = d1[t]! := ⟨fun t => d1[t]!, fun _ => rfl⟩
          have cw2 : ∀ t, t < n → World.cell? wr ⟨g, t, none⟩ = some (.int .u32 (G2 t)) := fun t ht => by rw [hG2]; exact (hs2.row t (by omega)).1
          have fw2 : ∀ t, t < n → World.frozen? wr ⟨g, t, none⟩ = false := fun t ht => (hs2.row t (by omega)).2
          have HG2 := Lib.hid hG2
          have HSZ2 := Lib.hid sz2
          clear hs2 hG2 sz2
          by_cases hij : i1 < b
          · skip
            have li1 : (0 : Int) ≤ (i1 : Int) := by omega
            have ui1 : (i1 : Int) < n := by omega
            have vi1 : i1 < n := by omega
            have lpi1 : (0 : Int) ≤ (i1 : Int) - 1 := by omega
            have upi1 : (i1 : Int) - 1 < n := by omega
            have vpi1 : i1 - 1 < n := by omega
            go_wp2_with (fail)
            go_quiet (first | (go_at_call 56; first | exact Calls.quiet_of_same (less_any _ _ _) | exact less_quiet _ _ _ _ _))
            go_wp2
            · go_roundw
              case rel => exact ⟨i1 + 1, by go_num, by omega, by omega, H2.out.drewN _⟩
              case measure => first | (simp [intU]; done) | (simp [intU]; omega)
            · go_meet
              exact ⟨i1, rfl, g1, g2, H2.out.drewN _⟩
          · have hd : decide ((i1 : Int) < b) = false := decide_eq_false (by omega)
            have hd2 : decide (i1 < b) = false := decide_eq_false hij
            go_wp2_with (fail)
            go_quiet (first | (go_at_call 56; first | exact Calls.quiet_of_same (less_any _ _ _) | exact less_quiet _ _ _ _ _))
            go_wp2
            go_meet
            exact ⟨i1, rfl, g1, g2, H2.out.drewN _⟩
      case rest =>
        obtain ⟨i1, rfl, g1, g2, hs2⟩ := hcut
        have H3 := Lib.hid hs2
        have sz3 : d1.size = n := hs2.size.trans HD.out
        obtain ⟨G3, hG3⟩ : ∃ G : Nat → Int, ∀ t, G t = d1[t]! := ⟨fun t => d1[t]!, fun _ => rfl⟩
        have cw3 : ∀ t, t < n → World.cell? wc ⟨g, t, none⟩ = some (.int .u32 (G3 t)) := fun t ht => by rw [hG3]; exact (hs2.row t (by omega)).1
        have fw3 : ∀ t, t < n → World.frozen? wc ⟨g, t, none⟩ = false := fun t ht => (hs2.row t (by omega)).2
        have HG3 := Lib.hid hG3
        have HSZ3 := Lib.hid sz3
        clear hs2 hG3 sz3
        by_cases heq : (i1 : Int) = b
        · obtain rfl : i1 = b := by omega
          go_wp2
          all_goals go_ret
          all_goals exact ⟨Or.inr rfl, _, H3.out⟩
        · by_cases h50 : (b : Int) - (a : Int) < 50
          · go_wp2
            go_ret
            exact ⟨_, _, rfl, H3.out⟩
          · have hib : i1 < b := by omega
            have li1 : (0 : Int) ≤ (i1 : Int) := by omega
            have ui1 : (i1 : Int) < n := by omega
            have vi1 : i1 < n := by omega
            have lpi1 : (0 : Int) ≤ (i1 : Int) - 1 := by omega
            have upi1 : (i1 : Int) - 1 < n := by omega
            have vpi1 : i1 - 1 < n := by omega
            go_upto_region 11 with (fail)
            go_cut [7] (fun vi wx => vi = .int .i64 i1 ∧ Sorting w g d (swapU d1 i1 (i1 - 1)) wx)
            case first =>
              go_region
              all_goals go_wp2_with (fail)
              all_goals go_meet
              all_goals exact ⟨rfl, (H3.out.swapE HG3.out (by rw [HSZ3.out]; exact vi1) (by rw [HSZ3.out]; exact vpi1))⟩
            case rest =>
              obtain ⟨rfl, hs4⟩ := hcut
              go_upto_if 61 with (fail)
              go_cut [7] (fun vi wx => vi = .int .i64 i1 ∧ ∃ d', Sorting w g d d' wx)
              case first =>
                have hsq := hs4
                by_cases hc : (2 : Int) ≤ (i1 : Int) - a
                · skip
                  go_wp2_with (fail)
                  go_loopw [9] (fun vi wr => ∃ (j : Nat) (d' : Array Int), vi = .int .i64 j ∧ j < b ∧ j < b ∧ Sorting w g d d' wr) (fun vi _ => (intU vi).toNat)
                  case atStart => exact ⟨i1 - 1, _, by congr 1; omega, by omega, by omega, hsq⟩
                  case round =>
                    obtain ⟨j, d2, rfl, hj1, hj2, hs4⟩ := hrel
                    have H4 := Lib.hid hs4
                    have sz4 : d2.size = n := hs4.size.trans HD.out
                    obtain ⟨G4, hG4⟩ : ∃ G : Nat → Int, ∀ t, G t = d2[t]! := ⟨fun t => d2[t]!, fun _ => rfl⟩
                    have cw4 : ∀ t, t < n → World.cell? wr ⟨g, t, none⟩ = some (.int .u32 (G4 t)) := fun t ht => by rw [hG4]; exact (hs4.row t (by omega)).1
                    have fw4 : ∀ t, t < n → World.frozen? wr ⟨g, t, none⟩ = false := fun t ht => (hs4.row t (by omega)).2
                    have HG4 := Lib.hid hG4
                    have HSZ4 := Lib.hid sz4
                    clear hs4 hG4 sz4
                    by_cases hij : (1 : Int) ≤ j
                    · skip
                      have lj : (0 : Int) ≤ (j : Int) := by omega
                      have uj : (j : Int) < n := by omega
                      have vj : j < n := by omega
                      have lpj : (0 : Int) ≤ (j : Int) - 1 := by omega
                      have upj : (j : Int) - 1 < n := by omega
                      have vpj : j - 1 < n := by omega
                      go_wp2_with (fail)
                      go_quiet (first | (go_at_call 56; first | exact Calls.quiet_of_same (less_any _ _ _) | exact less_quiet _ _ _ _ _))
                      go_wp2
                      · skip
                        go_meet
                        exact ⟨rfl, _, H4.out.drewN _⟩
                      · go_region
                        all_goals go_wp2
                        go_roundw
                        case rel => exact ⟨j - 1, _, by congr 1; omega, by omega, by omega, (H4.out.swapG HG4.out (by rw [HSZ4.out]; exact vj) (by rw [HSZ4.out]; exact vpj) _)⟩
                        case measure => first | (simp [intU]; done) | (simp [intU]; omega)
                    · go_wp2
                      go_meet
                      exact ⟨rfl, _, H4.out⟩

                · go_wp2
                  go_meet
                  exact ⟨rfl, _, hsq⟩
              case rest =>
                obtain ⟨rfl, dq4, hq4⟩ := hcut
                have hsq := hq4
                by_cases hc : (2 : Int) ≤ (b : Int) - i1
                · skip
                  go_wp2_with (fail)
                  go_loopw [10] (fun vi wr => ∃ (j : Nat) (d' : Array Int), vi = .int .i64 j ∧ i1 < j ∧ j ≤ b ∧ Sorting w g d d' wr) (fun vi _ => b - (intU vi).toNat)
                  case atStart => exact ⟨i1 + 1, _, by go_num, by omega, by omega, hsq⟩
                  case round =>
                    obtain ⟨j, d2, rfl, hj1, hj2, hs5⟩ := hrel
                    have H5 := Lib.hid hs5
                    have sz5 : d2.size = n := hs5.size.trans HD.out
                    obtain ⟨G5, hG5⟩ : ∃ G : Nat → Int, ∀ t, G t = d2[t]! := ⟨fun t => d2[t]!, fun _ => rfl⟩
                    have cw5 : ∀ t, t < n → World.cell? wr ⟨g, t, none⟩ = some (.int .u32 (G5 t)) := fun t ht => by rw [hG5]; exact (hs5.row t (by omega)).1
                    have fw5 : ∀ t, t < n → World.frozen? wr ⟨g, t, none⟩ = false := fun t ht => (hs5.row t (by omega)).2
                    have HG5 := Lib.hid hG5
                    have HSZ5 := Lib.hid sz5
                    clear hs5 hG5 sz5
                    by_cases hij : (j : Int) < b
                    · skip
                      have lj : (0 : Int) ≤ (j : Int) := by omega
                      have uj : (j : Int) < n := by omega
                      have vj : j < n := by omega
                      have lpj : (0 : Int) ≤ (j : Int) - 1 := by omega
                      have upj : (j : Int) - 1 < n := by omega
                      have vpj : j - 1 < n := by omega
                      go_wp2_with (fail)
                      go_quiet (first | (go_at_call 56; first | exact Calls.quiet_of_same (less_any _ _ _) | exact less_quiet _ _ _ _ _))
                      go_wp2
                      · skip
                        go_roundg (gk - 1)
                        case measure => omega
                        case rel => exact ⟨i1, m + 1, _, rfl, by go_num, by omega, by omega, by omega, by omega, H5.out.drewN _⟩
                      · go_region
                        all_goals go_wp2
                        go_roundw
                        case rel => exact ⟨j + 1, _, by go_num, by omega, by omega, (H5.out.swapG HG5.out (by rw [HSZ5.out]; exact vj) (by rw [HSZ5.out]; exact vpj) _)⟩
                        case measure => first | (simp [intU]; done) | (simp [intU]; omega)
                    · go_wp2
                      go_roundg (gk - 1)
                      case measure => omega
                      case rel => exact ⟨i1, m + 1, _, rfl, by go_num, by omega, by omega, by omega, by omega, H5.out⟩

                · go_wp2
                  go_roundg (gk - 1)
                  case measure => omega
                  case rel => exact ⟨i1, m + 1, _, rfl, by go_num, by omega, by omega, by omega, by omega, hsq⟩


    · go_wp2
      go_ret
      exact ⟨_, _, rfl, hs1⟩
end Go.Proofs.Ytmncpcchdhieoaa
