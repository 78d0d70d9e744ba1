/- The library's sort of addresses, whole. -/
import Derived.Test.YtmncpcchdhieoaaChecked
import Derived.WalkKit
import Derived.BigGuard
import Derived.BigCall
import Derived.CellFam
import Derived.Deep.Draws
import Derived.Deep.QuietTactic
import Derived.BigQuiet
import Derived.BigRegion
import Derived.Lib.Hide
import Derived.Below
import Derived.Laws.Rows
import Derived.Sort.Row
import Derived.ProofKit
import Derived.Deep.RegionHeld3
import Derived.OrdersHeld
import Derived.StillTailTactics
import Derived.Deep.CutBlock
import Derived.Deep.DeepCutAuto
import Derived.Deep.LoopGhost
import Derived.Maps.Range
import Derived.Sort.WalkA14
import Derived.Sort.LotD1
import Derived.Test.YtmncpcchdhieoaaSra
import Derived.Test.YtmncpcchdhieoaaSrb
import Derived.Test.YtmncpcchdhieoaaSrc
import Derived.Test.YtmncpcchdhieoaaSrd
import Derived.Test.YtmncpcchdhieoaaSre
import Derived.Test.YtmncpcchdhieoaaSrf
import Derived.Test.YtmncpcchdhieoaaShelf
namespace Go.Proofs.Ytmncpcchdhieoaa
open Go.RowKit Go.Sort
set_option linter.unusedVariables false
set_option linter.unusedSimpArgs false
theorem Sorting.none {w wr w1 : World} {g : Nat} {d d1 : Array Int} (h : Sorting w g d d1 wr) (hg : g < w.heap.size) (k : wr.grownBy w1 none) : Sorting w g d d1 w1 :=
  ⟨h.perm, h.row.kept (Nat.lt_of_lt_of_le hg h.grown.size) k (by simp), h.grown.andThen k (fun j e => by simp at e)⟩
set_option maxRecDepth 100000 in
set_option maxHeartbeats 2000000 in
theorem pdq_all (g n c : Nat) (hn : n ≤ 1000000) (N : Nat) : ∀ (d : Array Int) (hd : d.size = n) (a b l : Int) (h0 : 0 ≤ a) (hab : a ≤ b) (hb : b ≤ n) (hN : b - a ≤ N) (hl : 0 ≤ l) (hl1 : l ≤ 1000) (w : World) (hrow : RowU w g d) (hg : g < w.heap.size),
    Calls Try.prog 34 #[.slice (some ⟨g, 0, none⟩) n c, .int .i64 a, .int .i64 b, .int .i64 l] w fun e w' => e = .returned (.tuple #[]) ∧ ∃ d', Sorting w g d d' w' := by
  induction N using Nat.strongRecOn with
  | _ N IH =>
    intro d hd a b l h0 hab hb hN hl hl1 w hrow hg
    obtain ⟨a0, rfl⟩ := Int.eq_ofNat_of_zero_le h0
    obtain ⟨b0, rfl⟩ := Int.eq_ofNat_of_zero_le (show 0 ≤ b by omega)
    obtain ⟨l0, rfl⟩ := Int.eq_ofNat_of_zero_le hl
    have HD := Lib.hid hd
    have HROW := Lib.hid hrow
    have HIH := Lib.hid IH
    clear hd hrow IH
    go_enter Try.func34, Try.ntmps34
    go_wp2
    go_loopg [1, 2, 3, 8, 9] (b0 - a0) (fun k va vb vl v8 v9 wr => ∃ (a b l : Nat) (wb wp : Bool) (d' : Array Int), va = .int .i64 a ∧ vb = .int .i64 b ∧ vl = .int .i64 l ∧ v8 = .bool wb ∧ v9 = .bool wp ∧ a ≤ b ∧ b ≤ n ∧ b - a ≤ k ∧ b - a ≤ N ∧ l ≤ 1000 ∧ Sorting w g d d' wr)
    case atStart => exact ⟨a0, b0, l0, true, true, d, rfl, rfl, rfl, rfl, rfl, by omega, by omega, by omega, by omega, by omega, Sorting.refl HROW.out⟩
    case round =>
      obtain ⟨a, b, l, wb, wp, d1, rfl, rfl, rfl, rfl, rfl, q1, q2, q3, q4, q5, HS⟩ := hrel
      by_cases h12 : (b : Int) - a ≤ 12
      · go_wp2_with (go_at_call 50; (with_reducible refine (insertion_any g n c _ (HS.size.trans HD.out) hn _ _ (by omega) (by omega) _ HS.row).mono ?_); rintro e w1 ⟨rfl, d2, hs⟩; replace HS := HS.trans hs)
        (((try simp only [Exit.inBlock, Exit.then]); refine bodyPost_ret (results_none rfl _ _ _) rfl ?_))
        exact ⟨rfl, _, HS⟩
      · by_cases hz : l = 0
        · subst hz
          go_wp2_with (go_at_call 51; (with_reducible refine (heap_any g n c _ (HS.size.trans HD.out) hn _ _ (by omega) (by omega) _ HS.row).mono ?_); rintro e w1 ⟨rfl, d2, hs⟩; replace HS := HS.trans hs)
          (((try simp only [Exit.inBlock, Exit.then]); refine bodyPost_ret (results_none rfl _ _ _) rfl ?_))
          exact ⟨rfl, _, HS⟩
        · skip
          go_upto_if 35 with (fail)
          go_cut [3] (fun vl wx => ∃ (l' : Nat), vl = .int .i64 l' ∧ l' ≤ 1000 ∧ ∃ d', Sorting w g d d' wx)
          case first =>
            cases wb
            · go_wp2_with (go_at_call 52; (with_reducible refine (break_any g n c _ (HS.size.trans HD.out) hn _ _ (by omega) (by omega) _ HS.row (Nat.lt_of_lt_of_le hg HS.grown.size)).mono ?_); rintro e w1 ⟨rfl, d2, hs⟩; replace HS := HS.trans hs)
              go_meet
              exact ⟨l - 1, by congr 1; omega, by omega, _, HS⟩
            · go_wp2
              go_meet
              exact ⟨l, rfl, by omega, _, HS⟩
          case rest =>
            clear HS
            obtain ⟨l1, rfl, hl1, d3, HS⟩ := hcut
            go_upto_if 50 with (go_at_call 53; (with_reducible refine (choose_any g n c _ (HS.size.trans HD.out) hn _ _ (by omega) (by omega) _ HS.row (Nat.lt_of_lt_of_le hg HS.grown.size)).mono ?_); rintro e w1 ⟨p, h, hp, rfl, hgr⟩; replace HS := HS.none hg hgr; have HP := Lib.hid hp; clear hp hgr)
            go_cut [11, 12] (fun vp vh wx => ∃ (p1 : Nat) (h1 : Int), vp = .int .i64 p1 ∧ vh = .int .i64 h1 ∧ a ≤ p1 ∧ p1 < b ∧ ∃ d', Sorting w g d d' wx)
            case first =>
              have hp1 := HP.out.1
              have hp2 := HP.out.2
              by_cases h2 : h = 2
              · subst h2
                go_wp2_with (go_at_call 54; (with_reducible refine (reverse_any g n c _ (HS.size.trans HD.out) hn _ _ (by omega) (by omega) _ HS.row).mono ?_); rintro e w1 ⟨rfl, d2, hs⟩; replace HS := HS.trans hs)
                go_meet
                exact ⟨b - 1 - (p - a), 1, by congr 1; omega, rfl, by omega, by omega, _, HS⟩
              · go_wp2
                go_meet
                exact ⟨p, h, rfl, rfl, hp1, hp2, _, HS⟩
            case rest =>
              clear HS HP
              obtain ⟨p, h, rfl, rfl, hp1, hp2, d4, HS⟩ := hcut
              go_upto_region 15 with (fail)
              go_cut [68] (fun v wx => ∃ t : Bool, v = .bool t ∧ wx = wc)
              case first =>
                by_cases h1 : h = 1
                · cases wb <;> cases wp <;> (subst h1; go_wp2; go_meet; exact ⟨_, rfl, rfl⟩)
                · cases wb <;> cases wp <;> (go_wp2; go_meet; exact ⟨_, rfl, rfl⟩)
              case rest =>
                obtain ⟨t, rfl, rfl⟩ := hcut
                go_upto_if 68 with (fail)
                go_cut [11] (fun v wx => v = .int .i64 p ∧ ∃ d', Sorting w g d d' wx)
                case first =>
                  cases t
                  · go_wp2
                    go_meet
                    exact ⟨rfl, _, HS⟩
                  · go_wp2_with (go_at_call 55; (with_reducible refine (partial_any g n c _ (HS.size.trans HD.out) hn _ _ (by omega) (by omega) _ HS.row).mono ?_); rintro e w1 ⟨r, d2, rfl, hs⟩; replace HS := HS.trans hs)
                    · (((try simp only [Exit.inBlock, Exit.then]); refine bodyPost_ret (results_none rfl _ _ _) rfl ?_))
                      exact ⟨rfl, _, HS⟩
                    · go_meet
                      exact ⟨rfl, _, HS⟩
                case rest =>
                  clear HS
                  obtain ⟨rfl, d5, HS⟩ := hcut
                  go_upto_region 17 with (fail)
                  go_cut [87] (fun v wx => ∃ t : Bool, v = .bool t ∧ Sorting w g d d5 wx)
                  case first =>
                    have hs5 := HS
                    clear HS
                    have H5 := Lib.hid hs5
                    have sz5 : d5.size = n := hs5.size.trans HD.out
                    obtain ⟨G5, hG5⟩ : ∃ G : Nat → Int, ∀ t, G t = d5[t]! := ⟨fun t => d5[t]!, fun _ => rfl⟩
                    have cw5 : ∀ t, t < n → World.cell? wc ⟨g, t, none⟩ = some (.int .u32 (G5 t)) := fun t ht => by rw [hG5]; exact (hs5.row t (by omega)).1
                    have fw5 : ∀ t, t < n → World.frozen? wc ⟨g, t, none⟩ = false := fun t ht => (hs5.row t (by omega)).2
                    have HG5 := Lib.hid hG5
                    have HSZ5 := Lib.hid sz5
                    clear hs5 hG5 sz5
                    have lp : (0 : Int) ≤ (p : Int) := by omega
                    have up : (p : Int) < n := by omega
                    have vp : p < n := by omega
                    by_cases ha : 0 < a
                    · have la : (0 : Int) ≤ (a : Int) - 1 := by omega
                      have ua : (a : Int) - 1 < n := by omega
                      have va : a - 1 < n := by omega
                      have hd0 : decide ((0 : Int) < (a : Int)) = true := decide_eq_true (by omega)
                      go_quiet (first | (go_at_call 56; first | exact Calls.quiet_of_same (less_any _ _ _) | exact less_quiet _ _ _ _ _))
                      go_wp2
                      go_meet
                      exact ⟨_, rfl, H5.out.drewN _⟩
                    · obtain rfl : a = 0 := by omega
                      go_quiet (first | (go_at_call 56; first | exact Calls.quiet_of_same (less_any _ _ _) | exact less_quiet _ _ _ _ _))
                      go_wp2
                      go_meet
                      exact ⟨_, rfl, H5.out.drewN _⟩
                  case rest =>
                    clear HS
                    obtain ⟨t, rfl, HS⟩ := hcut
                    cases t
                    · go_wp2_with (first | (go_at_call 58; (with_reducible refine (part_any g n c _ (HS.size.trans HD.out) hn _ _ _ hp1 hp2 (by omega) _ HS.row).mono ?_); rintro e w1 ⟨mid, al, d2, rfl, hm1, hm2, hs⟩; replace HS := HS.trans hs) | (go_at_call 34; (with_reducible refine (HIH.out (N - 1) (by omega) _ (HS.size.trans HD.out) _ _ _ (by omega) (by omega) (by omega) (by omega) (by omega) (by omega) _ HS.row (Nat.lt_of_lt_of_le hg HS.grown.size)).mono ?_); rintro e w1 ⟨rfl, d3, hs⟩; replace HS := HS.trans hs))
                      · go_roundg (b - (mid + 1))
                        case measure => omega
                        case rel => exact ⟨mid + 1, b, l1, _, _, _, by go_num, rfl, rfl, rfl, rfl, by omega, by omega, by omega, by omega, by omega, HS⟩
                      · go_roundg (mid - a)
                        case measure => omega
                        case rel => exact ⟨a, mid, l1, _, _, _, rfl, rfl, rfl, rfl, rfl, by omega, by omega, by omega, by omega, by omega, HS⟩
                    · go_wp2_with (go_at_call 57; (with_reducible refine (parteq_any g n c _ (HS.size.trans HD.out) hn _ _ _ hp1 hp2 (by omega) _ HS.row).mono ?_); rintro e w1 ⟨mid, d2, rfl, hm1, hm2, hs⟩; replace HS := HS.trans hs)
                      go_roundg (b - mid)
                      case measure => omega
                      case rel => exact ⟨mid, b, l1, _, _, _, rfl, rfl, rfl, rfl, rfl, by omega, by omega, by omega, by omega, by omega, HS⟩

end Go.Proofs.Ytmncpcchdhieoaa
