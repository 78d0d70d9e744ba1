/- The library's sort of addresses: its own face. -/
import Derived.Test.YtmncpcchdhieoaaChecked
import Derived.WalkKit
import Derived.BigGuard
import Derived.BigCall
import Derived.CellFam
import Derived.Deep.Draws
import Derived.Deep.QuietTactic
import Derived.BigQuiet
import Derived.BigRegion
import Derived.Lib.Hide
import Derived.Below
import Derived.Laws.Rows
import Derived.Sort.Row
import Derived.ProofKit
import Derived.Deep.RegionHeld3
import Derived.OrdersHeld
import Derived.StillTailTactics
import Derived.Deep.CutBlock
import Derived.Deep.DeepCutAuto
import Derived.Deep.LoopGhost
import Derived.Maps.Range
import Derived.Sort.WalkA14
import Derived.Sort.LotD1
import Derived.Test.YtmncpcchdhieoaaSra
import Derived.Test.YtmncpcchdhieoaaSrb
import Derived.Test.YtmncpcchdhieoaaSrg
import Derived.Test.YtmncpcchdhieoaaShelf
namespace Go.Proofs.Ytmncpcchdhieoaa
open Go.RowKit Go.Sort
set_option linter.unusedVariables false
set_option linter.unusedSimpArgs false
set_option maxRecDepth 100000 in
set_option maxHeartbeats 2000000 in
theorem sortU_any (g n c : Nat) (d : Array Int) (hd : d.size = n) (hn : n ≤ 1000000) (w : World) (hrow : RowU w g d) (hg : g < w.heap.size) :
    Calls Try.prog 17 #[.slice (some ⟨g, 0, none⟩) n c] w fun e w' => e = .returned (.tuple #[]) ∧ ∃ d', Sorting w g d d' w' := by
  have hLen : ∀ w, Calls Try.prog 35 #[.int .u64 (n : Int)] w fun e w' => e = .returned (.int .i64 (bitsLen n : Nat)) ∧ w' = w := fun w => by
    have h := Try.bits_Len (n : Int) w (by omega) (by omega)
    rwa [Int.toNat_natCast, bitLen_eq _ (by omega)] at h
  have hk : bitsLen n ≤ 62 := (bitsLen_le_iff n 62).2 (by omega)
  have hu : IntKind.u64.wrap (n : Int) = n := by rw [IntKind.wrap_u64]; omega
  have HD := Lib.hid hd
  have HROW := Lib.hid hrow
  clear hd hrow
  go_enter Try.func17, Try.ntmps17
  go_wp2_with (first | (go_at_call 35; refine (hLen _).mono ?_; rintro e w' ⟨rfl, rfl⟩) | (go_at_call 34; (with_reducible refine (pdq_all g n c hn n _ HD.out _ _ _ (by omega) (by omega) (by omega) (by omega) (by omega) (by omega) _ HROW.out hg).mono ?_); rintro e w1 ⟨rfl, d2, hs⟩))
  go_end0
  exact ⟨rfl, d2, hs⟩
theorem ins_nil (c : Nat) (w : World) : Calls Try.prog 50 #[.slice none 0 c, .int .i64 0, .int .i64 0] w fun e w' => e = .returned (.tuple #[]) ∧ w' = w := by
  go_enter Try.func50, Try.ntmps50
  go_wp2
  go_loopw [6] (fun vi wr => vi = .int .i64 1 ∧ wr = w) (fun _ _ => 0)
  case atStart => exact ⟨rfl, rfl⟩
  case round =>
    obtain ⟨rfl, rfl⟩ := hrel
    go_wp2
    go_end0
    exact ⟨rfl, rfl⟩
theorem pdq_nil (c : Nat) (l : Int) (w : World) : Calls Try.prog 34 #[.slice none 0 c, .int .i64 0, .int .i64 0, .int .i64 l] w fun e w' => e = .returned (.tuple #[]) ∧ w' = w := by
  go_enter Try.func34, Try.ntmps34
  go_wp2
  go_loopw [1, 2, 3, 8, 9] (fun va vb vl v8 v9 wr => va = .int .i64 0 ∧ vb = .int .i64 0 ∧ vl = .int .i64 l ∧ v8 = .bool true ∧ v9 = .bool true ∧ wr = w) (fun _ _ _ _ _ _ => 0)
  case atStart => exact ⟨rfl, rfl, rfl, rfl, rfl, rfl⟩
  case round =>
    obtain ⟨rfl, rfl, rfl, rfl, rfl, rfl⟩ := hrel
    go_wp2_with (go_at_call 50; refine (ins_nil _ _).mono ?_; rintro e w1 ⟨rfl, rfl⟩)
    (((try simp only [Exit.inBlock, Exit.then]); refine bodyPost_ret (results_none rfl _ _ _) rfl ?_))
    exact ⟨rfl, rfl⟩
theorem sortU_nil (c : Nat) (w : World) : Calls Try.prog 17 #[.slice none 0 c] w fun e w' => e = .returned (.tuple #[]) ∧ w' = w := by
  have hLen : ∀ w, Calls Try.prog 35 #[.int .u64 0] w fun e w' => ∃ l : Int, e = .returned (.int .i64 l) ∧ w' = w := fun w =>
    (Try.bits_Len 0 w (by omega) (by omega)).mono (fun e w' h => ⟨_, h.1, h.2⟩)
  go_enter Try.func17, Try.ntmps17
  go_wp2_with (first | (go_at_call 35; refine (hLen _).mono ?_; rintro e w' ⟨l, rfl, rfl⟩) | (go_at_call 34; refine (pdq_nil _ _ _).mono ?_; rintro e w1 ⟨rfl, rfl⟩))
  go_end0
  exact ⟨rfl, rfl⟩
end Go.Proofs.Ytmncpcchdhieoaa
