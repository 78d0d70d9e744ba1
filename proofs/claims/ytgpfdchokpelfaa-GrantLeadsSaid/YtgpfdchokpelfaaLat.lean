/- The greatest one of some moments. -/
import Derived.Test.YtgpfdchokpelfaaClk
import Derived.Test.YtgpfdchokpelfaaBlk
namespace Go.Proofs.Ytgpfdchokpelfaa
open Go.ChangeShapes Go.WideShapes Go.ChangeAt Go.RowKit
set_option linter.unusedVariables false

/-- The greatest one of some moments, bounded. -/
def latV (xs : List Int) : Int := xs.foldl (fun o t => max o (clkAdd t 0)) 0
theorem add_zero (t : Int) : clkAdd t 0 = mom t := by unfold clkAdd mom bnd; omega
theorem latV_two (a c : Int) : latV [a, c] = max (mom a) (mom c) := by
  have h1 := mom_range a
  have h2 := mom_range c
  simp only [latV, List.foldl_cons, List.foldl_nil, add_zero]
  omega
theorem latV_one (a : Int) : latV [a] = mom a := by
  have h1 := mom_range a
  simp only [latV, List.foldl_cons, List.foldl_nil, add_zero]
  omega
theorem latV_take (xs : List Int) {k : Nat} (hk : k < xs.length) : latV (xs.take (k + 1)) = max (latV (xs.take k)) (clkAdd (xs.getD k 0) 0) := by
  unfold latV
  rw [List.take_add_one, List.getElem?_eq_getElem hk, Option.toList_some, List.foldl_append, List.getD_eq_getElem?_getD, List.getElem?_eq_getElem hk]
  rfl
theorem latest_any (xs : List Int) (g n c : Nat) (w : World) (hn : n = xs.length) (hl : xs.length ≤ 1000) (h : ∀ i, i < xs.length → w.cell? ⟨g, i, none⟩ = some (.int .i64 (xs.getD i 0))) :
    Calls Try.prog 22 #[.slice (some ⟨g, 0, none⟩) n c] w fun e w' => e = .returned (.int .i64 (latV xs)) ∧ w = w' := by
  subst hn
  have HC := Lib.hid h
  clear h
  go_enter Try.func22, Try.ntmps22
  go_wp2
  go_loopw [3, 8] (fun s i wr => ∃ k : Nat, k ≤ xs.length ∧ i = .int .i64 k ∧ s = .int .i64 (latV (xs.take k)) ∧ w = wr) (fun _ i _ => xs.length - (intOf i).toNat)
  case atStart => exact ⟨0, by omega, rfl, rfl, rfl⟩
  case round =>
    obtain ⟨k, hk, rfl, rfl, rfl⟩ := hrel
    by_cases hlt : k < xs.length
    · have hc := HC.out k hlt
      have HT := Lib.hid (latV_take xs hlt)
      generalize xs.getD k 0 = v at *
      go_wp2_with (go_at_call 21; refine (add_any _ _ _).mono ?_; rintro e w1 ⟨rfl, rfl⟩)
      exact ⟨⟨k + 1, by omega, by go_num, congrArg (Value.int .i64) (by rw [HT.out]; split <;> omega), trivial⟩, by simp [intOf]; omega⟩
    · obtain rfl : k = xs.length := by omega
      have HT : Hid (xs.take xs.length = xs) := List.take_length
      go_wp2
      go_ret
      exact ⟨ret_int (by rw [HT.out]), rfl⟩

set_option maxRecDepth 100000 in
theorem rules_any (x y z : Int) (w : World) : Calls Try.prog 10 #[.agg #[.int .i64 x, .int .i64 y, .int .i64 z]] w fun e w' => e = .returned (.tuple #[.agg #[.int .i64 x, .int .i64 y, .int .i64 z], .agg #[.int .i64 x, .int .i64 y, .int .i64 z]]) ∧ Below w.heap.size w w' := by
  go_enter Try.func10, Try.ntmps10
  go_wp2
  go_region_held3 (fun w' => w'.cell? ⟨w.heap.size, 0, none⟩ = some (.int .i64 x) ∧ w'.cell? ⟨w.heap.size, 1, none⟩ = some (.int .i64 y) ∧ w'.cell? ⟨w.heap.size, 2, none⟩ = some (.int .i64 z)) (go_keep) (fail)
  all_goals
    go_wp2
    refine bodyPost_ret (v := .tuple #[.agg #[.int .i64 x, .int .i64 y, .int .i64 z], .agg #[.int .i64 x, .int .i64 y, .int .i64 z]]) (by simp [results, Try.results10, go_sem]) rfl ⟨rfl, (lowA (lowA (low0 w _) _) _).drew⟩

end Go.Proofs.Ytgpfdchokpelfaa
