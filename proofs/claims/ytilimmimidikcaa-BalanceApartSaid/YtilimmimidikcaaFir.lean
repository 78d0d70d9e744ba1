/- Contracts that make masks. -/
import Derived.Test.YtilimmimidikcaaMsk
import Derived.StillTailTactics
namespace Go.Proofs.Ytilimmimidikcaa
open Go.ChangeShapes Go.WideShapes Go.ChangeAt Go.RowKit
set_option linter.unusedVariables false

theorem or_bit (t : Nat) (ht : t < 8) : bits .or .u8 (2 ^ t - 1) (IntKind.u8.wrap (2 ^ t)) = 2 ^ t - 1 + 2 ^ t := by
  have : t = 0 ∨ t = 1 ∨ t = 2 ∨ t = 3 ∨ t = 4 ∨ t = 5 ∨ t = 6 ∨ t = 7 := by omega
  rcases this with rfl | rfl | rfl | rfl | rfl | rfl | rfl | rfl <;> decide
def lim (n : Int) : Nat := (min (max n 0) 256).toNat
def firstB (n : Int) : List Int := maskTo (fun _ => true) (lim n)
set_option maxRecDepth 100000 in
theorem first_any (n : Int) (w : World) : Calls Try.prog 12 #[.int .i64 n] w fun e w' => e = .returned (.agg (maskA (firstB n))) ∧ Below w.heap.size w w' := by
  obtain ⟨m, hm⟩ : ∃ m, lim n = m := ⟨_, rfl⟩
  have HM := Lib.hid hm
  have hm2 : m ≤ 256 := by rw [← hm]; unfold lim; omega
  have q1 : (m : Int) ≤ min (max n 0) 256 := by rw [← hm]; unfold lim; omega
  have q2 : min (max n 0) 256 ≤ (m : Int) := by rw [← hm]; unfold lim; omega
  clear hm
  go_enter Try.func12, Try.ntmps12
  go_wp2
  all_goals
    go_loopw [4, 8] (fun _ i wr => ∃ k : Nat, k ≤ m ∧ i = .int .i64 k ∧ Blk wr (w.heap.size + 1) (maskA (maskTo (fun _ => true) k)) 28 ∧ (∃ O, O.size = 32 ∧ Blk wr w.heap.size O 28) ∧ Below w.heap.size w wr) (fun _ i _ => m - (intOf i).toNat)
    case atStart =>
      refine ⟨0, by omega, rfl, ?_, ⟨_, rfl, Blk.new2' _ _ _ _⟩, (((Below.refl _ _).alloc (Nat.le_refl _) _).alloc (by simp) _)⟩
      rw [maskTo_zero]
      exact Blk.new2 _ _ _ _
    case round =>
      obtain ⟨k, hk, rfl, hB, ⟨O, hO, hR⟩, hb⟩ := hrel
      have HB := Lib.hid hB
      have HR := Lib.hid hR
      have Hb := Lib.hid hb
      clear hB hR hb
      by_cases hlt : k < m
      · have c := (HB.out.cell (k / 8)).trans (maskA_at (by rw [(maskTo_ok _ k).1]; omega))
        rw [maskTo_at _ k (by omega), byteF_true'] at c
        have f := HB.out.free (k / 8)
        have HS := Lib.hid (maskTo_step (fun _ => true) (k := k) (by omega))
        have hz : (k : Int) < m := by omega
        have X1 : IntKind.i64.wrap ((k : Int) / 8) = (k : Int) / 8 := IntWalk.i64_in _ (by omega)
        obtain ⟨t, ht⟩ : ∃ t, k % 8 = t := ⟨_, rfl⟩
        have ht8 : t < 8 := by omega
        have X2 : (k : Int).tmod 8 = (t : Int) := by rw [← ht, Int.tmod_eq_emod_of_nonneg (by omega)]; omega
        rw [ht] at c HS
        have HT := Lib.hid ht
        clear ht
        have y1 : (0 : Int) ≤ (k : Int) / 8 := by omega
        have y2 : (k : Int) / 8 < 32 := by omega
        have X3 : ((k : Int) / 8).toNat = k / 8 := by omega
        have y5 : (t : Int) < 8 := by omega
        have X5 := or_bit t ht8
        have HS2 : Hid ((maskTo (fun _ => true) k).set (k / 8) (2 ^ t - 1 + 2 ^ t) = maskTo (fun _ => true) (k + 1)) := by
          have h := HS.out
          rw [byteF_true', HT.out, if_pos rfl] at h
          exact h
        clear HS
        go_wp2_with fail
        all_goals go_still_tail 9, (by kernel_rfl)
        all_goals go_wp2
        all_goals exact ⟨⟨k + 1, by omega, by go_num, by have := HB.out.drew.set (k / 8) (.int .u8 (2 ^ t - 1 + 2 ^ t)); rw [maskA_set, HS2.out] at this; exact this, ⟨O, hO, HR.out.drew.other (by omega) _ _⟩, Hb.out.drew.setCell (by simp) _⟩, by simp [intOf]; omega⟩
      · obtain rfl : k = m := by omega
        have HE : Hid (firstB n = maskTo (fun _ => true) k) := by show _ = _; unfold firstB; rw [HM.out]
        have hs : (maskA (maskTo (fun _ => true) k)).size = 32 := by rw [maskA_size]; exact (maskTo_ok _ _).1
        have h1 := maskA_one (maskTo (fun _ => true) k)
        obtain ⟨C, hC⟩ : ∃ C, maskA (maskTo (fun _ => true) k) = C := ⟨_, rfl⟩
        rw [hC] at HB hs h1
        have HF : Hid (maskA (firstB n) = C) := by show _ = _; rw [HE.out, hC]
        clear hC HE
        have hi : (Try.prog.info? 28).map (·.size) = some C.size := by rw [hs]; kernel_rfl
        have HC := Lib.hid h1
        have HI := Lib.hid hi
        have HO := Lib.hid (hO.trans hs.symm)
        clear h1 hi hs hO
        go_wp2_with (first | (refine wpList_load_row rfl 28 _ rfl (w.heap.size + 1) rfl _ _ _ _ HB.out Try.underlying28 rfl HI.out ?_) | (refine wpList_store_row rfl 28 _ _ rfl w.heap.size C rfl rfl _ O HR.out HI.out HO.out HC.out ?_))
        refine bodyPost_ret (v := .agg C) (results_cell_row rfl _ _ w.heap.size _ C _ _ rfl (setRow_heap _ _ _ _ _ _ HR.out) Try.underlying28 rfl HI.out) rfl ⟨by rw [HF.out], below_setRow Hb.out (by omega) _⟩

end Go.Proofs.Ytilimmimidikcaa
