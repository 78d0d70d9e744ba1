/- Contracts of the reference that make masks. -/
import Derived.Test.YtilimmimidikcaaFir
namespace Go.Proofs.Ytilimmimidikcaa
open Go.ChangeShapes Go.WideShapes Go.ChangeAt Go.RowKit
set_option linter.unusedVariables false

/-- 256 bools as a value's cells. -/
def boolsA (f : Nat → Bool) : Array Value := ((List.range 256).map fun i => Value.bool (f i)).toArray
theorem boolsA_at (f : Nat → Bool) {i : Nat} (hi : i < 256) : (boolsA f)[i]? = some (.bool (f i)) := by
  unfold boolsA
  simp [hi]
theorem boolsA_size (f : Nat → Bool) : (boolsA f).size = 256 := by simp [boolsA]
theorem boolsA_one (f : Nat → Bool) : (boolsA f).all (·.oneCell') = true := by
  unfold boolsA
  simp [Value.oneCell']
def upTo (f : Nat → Bool) (k : Nat) : Nat → Bool := fun i => decide (i < k) && f i
theorem boolsA_set (f : Nat → Bool) {k : Nat} (hk : k < 256) : (boolsA (upTo f k)).setIfInBounds k (.bool (f k)) = boolsA (upTo f (k + 1)) := by
  apply Array.ext_getElem?
  intro i
  by_cases hi : i < 256
  · rw [Array.getElem?_setIfInBounds, boolsA_size, boolsA_at _ hi, boolsA_at _ hi]
    unfold upTo
    by_cases e : k = i
    · subst e; simp [hi]
    · have h1 : (i < k + 1) ↔ i < k := by omega
      simp [e, h1]
  · rw [Array.getElem?_eq_none (by simp [boolsA]; omega), Array.getElem?_eq_none (by simp [boolsA]; omega)]
theorem boolsA_zero (f : Nat → Bool) : boolsA (upTo f 0) = (List.replicate 256 (Value.bool false)).toArray := by
  apply Array.ext_getElem?
  intro i
  by_cases hi : i < 256
  · rw [boolsA_at _ hi, List.getElem?_toArray, List.getElem?_replicate, if_pos hi]
    simp [upTo]
  · rw [Array.getElem?_eq_none (by simp [boolsA]; omega), Array.getElem?_eq_none (by rw [List.size_toArray, List.length_replicate]; omega)]
theorem boolsA_full (f : Nat → Bool) : boolsA (upTo f 256) = boolsA f := by
  apply Array.ext_getElem?
  intro i
  by_cases hi : i < 256
  · rw [boolsA_at _ hi, boolsA_at _ hi]
    simp [upTo, hi]
  · rw [Array.getElem?_eq_none (by simp [boolsA]; omega), Array.getElem?_eq_none (by simp [boolsA]; omega)]

theorem Blk.new3 (w : World) (o o' : Obj) (A : Array Value) (t : TypeId) : Blk (((w.alloc o).alloc o').alloc (.cells A t)) (w.heap.size + 1 + 1) A t := by
  have h := Blk.new2 (w.alloc o) o' A t
  have e : (w.alloc o).heap.size = w.heap.size + 1 := by simp
  rw [e] at h
  exact h
theorem pow_step (j : Nat) : (2 : Int) ^ j * 2 = 2 ^ (j + 1) := by rw [Int.pow_succ]
theorem pow_le (j : Nat) (h : j < 8) : 1 ≤ (2 : Int) ^ j ∧ (2 : Int) ^ j ≤ 128 := by
  have : j = 0 ∨ j = 1 ∨ j = 2 ∨ j = 3 ∨ j = 4 ∨ j = 5 ∨ j = 6 ∨ j = 7 := by omega
  rcases this with rfl | rfl | rfl | rfl | rfl | rfl | rfl | rfl <;> decide

set_option maxRecDepth 100000 in
theorem of_any (f : Nat → Bool) (w : World) : Calls Try.prog 23 #[.agg (boolsA f)] w fun e w' => e = .returned (.agg (maskA (maskTo f 256))) ∧ Below w.heap.size w w' := by
  have HA : Hid (∀ i, i < 256 → (boolsA f)[i]? = some (.bool (f i))) := fun i hi => boolsA_at f hi
  generalize boolsA f = A at *
  go_enter Try.func23, Try.ntmps23
  go_wp2
  go_loopw [4, 5, 6] (fun i _ _ wr => ∃ k : Nat, k ≤ 256 ∧ i = .int .i64 k ∧ Blk wr w.heap.size A 43 ∧ (∃ O, O.size = 32 ∧ Blk wr (w.heap.size + 1) O 27) ∧ Blk wr (w.heap.size + 1 + 1) (maskA (maskTo f k)) 27 ∧ Below w.heap.size w wr) (fun i _ _ _ => 256 - (intOf i).toNat)
  case atStart =>
    refine ⟨0, by omega, rfl, ?_, ⟨maskA (List.replicate 32 0), rfl, ?_⟩, ?_, ((((Below.refl _ _).alloc (Nat.le_refl _) _).alloc (by simp) _).alloc (by simp; omega) _)⟩
    · exact (Blk.new2' _ _ _ _).alloc _
    · exact (Blk.new2 _ _ _ _).alloc _
    · rw [maskTo_zero]
      exact Blk.new3 _ _ _ _ _
  case round =>
    obtain ⟨k, hk, rfl, hA, ⟨O, hO, hR⟩, hB, hb⟩ := hrel
    have HI := Lib.hid hA
    have HB := Lib.hid hB
    have HR := Lib.hid hR
    have Hb := Lib.hid hb
    clear hA hB hR hb
    by_cases hlt : k < 256
    · have ca := (HI.out.cell k).trans (HA.out k hlt)
      cases hf : f k
      · rw [hf] at ca
        have HS := Lib.hid (maskTo_same f hlt hf)
        clear hf
        go_wp2
        exact ⟨⟨k + 1, by omega, by go_num, HI.out, ⟨O, hO, HR.out⟩, by rw [← HS.out]; exact HB.out, Hb.out⟩, by simp [intOf]; omega⟩
      · rw [hf] at ca
        obtain ⟨wo, rfl⟩ : ∃ wo : World, wo = wr := ⟨_, rfl⟩
        have hst := maskTo_step f hlt
        have hsv := byteF_step f k
        have hrg := byteF_range f (k / 8) (k + 1)
        rw [hf, if_pos rfl] at hst hsv
        rw [hsv] at hrg
        have hv := byteF_range f (k / 8) k
        have c := (HB.out.cell (k / 8)).trans (maskA_at (by rw [(maskTo_ok _ k).1]; omega))
        rw [maskTo_at _ k (by omega)] at c
        have fz := HB.out.free (k / 8)
        have HS := Lib.hid hst
        clear hst hsv hf
        generalize byteF f (k / 8) k = v at *
        go_wp2
        go_loop [5, 6] (fun x i => ∃ j : Nat, j ≤ k % 8 ∧ i = .int .i64 j ∧ x = .int .i64 (2 ^ j)) (fun _ i => k % 8 - (intOf i).toNat)
        case atStart => exact ⟨0, by omega, rfl, rfl⟩
        case round =>
          obtain ⟨j, hj, rfl, rfl⟩ := hrel
          obtain ⟨p1, p2⟩ := pow_le j (by omega)
          have HP := Lib.hid (pow_step j)
          by_cases hlt2 : j < k % 8
          · generalize (2 : Int) ^ j = p at *
            have hz : (j : Int) < (k : Int) % 8 := by omega
            go_wp2
            go_round
            case rel => exact ⟨j + 1, by omega, by go_num, by rw [← HP.out]⟩
            case measure => simp [intOf]; omega
          · obtain rfl : j = k % 8 := by omega
            have hz : ¬ ((k : Int) % 8 < (k : Int) % 8) := by omega
            have hp : 0 ≤ v + (2 : Int) ^ (k % 8) ∧ v + (2 : Int) ^ (k % 8) < 256 := hrg
            clear hrg HP
            generalize (2 : Int) ^ (k % 8) = p at *
            go_wp2
            exact ⟨⟨k + 1, by omega, by go_num, HI.out.other (by omega) _ _, ⟨O, hO, HR.out.other (by omega) _ _⟩, by have := HB.out.set (k / 8) (.int .u8 (v + p)); rw [maskA_set, HS.out] at this; exact this, Hb.out.setCell (by simp; omega) _⟩, by simp [intOf]; omega⟩
    · obtain rfl : k = 256 := by omega
      have hs : (maskA (maskTo f 256)).size = 32 := by rw [maskA_size]; exact (maskTo_ok _ _).1
      have h1 := maskA_one (maskTo f 256)
      obtain ⟨C, hC⟩ : ∃ C, maskA (maskTo f 256) = C := ⟨_, rfl⟩
      rw [hC] at HB hs h1
      have HF := Lib.hid hC
      clear hC
      have hi : (Try.prog.info? 27).map (·.size) = some C.size := by rw [hs]; kernel_rfl
      have HC := Lib.hid h1
      have HJ := Lib.hid hi
      have HO := Lib.hid (hO.trans hs.symm)
      clear h1 hi hs hO
      go_wp2_with (first | (refine wpList_load_row rfl 27 _ rfl (w.heap.size + 1 + 1) rfl _ _ _ _ HB.out Try.underlying27 rfl HJ.out ?_) | (refine wpList_store_row rfl 27 _ _ rfl (w.heap.size + 1) C rfl rfl _ O HR.out HJ.out HO.out HC.out ?_))
      refine bodyPost_ret (v := .agg C) (results_cell_row rfl _ _ (w.heap.size + 1) _ C _ _ rfl (setRow_heap _ _ _ _ _ _ HR.out) Try.underlying27 rfl HJ.out) rfl ⟨by rw [HF.out], below_setRow Hb.out (by omega) _⟩

end Go.Proofs.Ytilimmimidikcaa
