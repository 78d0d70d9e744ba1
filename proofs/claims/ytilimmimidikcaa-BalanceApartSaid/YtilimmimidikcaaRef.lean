/- Contracts of the reference's First, Not and Count. -/
import Derived.Test.YtilimmimidikcaaOf
namespace Go.Proofs.Ytilimmimidikcaa
open Go.ChangeShapes Go.WideShapes Go.ChangeAt Go.RowKit
set_option linter.unusedVariables false

theorem calls_mono {P : Program} {f : FuncId} {args : Array Value} {w : World} {R R' : Ending → World → Prop} (h : Calls P f args w R) (hr : ∀ e w', R e w' → R' e w') : Calls P f args w R' := h.mono hr
set_option maxRecDepth 100000 in
theorem rfirst_any (n : Int) (w : World) : Calls Try.prog 18 #[.int .i64 n] w fun e w' => e = .returned (.agg (maskA (maskTo (fun i => decide ((i : Int) < n)) 256))) ∧ Below w.heap.size w w' := by
  obtain ⟨f, hf⟩ : ∃ f : Nat → Bool, (fun i : Nat => decide ((i : Int) < n)) = f := ⟨_, rfl⟩
  have HF0 : Hid (∀ k : Nat, f k = decide ((k : Int) < n)) := fun k => by rw [← hf]
  rw [hf]
  clear hf
  have hz : ∀ W, Sem.run Try.prog (zeroValue 43) W = .ok (.agg (boolsA (upTo f 0))) W := fun W => by rw [boolsA_zero]; kernel_rfl
  go_enter Try.func18, Try.ntmps18
  go_wp2
  go_loopw [4] (fun i wr => ∃ k : Nat, k ≤ 256 ∧ i = .int .i64 k ∧ (∃ O, O.size = 32 ∧ Blk wr w.heap.size O 27) ∧ Blk wr (w.heap.size + 1) (boolsA (upTo f k)) 43 ∧ Below w.heap.size w wr) (fun i _ => 256 - (intOf i).toNat)
  case atStart =>
    refine ⟨0, by omega, rfl, ⟨maskA (List.replicate 32 0), rfl, Blk.new2' _ _ _ _⟩, ?_, (((Below.refl _ _).alloc (Nat.le_refl _) _).alloc (by simp) _)⟩
    exact Blk.new2 _ _ _ _
  case round =>
    obtain ⟨k, hk, rfl, ⟨O, hO, hR⟩, hB, hb⟩ := hrel
    have HB := Lib.hid hB
    have HR := Lib.hid hR
    have Hb := Lib.hid hb
    clear hB hR hb
    by_cases hlt : k < 256
    · have c := (HB.out.cell k).trans (boolsA_at _ hlt)
      have fz := HB.out.free k
      have HS := Lib.hid (boolsA_set f hlt)
      have HV := Lib.hid (HF0.out k)
      generalize upTo f k k = u at *
      go_wp2
      exact ⟨⟨k + 1, by omega, by go_num, ⟨O, hO, HR.out.other (by omega) _ _⟩, by have := HB.out.set k (.bool (f k)); rw [HS.out, HV.out] at this; exact this, Hb.out.setCell (by simp) _⟩, by simp [intOf]; omega⟩
    · obtain rfl : k = 256 := by omega
      have hs : (maskA (maskTo f 256)).size = 32 := by rw [maskA_size]; exact (maskTo_ok _ _).1
      have h1 := maskA_one (maskTo f 256)
      obtain ⟨C, hC⟩ : ∃ C, maskA (maskTo f 256) = C := ⟨_, rfl⟩
      rw [hC] at hs h1
      have HF : Hid (maskA (maskTo f 256) = C) := hC
      clear hC
      have hi : (Try.prog.info? 27).map (·.size) = some C.size := by rw [hs]; kernel_rfl
      have HC := Lib.hid h1
      have HJ := Lib.hid hi
      have HO := Lib.hid (hO.trans hs.symm)
      have HK : Hid ((Try.prog.info? 43).map (·.size) = some (boolsA f).size) := by show _ = _; rw [boolsA_size]; kernel_rfl
      rw [boolsA_full] at HB
      clear h1 hi hs hO
      have hof := fun w => (of_any f w).mono (R' := fun e w' => e = .returned (.agg C) ∧ Below w.heap.size w w') (fun e w' ⟨a, c⟩ => ⟨by rw [← HF.out]; exact a, c⟩)
      go_wp2_with (first | (refine wpList_load_row rfl 43 _ rfl (w.heap.size + 1) rfl _ _ _ _ HB.out Try.underlying43 rfl HK.out ?_) | (go_at_call 23; refine (hof _).mono ?_; rintro e w' ⟨rfl, hx⟩; have HR2 := Lib.hid (HR.out.keep hx); have Hx := Lib.hid hx; clear hx) | (refine wpList_store_row rfl 27 _ _ rfl w.heap.size C rfl rfl _ O HR2.out HJ.out HO.out HC.out ?_))
      refine bodyPost_ret (v := .agg C) (results_cell_row rfl _ _ w.heap.size _ C _ _ rfl (setRow_heap _ _ _ _ _ _ HR2.out) Try.underlying27 rfl HJ.out) rfl ⟨by rw [HF.out], below_setRow (Hb.out.trans (Hx.out.mono Hb.out.size)) (by omega) _⟩

set_option maxRecDepth 100000 in
theorem rnot_any (bs : List Int) (w : World) (h : okM bs) : Calls Try.prog 19 #[.agg (maskA bs)] w fun e w' => e = .returned (.agg (maskA (maskTo (fun i => !hasV bs i) 256))) ∧ Below w.heap.size w w' := by
  obtain ⟨f, hf⟩ : ∃ f : Nat → Bool, (fun i : Nat => !hasV bs i) = f := ⟨_, rfl⟩
  have HF0 : Hid (∀ k : Nat, f k = !hasV bs k) := fun k => by rw [← hf]
  rw [hf]
  clear hf
  have hM : (maskA bs).size = 32 := by rw [maskA_size]; exact h.1
  have HM : Hid ((Try.prog.info? 27).map (·.size) = some (maskA bs).size) := by show _ = _; rw [hM]; kernel_rfl
  have Hok := Lib.hid h
  obtain ⟨A, hA⟩ : ∃ A, maskA bs = A := ⟨_, rfl⟩
  have hhas : ∀ (n : Int) (w : World), Calls Try.prog 16 #[.agg A, .int .i64 n] w fun e w' => e = .returned (.bool (hasV bs n)) ∧ Below w.heap.size w w' := by
    rw [← hA]
    exact fun n w => rhas_any bs n w h
  have HH := Lib.hid hhas
  rw [hA] at HM hM ⊢
  clear h hM hA hhas
  have hz : ∀ W, Sem.run Try.prog (zeroValue 43) W = .ok (.agg (boolsA (upTo f 0))) W := fun W => by rw [boolsA_zero]; kernel_rfl
  go_enter Try.func19, Try.ntmps19
  go_wp2
  go_loopw [4] (fun i wr => ∃ k : Nat, k ≤ 256 ∧ i = .int .i64 k ∧ Blk wr w.heap.size A 27 ∧ (∃ O, O.size = 32 ∧ Blk wr (w.heap.size + 1) O 27) ∧ Blk wr (w.heap.size + 1 + 1) (boolsA (upTo f k)) 43 ∧ Below w.heap.size w wr) (fun i _ => 256 - (intOf i).toNat)
  case atStart =>
    refine ⟨0, by omega, rfl, (Blk.new2' _ _ _ _).alloc _, ⟨maskA (List.replicate 32 0), rfl, (Blk.new2 _ _ _ _).alloc _⟩, ?_, ((((Below.refl _ _).alloc (Nat.le_refl _) _).alloc (by simp) _).alloc (by simp; omega) _)⟩
    exact Blk.new3 _ _ _ _ _
  case round =>
    obtain ⟨k, hk, rfl, hI, ⟨O, hO, hR⟩, hB, hb⟩ := hrel
    have HI := Lib.hid hI
    have HB := Lib.hid hB
    have HR := Lib.hid hR
    have Hb := Lib.hid hb
    clear hI hB hR hb
    by_cases hlt : k < 256
    · have HS := Lib.hid (boolsA_set f hlt)
      have HV := Lib.hid (HF0.out k)
      have hc0 := boolsA_at (upTo f k) hlt
      have HC0 := Lib.hid hc0
      clear hc0
      generalize upTo f k k = u at *
      go_wp2_with (first | (refine wpList_load_row rfl 27 _ rfl w.heap.size rfl _ _ _ _ HI.out Try.underlying27 rfl HM.out ?_) | (go_at_call 16; refine (HH.out _ _).mono ?_; rintro e w' ⟨rfl, hx⟩; have HB2 := Lib.hid (HB.out.keep hx); have HR2 := Lib.hid (HR.out.keep hx); have HI2 := Lib.hid (HI.out.keep hx); have Hx := Lib.hid hx; clear hx; have c := (HB2.out.cell k).trans HC0.out; have fz := HB2.out.free k))
      exact ⟨⟨k + 1, by omega, by go_num, HI2.out.other (by omega) _ _, ⟨O, hO, HR2.out.other (by omega) _ _⟩, by have := HB2.out.set k (.bool (f k)); rw [HS.out, HV.out] at this; exact this, (Hb.out.trans (Hx.out.mono Hb.out.size)).setCell (by simp; omega) _⟩, by simp [intOf]; omega⟩
    · obtain rfl : k = 256 := by omega
      have hs : (maskA (maskTo f 256)).size = 32 := by rw [maskA_size]; exact (maskTo_ok _ _).1
      have h1 := maskA_one (maskTo f 256)
      obtain ⟨C, hC⟩ : ∃ C, maskA (maskTo f 256) = C := ⟨_, rfl⟩
      rw [hC] at hs h1
      have HF : Hid (maskA (maskTo f 256) = C) := hC
      clear hC
      have hi : (Try.prog.info? 27).map (·.size) = some C.size := by rw [hs]; kernel_rfl
      have HC := Lib.hid h1
      have HJ := Lib.hid hi
      have HO := Lib.hid (hO.trans hs.symm)
      have HK : Hid ((Try.prog.info? 43).map (·.size) = some (boolsA f).size) := by show _ = _; rw [boolsA_size]; kernel_rfl
      rw [boolsA_full] at HB
      clear h1 hi hs hO
      have hof := fun w => (of_any f w).mono (R' := fun e w' => e = .returned (.agg C) ∧ Below w.heap.size w w') (fun e w' ⟨a, c⟩ => ⟨by rw [← HF.out]; exact a, c⟩)
      go_wp2_with (first | (refine wpList_load_row rfl 43 _ rfl (w.heap.size + 1 + 1) rfl _ _ _ _ HB.out Try.underlying43 rfl HK.out ?_) | (go_at_call 23; refine (hof _).mono ?_; rintro e w' ⟨rfl, hx⟩; have HR2 := Lib.hid (HR.out.keep hx); have Hx := Lib.hid hx; clear hx) | (refine wpList_store_row rfl 27 _ _ rfl (w.heap.size + 1) C rfl rfl _ O HR2.out HJ.out HO.out HC.out ?_))
      refine bodyPost_ret (v := .agg C) (results_cell_row rfl _ _ (w.heap.size + 1) _ C _ _ rfl (setRow_heap _ _ _ _ _ _ HR2.out) Try.underlying27 rfl HJ.out) rfl ⟨by rw [HF.out], below_setRow (Hb.out.trans (Hx.out.mono Hb.out.size)) (by omega) _⟩

/-- How many buckets below k a mask has. -/
def cnt (bs : List Int) : Nat → Int
  | 0 => 0
  | k + 1 => cnt bs k + if hasV bs k = true then 1 else 0
theorem cnt_range (bs : List Int) : ∀ k, 0 ≤ cnt bs k ∧ cnt bs k ≤ k
  | 0 => by simp [cnt]
  | k + 1 => by
    have := cnt_range bs k
    unfold cnt
    split <;> omega
set_option maxRecDepth 100000 in
theorem rcount_any (bs : List Int) (w : World) (h : okM bs) : Calls Try.prog 17 #[.agg (maskA bs)] w fun e w' => e = .returned (.int .i64 (cnt bs 256)) ∧ Below w.heap.size w w' := by
  have hM : (maskA bs).size = 32 := by rw [maskA_size]; exact h.1
  have HM : Hid ((Try.prog.info? 27).map (·.size) = some (maskA bs).size) := by show _ = _; rw [hM]; kernel_rfl
  obtain ⟨A, hA⟩ : ∃ A, maskA bs = A := ⟨_, rfl⟩
  have hhas : ∀ (n : Int) (w : World), Calls Try.prog 16 #[.agg A, .int .i64 n] w fun e w' => e = .returned (.bool (hasV bs n)) ∧ Below w.heap.size w w' := by
    rw [← hA]
    exact fun n w => rhas_any bs n w h
  have HH := Lib.hid hhas
  rw [hA] at HM hM ⊢
  clear h hM hA hhas
  go_enter Try.func17, Try.ntmps17
  go_wp2
  go_loopw [3, 4] (fun s i wr => ∃ k : Nat, k ≤ 256 ∧ i = .int .i64 k ∧ s = .int .i64 (cnt bs k) ∧ Blk wr w.heap.size A 27 ∧ Below w.heap.size w wr) (fun _ i _ => 256 - (intOf i).toNat)
  case atStart => exact ⟨0, by omega, rfl, rfl, Blk.new _ _ _, (Below.refl _ _).alloc (Nat.le_refl _) _⟩
  case round =>
    obtain ⟨k, hk, rfl, rfl, hI, hb⟩ := hrel
    have HI := Lib.hid hI
    have Hb := Lib.hid hb
    clear hI hb
    obtain ⟨r1, r2⟩ := cnt_range bs k
    by_cases hlt : k < 256
    · have HS : Hid (cnt bs (k + 1) = cnt bs k + if hasV bs k = true then 1 else 0) := rfl
      generalize cnt bs k = s at *
      cases hv : hasV bs k
      all_goals
        rw [hv] at HS
        have HV := Lib.hid hv
        clear hv
        go_wp2_with (first | (refine wpList_load_row rfl 27 _ rfl w.heap.size rfl _ _ _ _ HI.out Try.underlying27 rfl HM.out ?_) | (go_at_call 16; refine (HH.out _ _).mono ?_; rintro e w' ⟨rfl, hx⟩; have HI2 := Lib.hid (HI.out.keep hx); have Hx := Lib.hid hx; clear hx; rw [HV.out]))
        exact ⟨⟨k + 1, by omega, by go_num, by rw [HS.out]; simp, HI2.out, Hb.out.trans (Hx.out.mono Hb.out.size)⟩, by simp [intOf]; omega⟩
    · obtain rfl : k = 256 := by omega
      go_wp2
      go_ret
      exact ⟨rfl, Hb.out⟩

end Go.Proofs.Ytilimmimidikcaa
