/- The laws' first test: three buckets. -/
import Derived.Test.YtilimmimidikcaaBox
namespace Go.Proofs.Ytilimmimidikcaa
open Go.ChangeShapes Go.WideShapes Go.ChangeAt Go.RowKit
set_option linter.unusedVariables false

def zeroM : Array Value := (List.replicate 32 (Value.int .u8 0)).toArray
theorem zero_mask (W : World) : Sem.run Try.prog (zeroValue 28) W = .ok (.agg zeroM) W := by kernel_rfl
/-- A mask as a list of cells, with all that a walk asks of it. -/
structure Row (L : List Value) : Prop where
  size : (Try.prog.info? 28).map (·.size) = some L.toArray.size
  size2 : (Try.prog.info? 27).map (·.size) = some L.toArray.size
  zero : zeroM.size = L.toArray.size
  one : L.toArray.all (·.oneCell') = true
theorem row_of {bs : List Int} (h : okM bs) : Row (bs.map (Value.int .u8)) := by
  have e : (bs.map (Value.int .u8)).toArray.size = 32 := by simp [h.1]
  exact ⟨by rw [e]; kernel_rfl, by rw [e]; kernel_rfl, by rw [e]; kernel_rfl, maskA_one bs⟩
set_option maxRecDepth 100000 in
theorem awake_any (w : World) : Calls Try.prog 9 #[] w fun e w' => e = .returned (.bool true) ∧ Below w.heap.size w w' := by
  have hA : maskA (firstB 3) = ((firstB 3).map (Value.int .u8)).toArray := rfl
  have hok := firstB_ok 3
  have hr := row_of hok
  have h0 : ((firstB 3).map (Value.int .u8)).toArray[0]? = some (.int .u8 7) := by kernel_rfl
  have hfirst := fun w => first_any 3 w
  have hcount := fun w => (count_any _ w hok).mono (R' := fun e w' => e = .returned (.int .i64 3) ∧ Below w.heap.size w w') (fun e w' ⟨a, c⟩ => ⟨by rw [a, count_first]; rfl, c⟩)
  rw [hA] at hfirst hcount
  generalize (firstB 3).map (Value.int .u8) = L at *
  have hb := fun w => bucket_any ⟨#[97]⟩ w (by decide)
  have hb2 := fun w => rbucket_any ⟨#[97]⟩ w (by decide)
  generalize bucketV (⟨#[97]⟩ : ByteArray).data.toList = n at *
  have HF := Lib.hid hfirst
  have HC := Lib.hid hcount
  have HB := Lib.hid hb
  have HB2 := Lib.hid hb2
  have H0 := Lib.hid h0
  have HR := Lib.hid hr
  clear hA hok hr h0 hfirst hcount hb hb2
  go_enter Try.func9, Try.ntmps9
  go_wp2_with (first
    | (go_at_call 12; refine (HF.out _).mono ?_; rintro e w1 ⟨rfl, hx⟩; have Hx1 := Lib.hid hx; clear hx)
    | (refine wpList_alloc_store rfl rfl 28 1 _ rfl rfl rfl zeroM L.toArray zero_mask rfl rfl HR.out.size HR.out.zero HR.out.one ?_; have hk := Blk.new w1 L.toArray 28; have c := (hk.cell 0).trans H0.out; have HK := Lib.hid hk; clear hk)
    | (refine wpList_load_row_g rfl 28 _ rfl w1.heap.size rfl _ _ _ _ HK.out Try.underlying28 rfl HR.out.size ?_)
    | (go_at_call 13; refine (HC.out _).mono ?_; rintro e w2 ⟨rfl, hx⟩; have Hx2 := Lib.hid hx; clear hx)
    | (go_at_call 10; refine (HB.out _).mono ?_; rintro e w3 ⟨rfl, rfl⟩)
    | (go_at_call 11; refine (HB2.out _).mono ?_; rintro e w4 ⟨rfl, rfl⟩))
  go_ret
  exact ⟨rfl, (Hx1.out.alloc Hx1.out.size _).trans (Hx2.out.mono (by have := Hx1.out.size; simp; omega))⟩

end Go.Proofs.Ytilimmimidikcaa
