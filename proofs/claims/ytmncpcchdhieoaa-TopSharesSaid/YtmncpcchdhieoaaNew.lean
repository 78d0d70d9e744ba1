/- A new table. -/
import Derived.Test.YtmncpcchdhieoaaPoq
import Derived.Test.YtmncpcchdhieoaaAt
import Derived.Test.YtmncpcchdhieoaaRgt
import Derived.Test.YtmncpcchdhieoaaSet
namespace Go.Proofs.Ytmncpcchdhieoaa
open Go.ChangeShapes Go.WideShapes Go.ChangeAt Go.RowKit
set_option linter.unusedVariables false
set_option linter.unusedSimpArgs false

open Go.Maps

def bareF : Int → Le := fun a => ⟨a, 0, { data := #[] }, 0, 0, 0, 0, 0⟩
theorem upd_bare (a : Int) : upd bareF a (bareF a) = bareF := by
  funext x
  unfold upd
  split
  · next h => rw [h]
  · rfl
theorem RgIs.grownM {w w' : World} {g m : Nat} (h : RgIs w g) (hg : w.grownBy w' (some m)) (hne : g ≠ m) : RgIs w' g :=
  have hl := World.block_lt_of_cell? w _ h.1
  have hb := hg.block g hl (fun e => hne (by cases e; rfl))
  ⟨(World.cell?_of_block (a := ⟨g, 0, none⟩) hb).trans h.1, (World.cell?_of_block (a := ⟨g, 1, none⟩) hb).trans h.2⟩
theorem cell_grown {w w' : World} {t m : Nat} {v : Value} (hg : w.grownBy w' (some m)) (hne : t ≠ m) (h : w.cell? ⟨t, 0, none⟩ = some v) : w'.cell? ⟨t, 0, none⟩ = some v :=
  (World.cell?_of_block (a := ⟨t, 0, none⟩) (hg.block t (World.block_lt_of_cell? w _ h) (fun e => hne (by cases e; rfl)))).trans h
set_option maxRecDepth 100000 in
set_option maxHeartbeats 4000000 in
theorem new_any (g c : Nat) (w : World) (hg : RgIs w g) : Calls Try.prog 4 #[.slice (some ⟨g, 0, none⟩) 1 c] w fun e w' => ∃ (tb m : Nat), e = .returned (.tuple #[.pointer (some ⟨tb, 0, none⟩), .int .i64 0]) ∧ w'.cell? ⟨tb, 0, none⟩ = some (.map (some m)) ∧ TabM w' m 20 20 bareF ∧ w.heap.size ≤ tb ∧ w.heap.size ≤ m ∧ tb ≠ m ∧ Below w.heap.size w w' := by
  have HG := Lib.hid hg
  have hmm := @run_makeMap Try.prog
  clear hg
  go_enter Try.func4, Try.ntmps4
  go_upto_region 5 with (go_at_call 10; refine (pool_any _ _ _ HG.out).mono ?_; rintro e w1 ⟨q, d, rfl, hq, hx⟩; have HQ1 := Lib.hid hq; have HB1 := Lib.hid hx; clear hq hx)
  clear hmm
  have h1 := TabM.made w1 bareF
  have hs1 : (w1.alloc (.map #[] 0)).heap.size = w1.heap.size + 1 := by simp
  have h2 := h1.low (low0 (w1.alloc (.map #[] 0)) (.cells #[.map (some w1.heap.size)] 51))
  have hT := (Blk.new (w1.alloc (.map #[] 0)) #[.map (some w1.heap.size)] 51).cells1
  rw [hs1] at hT
  have hb2 := lowA (low0 w1 (.map #[] 0)) (.cells #[.map (some w1.heap.size)] 51)
  have HQ2 := Lib.hid (HQ1.out.keep hb2)
  have HMB := Lib.hid HB1.out.size
  have HNE0 := Lib.hid (show q ≠ w1.heap.size from fun e => Nat.lt_irrefl _ (e ▸ World.block_lt_of_cell? w1 _ HQ1.out.1))
  have hB2 := low HB1.out hb2
  have hNT : w1.heap.size + 1 ≠ w1.heap.size := by omega
  have hMT : w.heap.size ≤ w1.heap.size + 1 := by have := HMB.out; omega
  generalize (w1.alloc (.map #[] 0)).alloc (.cells #[.map (some w1.heap.size)] 51) = w2 at *
  generalize w1.heap.size + 1 = tb at *
  generalize w1.heap.size = m at *
  have HTM0 := Lib.hid h2
  have HT0 := Lib.hid hT
  have HB0 := Lib.hid hB2
  have HTM := Lib.hid hNT
  have HMT := Lib.hid hMT
  clear h1 hs1 h2 hT hb2 hB2 hNT hMT
  go_wp2_with (go_at_call 11; refine (pcount_any q d _ HQ2.out.1 HQ2.out.2).mono ?_; rintro e w3 ⟨rfl, hx⟩; have HX := Lib.hid hx; clear hx)
  go_loopw [23] (fun i wr => ∃ k : Nat, k ≤ 20 ∧ i = .int .i64 k ∧ TabM wr m k k bareF ∧ RgIs wr q ∧ wr.cell? ⟨tb, 0, none⟩ = some (.map (some m)) ∧ Below w.heap.size w wr) (fun i _ => 20 - (intOf i).toNat)
  case atStart => exact ⟨0, by omega, rfl, HTM0.out.low HX.out, HQ2.out.keep HX.out, (HX.out.cell (p := ⟨tb, 0, none⟩) (World.block_lt_of_cell? _ _ HT0.out)).trans HT0.out, low HB0.out HX.out⟩
  case round =>
    obtain ⟨k, hk, rfl, htm, hq, ht, hb⟩ := hrel
    have HTMR := Lib.hid htm
    have HQR := Lib.hid hq
    have HTR := Lib.hid ht
    have HBR := Lib.hid hb
    clear htm hq ht hb
    by_cases hlt : k < 20
    · have HLT := Lib.hid hlt
      have HK9 := Lib.hid (show k < 100000 by omega)
      have HK0 := Lib.hid (show (0 : Int) ≤ 1 + (k : Int) by omega)
      have HK1 := Lib.hid (show 1 + (k : Int) ≤ 4294967295 by omega)
      have HKA := Lib.hid (show 1 + (k : Int) = (k : Int) + 1 by omega)
      have HNE := Lib.hid HNE0.out
      go_upto_region 9 with (go_at_call 12; refine (pat_any k q d HLT.out _ HQR.out.1 HQR.out.2).mono ?_; rintro e w5 ⟨rfl, hx⟩; have HX5 := Lib.hid hx; clear hx)
      have HTM5 := Lib.hid (HTMR.out.low HX5.out)
      have HRG5 := Lib.hid (HQR.out.keep HX5.out)
      have HTL := Lib.hid (World.block_lt_of_cell? _ _ HTR.out)
      have HT5 := Lib.hid ((HX5.out.cell (p := ⟨tb, 0, none⟩) HTL.out).trans HTR.out)
      have HTL5 := Lib.hid (World.block_lt_of_cell? _ _ HT5.out)
      have HB5 := Lib.hid (low HBR.out HX5.out)
      refine wp_region_seq (S := Below w5.heap.size w5) 7 (by kernel_rfl) (by kernel_rfl) (Below.refl _ w5).drew ?_
      simp only [List.take_succ_cons, List.take_zero, List.drop_succ_cons, List.drop_zero]
      refine wpHeld_val (v := ?vn0) (by rfl) ?yn0 ?rn0
      case yn0 => (intro wS hSw; go_simp; try (with_reducible rfl))
      try simp only [Act.put, List.setIfInBounds_toArray, List.set_cons_zero, List.set_cons_succ]
      refine wpHeld_val (v := ?vn1) (by rfl) ?yn1 ?rn1
      case yn1 => (intro wS hSw; go_simp; try (with_reducible rfl))
      try simp only [Act.put, List.setIfInBounds_toArray, List.set_cons_zero, List.set_cons_succ]
      refine wpHeld_val (v := ?vn2) (by rfl) ?yn2 ?rn2
      case yn2 => (intro wS hSw; go_simp; try (with_reducible rfl))
      try simp only [Act.put, List.setIfInBounds_toArray, List.set_cons_zero, List.set_cons_succ]
      refine wpHeld_val (v := ?vn3) (by rfl) ?yn3 ?rn3
      case yn3 => (intro wS hSw; have cT := (hSw.cell (p := ⟨tb, 0, none⟩) HTL5.out).trans HT5.out; clear hSw; go_simp; try (with_reducible rfl))
      try simp only [Act.put, List.setIfInBounds_toArray, List.set_cons_zero, List.set_cons_succ]
      refine wpHeld_val (v := ?vn4) (by rfl) ?yn4 ?rn4
      case yn4 => (intro wS hSw; go_simp; try (with_reducible rfl))
      try simp only [Act.put, List.setIfInBounds_toArray, List.set_cons_zero, List.set_cons_succ]
      refine wpHeld_val (v := ?vn5) (by rfl) ?yn5 ?rn5
      case yn5 => (intro wS hSw; go_simp; try (with_reducible rfl))
      try simp only [Act.put, List.setIfInBounds_toArray, List.set_cons_zero, List.set_cons_succ]
      refine wpHeld_run (.agg #[.int .u32 (1 + (k : Int)), .int .i64 0, .string { data := #[] }, .int .i64 0, .int .i64 0, .int .i64 0, .int .i64 0, .int .i64 0]) (by rfl) ?cn6 ?rn6
      case cn6 => (intro wS hSw K hK; go_simp; (go_at_call 13; with_reducible refine (bare_any _ _ _ _).mono ?_; rintro e w6 ⟨rfl, hx⟩); go_wp2_with fail; exact hK.out _ (hSw.trans (hx.mono hSw.size)))
      try simp only [Act.put, List.setIfInBounds_toArray, List.set_cons_zero, List.set_cons_succ]
      refine wpHeld_nil ?_
      intro wS hSw
      have H6 := Lib.hid hSw
      obtain ⟨w7, hrun, hg7, _, hin7⟩ := (HTM5.out.low hSw).store HK9.out HK0.out HK1.out (bareF (1 + (k : Int)))
      have HG7 := Lib.hid hg7
      have HI7 := Lib.hid hin7
      clear hg7 hin7 hSw
      simp only [Le.val, bareF] at hrun
      go_wp2
      go_roundw
      case rel => exact ⟨k + 1, by have := HLT.out; omega, by first | rfl | go_num, (upd_bare _).symm ▸ HI7.out HKA.out, (HRG5.out.keep H6.out).grownM HG7.out HNE.out, ((H6.out.cell (p := ⟨tb, 0, none⟩) HTL5.out).trans HT5.out) |> cell_grown HG7.out HTM.out, (low HB5.out H6.out).grown HG7.out (low HB5.out H6.out).size (fun j e => by cases e; exact HMB.out)⟩
      case measure => (have := HLT.out; simp [intOf]; omega)
    · obtain rfl : k = 20 := by omega
      go_wp2
      refine bodyPost_ret (v := .tuple #[.pointer (some ⟨tb, 0, none⟩), .int .i64 0]) (by simp [results, Try.results4, go_sem]) rfl ?_
      exact ⟨tb, m, rfl, HTR.out, HTMR.out, HMT.out, HMB.out, HTM.out, HBR.out⟩

end Go.Proofs.Ytmncpcchdhieoaa
