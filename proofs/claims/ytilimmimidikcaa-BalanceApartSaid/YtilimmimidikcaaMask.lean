/- Contracts of masks. -/
import Derived.Test.YtilimmimidikcaaBuc
import Derived.Laws.Rows
import Derived.Laws.Tables
import Derived.Laws.CopyOwn
import Derived.LoopTactic
import Derived.Below
namespace Go.Proofs.Ytilimmimidikcaa
open Go.ChangeShapes Go.WideShapes Go.ChangeAt Go.RowKit
set_option linter.unusedVariables false

/-- A mask's bytes as a value's cells. -/
def maskA (bs : List Int) : Array Value := (bs.map (Value.int .u8)).toArray
def okM (bs : List Int) : Prop := bs.length = 32 ∧ ∀ b ∈ bs, 0 ≤ b ∧ b < 256
def bitAt (bs : List Int) (n : Nat) : Bool := decide (bs.getD (n / 8) 0 / 2 ^ (n % 8) % 2 = 1)
def hasV (bs : List Int) (n : Int) : Bool := decide (0 ≤ n ∧ n < 256) && bitAt bs n.toNat
theorem okM.at {bs : List Int} (h : okM bs) (i : Nat) : 0 ≤ bs.getD i 0 ∧ bs.getD i 0 < 256 := by
  by_cases hi : i < bs.length
  · rw [List.getD_eq_getElem?_getD, List.getElem?_eq_getElem hi]
    exact h.2 _ (List.getElem_mem hi)
  · rw [List.getD_eq_getElem?_getD, List.getElem?_eq_none (by omega)]
    decide
theorem maskA_at {bs : List Int} {i : Nat} (hi : i < bs.length) : (maskA bs)[i]? = some (.int .u8 (bs.getD i 0)) := by
  unfold maskA
  simp [hi]
theorem maskA_size (bs : List Int) : (maskA bs).size = bs.length := by simp [maskA]
theorem maskA_set (bs : List Int) (i : Nat) (v : Int) : (maskA bs).setIfInBounds i (.int .u8 v) = maskA (bs.set i v) := by
  unfold maskA
  simp [List.map_set]
theorem maskA_one (bs : List Int) : (maskA bs).all (·.oneCell') = true := by
  unfold maskA
  simp [Value.oneCell']
theorem okM.set {bs : List Int} (h : okM bs) (i : Nat) {v : Int} (h0 : 0 ≤ v) (h1 : v < 256) : okM (bs.set i v) := by
  refine ⟨by rw [List.length_set]; exact h.1, fun b hb => ?_⟩
  rcases List.mem_or_eq_of_mem_set hb with h2 | h2
  · exact h.2 b h2
  · omega
theorem and_one_u8 (x : Int) (h0 : 0 ≤ x) (h1 : x < 256) : bits .and .u8 x 1 = x % 2 := by
  have h := u8_and x 1 h0 h1 (by omega) (by omega)
  have e : (1 : Int).toNat = 1 := rfl
  rw [e, Nat.and_one_is_mod] at h
  rw [h]
  omega
theorem shr_range {v : Int} (h0 : 0 ≤ v) (h1 : v < 256) (k : Nat) : 0 ≤ v / 2 ^ k ∧ v / 2 ^ k < 256 := by
  have hp : (0 : Int) < 2 ^ k := Int.pow_pos (by decide)
  refine ⟨Int.ediv_nonneg h0 (by omega), ?_⟩
  have := Int.ediv_le_self (2 ^ k) h0
  omega

set_option maxRecDepth 100000 in
theorem has_in (bs : List Int) (n : Nat) (w : World) (h : okM bs) (hn : n < 256) : Calls Try.prog 14 #[.agg (maskA bs), .int .i64 n] w fun e w' => e = .returned (.bool (bitAt bs n)) ∧ Below w.heap.size w w' := by
  have hc := maskA_at (bs := bs) (i := n / 8) (by have := h.1; omega)
  obtain ⟨v1, v2⟩ := h.at (n / 8)
  have V : Hid (bitAt bs n = decide (bs.getD (n / 8) 0 / 2 ^ (n % 8) % 2 = 1)) := rfl
  generalize bs.getD (n / 8) 0 = v at *
  generalize maskA bs = A at *
  obtain ⟨r1, r2⟩ := shr_range v1 v2 (n % 8)
  have X := and_one_u8 _ r1 r2
  clear h r1 r2
  go_enter Try.func14, Try.ntmps14
  go_wp2
  go_ret
  exact ⟨ret_bool (by rw [V.out, Bool.eq_iff_iff]; simp), (Below.refl _ _).alloc (Nat.le_refl _) _⟩
theorem has_out (bs : List Int) (n : Int) (w : World) (h : ¬ (0 ≤ n ∧ n < 256)) : Calls Try.prog 14 #[.agg (maskA bs), .int .i64 n] w fun e w' => e = .returned (.bool false) ∧ Below w.heap.size w w' := by
  generalize maskA bs = A at *
  by_cases h0 : 0 ≤ n
  · have h1 : 256 ≤ n := by omega
    go_enter Try.func14, Try.ntmps14
    go_wp2
    go_ret
    exact ⟨rfl, (Below.refl _ _).alloc (Nat.le_refl _) _⟩
  · have h1 : n < 0 := by omega
    go_enter Try.func14, Try.ntmps14
    go_wp2
    go_ret
    exact ⟨rfl, (Below.refl _ _).alloc (Nat.le_refl _) _⟩
theorem has_any (bs : List Int) (n : Int) (w : World) (h : okM bs) : Calls Try.prog 14 #[.agg (maskA bs), .int .i64 n] w fun e w' => e = .returned (.bool (hasV bs n)) ∧ Below w.heap.size w w' := by
  by_cases hn : 0 ≤ n ∧ n < 256
  · obtain ⟨m, rfl⟩ := Int.eq_ofNat_of_zero_le hn.1
    refine (has_in bs m w h (by omega)).mono fun e w' ⟨a, c⟩ => ⟨?_, c⟩
    unfold hasV
    rw [decide_eq_true hn, Bool.true_and]
    exact a
  · refine (has_out bs n w hn).mono fun e w' ⟨a, c⟩ => ⟨?_, c⟩
    unfold hasV
    rw [decide_eq_false hn, Bool.false_and]
    exact a

/-- What lies in a block. -/
def Blk (w : World) (g : Nat) (A : Array Value) (t : TypeId) : Prop := w.heap[g]? = some (.cells A t (0, 0))
theorem Blk.cell {w : World} {g : Nat} {A : Array Value} {t : TypeId} (h : Blk w g A t) (i : Nat) : w.cell? ⟨g, i, none⟩ = A[i]? := cell_of_row w g i A t _ h
theorem Blk.free {w : World} {g : Nat} {A : Array Value} {t : TypeId} (h : Blk w g A t) (i : Nat) : w.frozen? ⟨g, i, none⟩ = false := frozen_of_row w g i A t h
theorem Blk.lt {w : World} {g : Nat} {A : Array Value} {t : TypeId} (h : Blk w g A t) : g < w.heap.size := by
  rcases Nat.lt_or_ge g w.heap.size with hl | hl
  · exact hl
  · unfold Blk at h; rw [Array.getElem?_eq_none hl] at h; cases h
theorem Blk.below {w w' : World} {g : Nat} {A : Array Value} {t : TypeId} (h : Blk w g A t) {B : Nat} (hb : Below B w w') (hB : g < B) : Blk w' g A t := (hb.block g hB).trans h
theorem Blk.keep {w w' : World} {g : Nat} {A : Array Value} {t : TypeId} (h : Blk w g A t) (hb : Below w.heap.size w w') : Blk w' g A t := h.below hb h.lt
theorem Blk.set {w : World} {g : Nat} {A : Array Value} {t : TypeId} (h : Blk w g A t) (i : Nat) (v : Value) : Blk (w.setCell ⟨g, i, none⟩ v) g (A.setIfInBounds i v) t := heap_setCell_same w g i A t v h
theorem Blk.other {w : World} {g : Nat} {A : Array Value} {t : TypeId} (h : Blk w g A t) {k : Nat} (hk : g ≠ k) (i : Nat) (v : Value) : Blk (w.setCell ⟨k, i, none⟩ v) g A t := (heap_setCell_other w ⟨k, i, none⟩ g v hk).trans h
theorem Blk.drew {w : World} {g : Nat} {A : Array Value} {t : TypeId} (h : Blk w g A t) : Blk w.drew g A t := h
theorem Blk.alloc {w : World} {g : Nat} {A : Array Value} {t : TypeId} (h : Blk w g A t) (o : Obj) : Blk (w.alloc o) g A t := (Below.heap_alloc w o g h.lt).trans h
theorem Blk.new (w : World) (A : Array Value) (t : TypeId) : Blk (w.alloc (.cells A t)) w.heap.size A t := heap_alloc_new w _
theorem Blk.new2 (w : World) (o : Obj) (A : Array Value) (t : TypeId) : Blk ((w.alloc o).alloc (.cells A t)) (w.heap.size + 1) A t := heap_alloc2_new w o _
theorem Blk.new2' (w : World) (A : Array Value) (t : TypeId) (o : Obj) : Blk ((w.alloc (.cells A t)).alloc o) w.heap.size A t := heap_alloc2_old w _ o

/-- All buckets that a mask has not. -/
def notB (bs : List Int) : List Int := bs.map (255 - ·)
/-- The first so many bytes turned. -/
def notTo (bs : List Int) (k : Nat) : List Int := (bs.take k).map (255 - ·) ++ bs.drop k
theorem notTo_len (bs : List Int) (k : Nat) (hk : k ≤ bs.length) : (notTo bs k).length = bs.length := by
  unfold notTo
  rw [List.length_append, List.length_map, List.length_take, List.length_drop]
  omega
theorem notTo_at (bs : List Int) {k : Nat} (hk : k < bs.length) : (notTo bs k).getD k 0 = bs.getD k 0 := by
  unfold notTo
  rw [List.getD_eq_getElem?_getD, List.getElem?_append_right (by simp; omega)]
  simp only [List.length_map, List.length_take, Nat.min_eq_left (Nat.le_of_lt hk), Nat.sub_self, List.getElem?_drop, Nat.add_zero]
  rw [List.getD_eq_getElem?_getD]
theorem notTo_step (bs : List Int) {k : Nat} (hk : k < bs.length) : (notTo bs k).set k (255 - bs.getD k 0) = notTo bs (k + 1) := by
  unfold notTo
  have h1 : bs.getD k 0 = bs[k] := by rw [List.getD_eq_getElem?_getD, List.getElem?_eq_getElem hk]; rfl
  have hl : (List.map (fun x => 255 - x) (List.take k bs)).length = k := by simp; omega
  rw [h1, List.set_append_right _ _ (by omega), hl, Nat.sub_self, List.drop_eq_getElem_cons hk, List.set_cons_zero, List.take_succ_eq_append_getElem hk, List.map_append, List.append_assoc]
  rfl
theorem xor_255 (v : Int) (h0 : 0 ≤ v) (h1 : v < 256) : bits .xor .u8 255 v = 255 - v := by
  obtain ⟨n, rfl⟩ := Int.eq_ofNat_of_zero_le h0
  have h := u8_xor_nat 255 n (by decide) (by omega)
  have e : ((255 : Nat) : Int) = 255 := rfl
  rw [e] at h
  rw [h]
  have : ∀ n : Nat, n < 256 → 255 ^^^ n = 255 - n := by decide +kernel
  rw [this n (by omega)]
  omega

theorem not_any (bs : List Int) (w : World) (h : okM bs) : Calls Try.prog 15 #[.agg (maskA bs)] w fun e w' => e = .returned (.agg (maskA (notB bs))) ∧ Below w.heap.size w w' := by
  have hlen := h.1
  have HA : Hid (∀ i, 0 ≤ bs.getD i 0 ∧ bs.getD i 0 < 256) := h.at
  clear h
  obtain ⟨A, hA⟩ : ∃ A, maskA bs = A := ⟨_, rfl⟩
  have HA0 : Hid (maskA bs = A) := hA
  rw [hA]
  clear hA
  go_enter Try.func15, Try.ntmps15
  go_wp2
  go_loopw [3, 4] (fun _ i wr => ∃ k : Nat, k ≤ 32 ∧ i = .int .i64 k ∧ Blk wr w.heap.size (maskA (notTo bs k)) 28 ∧ (∃ O, O.size = 32 ∧ Blk wr (w.heap.size + 1) O 28) ∧ Below w.heap.size w wr) (fun _ i _ => 32 - (intOf i).toNat)
  case atStart =>
    refine ⟨0, by omega, rfl, ?_, ⟨_, rfl, Blk.new2 _ _ _ _⟩, (((Below.refl _ _).alloc (Nat.le_refl _) _).alloc (by simp) _)⟩
    have e : notTo bs 0 = bs := by simp [notTo]
    rw [e, HA0.out]
    exact Blk.new2' _ _ _ _
  case round =>
    obtain ⟨k, hk, rfl, hB, ⟨O, hO, hR⟩, hb⟩ := hrel
    have HB := Lib.hid hB
    have HR := Lib.hid hR
    have Hb := Lib.hid hb
    clear hB hR hb
    by_cases hlt : k < 32
    · have c := (HB.out.cell k).trans (maskA_at (by rw [notTo_len bs k (by omega)]; omega))
      rw [notTo_at bs (by omega)] at c
      have f := HB.out.free k
      obtain ⟨v1, v2⟩ := HA.out k
      have HS := Lib.hid (notTo_step bs (k := k) (by omega))
      generalize bs.getD k 0 = v at *
      have X : bits .xor .u8 (if IntKind.u8.signed = true then -1 else IntKind.u8.max) v = 255 - v := xor_255 v v1 v2
      clear v1 v2
      go_wp2
      exact ⟨⟨k + 1, by omega, by go_num, by have := HB.out.set k (.int .u8 (255 - v)); rw [maskA_set, HS.out] at this; exact this, ⟨O, hO, HR.out.other (by omega) _ _⟩, Hb.out.setCell (Nat.le_refl _) _⟩, by simp [intOf]; omega⟩
    · obtain rfl : k = 32 := by omega
      have e : notTo bs 32 = notB bs := by
        unfold notTo notB
        rw [List.take_of_length_le (by omega), List.drop_of_length_le (by omega), List.append_nil]
      rw [e] at HB
      have hs : (maskA (notB bs)).size = 32 := by rw [maskA_size]; unfold notB; rw [List.length_map]; exact hlen
      have h1 := maskA_one (notB bs)
      obtain ⟨C, hC⟩ : ∃ C, maskA (notB bs) = C := ⟨_, rfl⟩
      rw [hC] at HB hs h1
      have HE := Lib.hid hC
      clear hC
      have hi : (Try.prog.info? 28).map (·.size) = some C.size := by rw [hs]; kernel_rfl
      have HC := Lib.hid h1
      have HI := Lib.hid hi
      have HO := Lib.hid (hO.trans hs.symm)
      clear h1 hi hs hO
      go_wp2_with (first | (refine wpList_load_row rfl 28 _ rfl w.heap.size rfl _ _ _ _ HB.out Try.underlying28 rfl HI.out ?_) | (refine wpList_store_row rfl 28 _ _ rfl (w.heap.size + 1) C rfl rfl _ O HR.out HI.out HO.out HC.out ?_))
      refine bodyPost_ret (v := .agg C) (results_cell_row rfl _ _ (w.heap.size + 1) _ C _ _ rfl (setRow_heap _ _ _ _ _ _ HR.out) Try.underlying28 rfl HI.out) rfl ⟨by rw [HE.out], below_setRow Hb.out (by omega) _⟩

end Go.Proofs.Ytilimmimidikcaa
