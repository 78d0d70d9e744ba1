/- The library's sort of addresses: it exchanges, and does nothing else: what a row holds behind it is a permutation. Insertion. -/
import Derived.Test.YtmncpcchdhieoaaChecked
import Derived.WalkKit
import Derived.BigGuard
import Derived.BigCall
import Derived.CellFam
import Derived.Deep.Draws
import Derived.Deep.QuietTactic
import Derived.BigQuiet
import Derived.BigRegion
import Derived.Lib.Hide
import Derived.Below
import Derived.Laws.Rows
import Derived.Sort.Row
import Derived.ProofKit
import Derived.Deep.RegionHeld3
import Derived.OrdersHeld
import Derived.StillTailTactics
namespace Go.Proofs.Ytmncpcchdhieoaa
open Go.RowKit
set_option linter.unusedVariables false
set_option linter.unusedSimpArgs false

def intU : Value → Int | .int _ q => q | _ => 0
/-- A row of addresses. -/
def RowU (w : World) (g : Nat) (d : Array Int) : Prop := ∀ j, j < d.size → w.cell? ⟨g, j, none⟩ = some (.int .u32 d[j]!) ∧ w.frozen? ⟨g, j, none⟩ = false
/-- The row of block g has been permuted; nothing else of what was there has turned. -/
structure Sorting (w : World) (g : Nat) (d d' : Array Int) (w' : World) : Prop where
  perm : d'.toList.Perm d.toList
  row : RowU w' g d'
  grown : w.grownBy w' (some g)
theorem Sorting.size {w w' : World} {g : Nat} {d d' : Array Int} (h : Sorting w g d d' w') : d'.size = d.size := by
  have := h.perm.length_eq
  simpa using this
theorem Sorting.refl {w : World} {g : Nat} {d : Array Int} (h : RowU w g d) : Sorting w g d d w := ⟨List.Perm.refl _, h, ⟨rfl, rfl, rfl, Nat.le_refl _, fun _ _ _ => rfl⟩⟩
theorem grown_trans {a b c : World} {g : Nat} (h : a.grownBy b (some g)) (k : b.grownBy c (some g)) : a.grownBy c (some g) := by
  obtain ⟨h1, h2, h3, h4, h5⟩ := h
  obtain ⟨k1, k2, k3, k4, k5⟩ := k
  exact ⟨k1.trans h1, k2.trans h2, k3.trans h3, Nat.le_trans h4 k4, fun x hx hne => (k5 x (Nat.lt_of_lt_of_le hx h4) hne).trans (h5 x hx hne)⟩
theorem Sorting.trans {w w' w'' : World} {g : Nat} {d d' d'' : Array Int} (h : Sorting w g d d' w') (k : Sorting w' g d' d'' w'') : Sorting w g d d'' w'' := ⟨k.perm.trans h.perm, k.row, grown_trans h.grown k.grown⟩
theorem Sorting.drewN {w w' : World} {g : Nat} {d d' : Array Int} (h : Sorting w g d d' w') (n : Nat) : Sorting w g d d' (w'.drewN n) := ⟨h.perm, h.row, grown_trans h.grown ⟨rfl, rfl, rfl, Nat.le_refl _, fun _ _ _ => rfl⟩⟩
theorem Sorting.drew {w w' : World} {g : Nat} {d d' : Array Int} (h : Sorting w g d d' w') : Sorting w g d d' w'.drew := ⟨h.perm, h.row, grown_trans h.grown ⟨rfl, rfl, rfl, Nat.le_refl _, fun _ _ _ => rfl⟩⟩
def swapU (d : Array Int) (i j : Nat) : Array Int := (d.setIfInBounds i d[j]!).setIfInBounds j d[i]!
theorem swapU_at (d : Array Int) {i j k : Nat} (hi : i < d.size) (hj : j < d.size) (hk : k < d.size) : (swapU d i j)[k]! = if k = j then d[i]! else if k = i then d[j]! else d[k]! := by
  unfold swapU
  by_cases e1 : k = j
  · subst e1
    rw [if_pos rfl]
    exact Sort.getElem!_set_same _ _ _ (by simpa using hj)
  · rw [if_neg e1, Sort.getElem!_set_other _ _ _ _ e1]
    by_cases e2 : k = i
    · subst e2
      rw [if_pos rfl]
      exact Sort.getElem!_set_same _ _ _ hi
    · rw [if_neg e2]
      exact Sort.getElem!_set_other _ _ _ _ e2
theorem swapU_size (d : Array Int) (i j : Nat) : (swapU d i j).size = d.size := by unfold swapU; simp
theorem swapU_eq (d : Array Int) {i j : Nat} (hi : i < d.size) (hj : j < d.size) : swapU d i j = d.swap i j := by
  apply Array.ext
  · simp [swapU_size]
  · intro k h1 h2
    have hk : k < d.size := by rw [swapU_size] at h1; exact h1
    have h := swapU_at d hi hj hk
    rw [getElem!_pos _ k h1, getElem!_pos d i hi, getElem!_pos d j hj, getElem!_pos d k hk] at h
    rw [h, Array.getElem_swap]
    by_cases e1 : k = j
    · subst e1
      rw [if_pos rfl]
      by_cases e2 : k = i
      · subst e2; rw [if_pos rfl]
      · rw [if_neg e2, if_pos rfl]
    · rw [if_neg e1]
      by_cases e2 : k = i
      · rw [if_pos e2, if_pos e2]
      · rw [if_neg e2, if_neg e2, if_neg e1]
theorem swapU_perm (d : Array Int) {i j : Nat} (hi : i < d.size) (hj : j < d.size) : (swapU d i j).toList.Perm d.toList := by
  rw [swapU_eq d hi hj]
  exact (Array.swap_perm hi hj).toList
theorem touched (w : World) (g i : Nat) (v : Value) : w.grownBy (w.setCell ⟨g, i, none⟩ v) (some g) := ⟨rfl, rfl, rfl, by simp [World.setCell], fun k _ hk => Below.heap_setCell w ⟨g, i, none⟩ v k (fun e => hk (by rw [e]))⟩
/-- An exchange, in the world. -/
theorem swap_world {w : World} {g : Nat} {d : Array Int} (h : RowU w g d) {i j : Nat} (hi : i < d.size) (hj : j < d.size) :
    Sorting w g d (swapU d i j) ((w.setCell ⟨g, i, none⟩ (.int .u32 d[j]!)).setCell ⟨g, j, none⟩ (.int .u32 d[i]!)) := by
  have hsz : (swapU d i j).size = d.size := by unfold swapU; simp
  refine ⟨swapU_perm d hi hj, fun k hk => ?_, ?_⟩
  · rw [hsz] at hk
    obtain ⟨h1, h2⟩ := h k hk
    refine ⟨?_, by rw [World.frozen?_setCell, World.frozen?_setCell]; exact h2⟩
    rw [swapU_at d hi hj hk]
    by_cases e1 : k = j
    · subst e1
      rw [if_pos rfl]
      refine World.cell?_setCell_same' _ _ _ ?_
      by_cases e2 : k = i
      · subst e2
        rw [World.cell?_setCell_same' _ _ _ (by rw [h1]; rfl)]
        rfl
      · rw [World.cell?_setCell_other _ _ _ _ (by intro e; cases e; exact e2 rfl), h1]
        rfl
    · rw [if_neg e1, World.cell?_setCell_other _ _ _ _ (by intro e; cases e; exact e1 rfl)]
      by_cases e2 : k = i
      · subst e2
        rw [if_pos rfl]
        exact World.cell?_setCell_same' _ _ _ (by rw [h1]; rfl)
      · rw [if_neg e2, World.cell?_setCell_other _ _ _ _ (by intro e; cases e; exact e2 rfl)]
        exact h1
  · exact grown_trans (touched w g i _) (touched _ g j _)
theorem Sorting.swap {w wr : World} {g : Nat} {d d1 : Array Int} (h : Sorting w g d d1 wr) {i j : Nat} (hi : i < d1.size) (hj : j < d1.size) (m : Nat) :
    Sorting w g d (swapU d1 i j) (((wr.drewN m).setCell ⟨g, i, none⟩ (.int .u32 d1[j]!)).setCell ⟨g, j, none⟩ (.int .u32 d1[i]!)) :=
  (h.drewN m).trans (swap_world (h.drewN m).row hi hj)
theorem isNaN_any (x : Int) (w : World) : Calls Try.prog 48 #[.int .u32 x] w fun e w' => e = .returned (.bool false) ∧ w = w' := by
  go_enter Try.func48, Try.ntmps48
  go_wp2
  go_ret
  exact ⟨rfl, rfl⟩
set_option maxRecDepth 100000 in
theorem less_any (x y : Int) (w : World) : Calls Try.prog 56 #[.int .u32 x, .int .u32 y] w fun e w' => e = .returned (.bool (decide (x < y))) ∧ w' = w := by
  go_enter Try.func56, Try.ntmps56
  go_wp2_with (go_at_call 48; (with_reducible refine (isNaN_any _ _).mono ?_); rintro e w1 ⟨rfl, rfl⟩)
  all_goals
    go_ret
    exact ⟨rfl, rfl⟩

set_option maxRecDepth 100000 in
set_option maxHeartbeats 2000000 in
theorem insertion_any (g n c : Nat) (d : Array Int) (hd : d.size = n) (hn : n ≤ 1000000) (a b : Nat) (hab : a ≤ b) (hb : b ≤ n) (w : World) (hrow : RowU w g d) :
    Calls Try.prog 50 #[.slice (some ⟨g, 0, none⟩) n c, .int .i64 a, .int .i64 b] w fun e w' => e = .returned (.tuple #[]) ∧ ∃ d', Sorting w g d d' w' := by
  have HD := Lib.hid hd
  have HROW := Lib.hid hrow
  clear hd hrow
  go_enter Try.func50, Try.ntmps50
  go_wp2
  go_loopw [6] (fun vi wr => ∃ (i : Nat) (d' : Array Int), vi = .int .i64 i ∧ a < i ∧ i ≤ b + 1 ∧ Sorting w g d d' wr) (fun vi _ => b + 1 - (intU vi).toNat)
  case atStart => exact ⟨a + 1, d, by go_num, by omega, by omega, Sorting.refl HROW.out⟩
  case round =>
    obtain ⟨i, d1, rfl, hai, hib, hs1⟩ := hrel
    have HS1 := Lib.hid hs1
    clear hs1
    go_wp2
    · go_loopw [7] (fun vj wr2 => ∃ (j : Nat) (d2 : Array Int), vj = .int .i64 j ∧ a ≤ j ∧ j ≤ i ∧ Sorting w g d d2 wr2) (fun vj _ => (intU vj).toNat)
      case atStart => exact ⟨i, d1, rfl, by omega, Nat.le_refl _, HS1.out⟩
      case round =>
        obtain ⟨j, d2, rfl, haj, hji, hs2⟩ := hrel
        have hlt : i < b := by assumption
        have HS2 := Lib.hid hs2
        have hsz2 : d2.size = n := hs2.size.trans HD.out
        obtain ⟨G, hG⟩ : ∃ G : Nat → Int, ∀ t, G t = d2[t]! := ⟨fun t => d2[t]!, fun _ => rfl⟩
        have hcw : ∀ t, t < n → wr.cell? ⟨g, t, none⟩ = some (.int .u32 (G t)) := fun t ht => by rw [hG]; exact (hs2.row t (by omega)).1
        have hfw : ∀ t, t < n → wr.frozen? ⟨g, t, none⟩ = false := fun t ht => (hs2.row t (by omega)).2
        have HG := Lib.hid hG
        have HSZ := Lib.hid hsz2
        clear hs2 hG hsz2
        go_wp2
        by_cases hja : a < j
        · have i1 : (j : Int) < n := by omega
          have i2 : (0 : Int) ≤ (j : Int) - 1 := by omega
          have i3 : (j : Int) - 1 < n := by omega
          have i4 : j < n := by omega
          have i5 : j - 1 < n := by omega
          go_quiet (first | (go_at_call 56; refine Calls.quiet_of_same (less_any _ _ _)))
          go_wp2
          · go_region
            all_goals go_wp2
            go_roundw
            case rel =>
              refine ⟨j - 1, swapU d2 j (j - 1), by congr 1; omega, by omega, by omega, ?_⟩
              rw [HG.out, HG.out]
              exact HS2.out.swap (by rw [HSZ.out]; exact i4) (by rw [HSZ.out]; exact i5) _
            case measure => simp [intU]; omega
          · go_roundw
            case rel => exact ⟨i + 1, d2, by go_num, by omega, by omega, HS2.out.drewN _⟩
            case measure => simp [intU]; omega
        · go_quiet (first | (go_at_call 56; refine Calls.quiet_of_same (less_any _ _ _)))
          go_wp2
          go_roundw
          case rel => exact ⟨i + 1, d2, by go_num, by omega, by omega, HS2.out.drewN _⟩
          case measure => simp [intU]; omega
    · go_end0
      exact ⟨rfl, d1, HS1.out⟩
end Go.Proofs.Ytmncpcchdhieoaa
