/- Rows of leases, and their sort. -/
import Derived.Test.YtmncpcchdhieoaaSc
import Derived.Test.YtmncpcchdhieoaaOwn
import Derived.Test.YtmncpcchdhieoaaShelf
import Derived.Sort.OwnSortedInts
namespace Go.Proofs.Ytmncpcchdhieoaa
open Go.ChangeShapes Go.WideShapes Go.ChangeAt Go.RowKit
set_option linter.unusedVariables false
set_option linter.unusedSimpArgs false

open Go.Sort (HoldsK flatK grow putRow mapBlock SWO PermIn)
/-- A slice whose elements are these leases. -/
def LesIn (w : World) (a : Option Addr) (n c : Nat) (ls : List Le) : Prop :=
  ls.length = n ∧ n ≤ c ∧ c ≤ maxLen ∧ (0 < n → ∃ g o, a = some ⟨g, o, none⟩ ∧ g < w.heap.size ∧ ∀ (j : Nat) p, ls[j]? = some p → ∀ (i : Nat) v, p.cells[i]? = some v → w.cell? ⟨g, o + (j * 8 + i), none⟩ = some v)
theorem LesIn.keep {w w' : World} {a : Option Addr} {n c : Nat} {ls : List Le} (h : LesIn w a n c ls) (hb : Below w.heap.size w w') : LesIn w' a n c ls := by
  obtain ⟨h1, h3, h4, h5⟩ := h
  refine ⟨h1, h3, h4, fun h0 => ?_⟩
  obtain ⟨g, o, rfl, hg, hc⟩ := h5 h0
  exact ⟨g, o, rfl, Nat.lt_of_lt_of_le hg hb.size, fun j p hp i v hv => (hb.cell hg).trans (hc j p hp i v hv)⟩
/-- The eight cells of one of them. -/
theorem LesIn.get {w : World} {a : Option Addr} {n c : Nat} {ls : List Le} (h : LesIn w a n c ls) {j : Nat} (hj : j < n) : ∃ g o p, a = some ⟨g, o, none⟩ ∧ g < w.heap.size ∧ ls[j]? = some p ∧
    w.cell? ⟨g, o + j * 8, none⟩ = some (.int .u32 p.adr) ∧ w.cell? ⟨g, o + j * 8 + 1, none⟩ = some (.int .i64 p.bind) ∧ w.cell? ⟨g, o + j * 8 + 2, none⟩ = some (.string p.cli) ∧ w.cell? ⟨g, o + j * 8 + 3, none⟩ = some (.int .i64 p.unt) ∧
    w.cell? ⟨g, o + j * 8 + 4, none⟩ = some (.int .i64 p.ack) ∧ w.cell? ⟨g, o + j * 8 + 5, none⟩ = some (.int .i64 p.tld) ∧ w.cell? ⟨g, o + j * 8 + 6, none⟩ = some (.int .i64 p.att) ∧ w.cell? ⟨g, o + j * 8 + 7, none⟩ = some (.int .i64 p.ver) := by
  obtain ⟨h1, h3, h4, h5⟩ := h
  obtain ⟨g, o, rfl, hg, hc⟩ := h5 (by omega)
  have hp : ls[j]? = some (ls[j]'(by omega)) := List.getElem?_eq_getElem _
  exact ⟨g, o, _, rfl, hg, hp, hc j _ hp 0 _ rfl, hc j _ hp 1 _ rfl, hc j _ hp 2 _ rfl, hc j _ hp 3 _ rfl, hc j _ hp 4 _ rfl, hc j _ hp 5 _ rfl, hc j _ hp 6 _ rfl, hc j _ hp 7 _ rfl⟩
def flatL (ls : List Le) : List Value := ls.flatMap Le.cells
theorem flatL_len (ls : List Le) : (flatL ls).length = ls.length * 8 := by
  unfold flatL
  induction ls with
  | nil => rfl
  | cons p ls ih =>
    rw [List.flatMap_cons, List.length_append, ih, List.length_cons, p.cells_len]
    omega
theorem flatL_at : ∀ (ls : List Le) (j : Nat) (p : Le) (i : Nat) (v : Value), ls[j]? = some p → p.cells[i]? = some v → (flatL ls)[j * 8 + i]? = some v
  | [], j, p, i, v, h, _ => by simp at h
  | q :: ls, 0, p, i, v, h, hv => by
    simp only [List.getElem?_cons_zero, Option.some.injEq] at h
    subst h
    have hi : i < 8 := (List.getElem?_eq_some_iff.1 hv).1
    unfold flatL
    rw [List.flatMap_cons, Nat.zero_mul, Nat.zero_add, List.getElem?_append_left hi]
    exact hv
  | q :: ls, j + 1, p, i, v, h, hv => by
    simp only [List.getElem?_cons_succ] at h
    have := flatL_at ls j p i v h hv
    have hq : q.cells.length = 8 := rfl
    unfold flatL at this ⊢
    rw [List.flatMap_cons, List.getElem?_append_right (by rw [hq]; omega), hq, ← this]
    congr 1
    omega
theorem own_les {w : World} {base : Nat} {v : Value} {ls : List Le} {n : Nat} (hn : ls.length = n) (h : w.ownsRow base 35 8 v n (flatL ls)) : ∃ a c, v = .slice a n c ∧ LesIn w a n c ls := by
  subst hn
  rcases h.2 with ⟨rfl, h0⟩ | ⟨g, cap, cur, rfl, hb, hg, hc, hm, hs, ht⟩
  · exact ⟨none, 0, by rw [h0], rfl, by omega, by unfold maxLen; omega, fun h => by omega⟩
  · have hB : Blk w g cur 35 := hg
    refine ⟨_, _, rfl, rfl, hc, hm, fun _ => ⟨g, 0, rfl, hB.lt, fun j p hp i u hu => ?_⟩⟩
    have h1 := flatL_at ls j p i u hp hu
    have hj := (List.getElem?_eq_some_iff.1 hp).1
    have hi : i < 8 := (List.getElem?_eq_some_iff.1 hu).1
    rw [Nat.zero_add, hB.cell, ← ht, List.getElem?_take, if_pos (by omega)] at *
    rw [← h1]
    simp
/-- The order in which a table's leases are sorted. -/
def cfL (x y : Le) : Int := cmpI x.adr y.adr
theorem ltL (x y : Le) : ltOf cfL x y = decide (x.adr < y.adr) := by
  unfold ltOf cfL cmpI
  by_cases h1 : x.adr < y.adr
  · simp [h1]
  · by_cases h2 : y.adr < x.adr <;> simp [h1, h2]
theorem swoL : SWO (ltOf cfL) where
  irrefl x := by rw [ltL]; simp
  trans x y z h1 h2 := by rw [ltL] at *; simp at *; omega
  ntrans x y z h1 h2 := by rw [ltL] at *; simp at *; omega
theorem permIn_toList {d d' : Array Le} (h : PermIn 0 d.size d d') : d'.toList.Perm d.toList := by
  obtain ⟨h1, _, h3⟩ := h
  rw [← h1] at h3
  have e1 : d'.extract 0 d'.size = d' := Array.extract_size
  have e2 : d.extract 0 d'.size = d := by rw [h1]; exact Array.extract_size
  rw [e1, e2] at h3
  exact h3
theorem grown_sortK {w : World} {g n : Nat} {os : Array Obj} (d : Array Le) : w.grownBy (sortWorldK Le.cells 8 w g 0 n d os) (some g) := by
  refine ⟨rfl, rfl, rfl, by simp [sortWorldK, Go.Sort.putRowK], fun k hk hne => ?_⟩
  unfold sortWorldK Go.Sort.putRowK
  rw [Go.Sort.heap_grow_old _ _ (by simpa using hk)]
  have : g ≠ k := fun e => hne (by rw [e])
  simp [putRow, mapBlock, Go.Sort.ahead, Array.getElem?_modify, this]
theorem sortW_cell {w : World} {g n B : Nat} {os : Array Obj} {d : Array Le} (hne : B ≠ g) (hl : B < w.heap.size) : (sortWorldK Le.cells 8 w g 0 n d os).cell? ⟨B, 0, none⟩ = w.cell? ⟨B, 0, none⟩ :=
  World.cell?_of_block (a := ⟨B, 0, none⟩) ((grown_sortK d).block B hl (fun e => hne (by cases e; rfl)))
set_option maxRecDepth 100000 in
set_option maxHeartbeats 1000000 in
theorem cmpLays_l {g n B : Nat} {w : World} (hB : w.cell? ⟨B, 0, none⟩ = some (.func (.func 22) #[] #[])) (hne : B ≠ g) :
    CmpLays Try.prog 40 #[.pointer (some ⟨B, 0, none⟩)] Le.cells 8 cfL g 0 n w := by
  intro m os dk hs x y
  have hl := World.block_lt_of_cell? w _ hB
  exact sortc_any x.adr x.bind x.cli x.unt x.ack x.tld x.att x.ver y.adr y.bind y.cli y.unt y.ack y.tld y.att y.ver B _ ((sortW_cell hne hl).trans hB)
theorem aggL (w : World) : (isAgg 35).run Try.prog w = .ok true w := Try.isAgg35 w
theorem sizeL (w : World) : (Go.sizeOf 35).run Try.prog w = .ok 8 w := Try.sizeOf35 w
set_option maxRecDepth 100000 in
set_option maxHeartbeats 1000000 in
theorem sortL_own {base n B : Nat} {v : Value} {ls : List Le} {w : World} (h : w.ownsRow base 35 8 v n (flatL ls)) (hl : ls.length = n) (hn : n ≤ 1000000) (hB : w.cell? ⟨B, 0, none⟩ = some (.func (.func 22) #[] #[])) (hBb : B < base) :
    Calls Try.prog 65 #[v, .func (.func 40) #[] #[.pointer (some ⟨B, 0, none⟩)]] w fun e w' => e = .returned (.tuple #[]) ∧ ∃ a c ls', v = .slice a n c ∧ ls'.Perm ls ∧ LesIn w' a n c ls' ∧ w.grownBy w' v.ownBlock := by
  rcases h.2 with ⟨rfl, h0⟩ | ⟨g, cap, cur, rfl, hb, hgb, hc, hm, hs, ht⟩
  · have hcon := AnyF.slices_SortFunc_none Try.sortL none 0 (.func (.func 40) #[] #[.pointer (some ⟨B, 0, none⟩)]) w
    subst h0
    refine Calls.mono hcon ?_
    rintro e w' ⟨rfl, rfl⟩
    exact ⟨rfl, none, 0, ls, rfl, List.Perm.refl _, ⟨hl, by omega, by unfold maxLen; omega, fun h => by omega⟩, ⟨rfl, rfl, rfl, Nat.le_refl _, fun _ _ _ => rfl⟩⟩
  · subst hl
    have hBk : Blk w g cur 35 := hgb
    have hH : HoldsK Le.cells 8 w g 0 ls.toArray := by
      intro t ht1
      have ht2 : t < ls.length * 8 := by simpa using ht1
      refine ⟨?_, hBk.free _⟩
      have hj : t / 8 < ls.length := by omega
      have hp : ls[t / 8]? = some (ls[t / 8]'hj) := List.getElem?_eq_getElem _
      have hi : t % 8 < (ls[t / 8]'hj).cells.length := by rw [Le.cells_len]; omega
      have hv : (ls[t / 8]'hj).cells[t % 8]? = some ((ls[t / 8]'hj).cells[t % 8]'hi) := List.getElem?_eq_getElem _
      have h1 := flatL_at ls _ _ _ _ hp hv
      rw [show t / 8 * 8 + t % 8 = t from by omega, ← ht, List.getElem?_take, if_pos ht2] at h1
      rw [Nat.zero_add, hBk.cell, ← Array.getElem?_toList, h1]
      show _ = some (flatK Le.cells 8 ls.toArray)[t]!
      rw [Go.Sort.get_flatK _ _ _ _ (by simpa using ht2)]
      congr 1
      have e1 : ls.toArray[t / 8]! = ls[t / 8]'hj := by
        rw [getElem!_pos ls.toArray (t / 8) (by simpa using hj)]
        simp
      rw [e1, getElem!_pos (ls[t / 8]'hj).cells (t % 8) hi]
    have hcon := AnyQ.slices_SortFunc Try.sortL 8 aggL sizeL Le.cells Le.cells_len (fun x v hv => by
      unfold Le.cells at hv
      simp only [List.mem_cons, List.not_mem_nil, or_false] at hv
      rcases hv with rfl | rfl | rfl | rfl | rfl | rfl | rfl | rfl <;> rfl) cfL swoL 40 #[.pointer (some ⟨B, 0, none⟩)] g 0 cap ls.toArray w (enters_of Try.func40 (by kernel_rfl) rfl) (cmpLays_l hB (by omega)) hH hBk.lt (by simp; omega)
    rw [List.size_toArray] at hcon
    refine Calls.mono hcon ?_
    rintro e w' ⟨rfl, d', m, os, hp, _, rfl⟩
    have hsz : d'.size = ls.toArray.size := by
      have := hp.1
      exact this
    have hp' : PermIn 0 ls.toArray.size ls.toArray d' := by simpa using hp
    have hH2 := holdsK_sortWorldK_c Le.cells 8 w g 0 ls.toArray d' m os hH hBk.lt hsz
    refine ⟨rfl, _, _, d'.toList, rfl, permIn_toList hp', ⟨by simpa using hsz, hc, hm, fun _ => ⟨g, 0, rfl, Nat.lt_of_lt_of_le hBk.lt (grown_sortK d').size, fun j p hp i u hu => ?_⟩⟩, grown_sortK d'⟩
    have hj : j < d'.size := by simpa using (List.getElem?_eq_some_iff.1 hp).1
    have hi : i < 8 := (List.getElem?_eq_some_iff.1 hu).1
    have h1 := (hH2.cell hj hi).1
    rw [Nat.zero_add, ← show 0 + j * 8 + i = j * 8 + i from by omega, h1]
    have e1 : d'[j]! = p := by
      rw [getElem!_pos d' j hj]
      obtain ⟨_, e⟩ := List.getElem?_eq_some_iff.1 hp
      simpa using e
    rw [e1, getElem!_pos p.cells i (by rw [Le.cells_len]; exact hi)]
    obtain ⟨_, e⟩ := List.getElem?_eq_some_iff.1 hu
    rw [e]

end Go.Proofs.Ytmncpcchdhieoaa
