/- What the law holds. -/
import Derived.Test.YtmncpcchdhieoaaPlw
import Derived.Test.YtmncpcchdhieoaaGet
import Derived.Test.YtmncpcchdhieoaaOpen
import Derived.OpenShut
namespace Go.Proofs.Ytmncpcchdhieoaa
open Go.ChangeShapes Go.WideShapes Go.ChangeAt Go.RowKit
set_option linter.unusedVariables false
set_option linter.unusedSimpArgs false

open Flo (partV)

theorem les_of {w : World} {a : Option Addr} {n c : Nat} {xs : List (List Value)} (h : SliceIn w [.int .u32, .int .i64, .str, .int .i64, .int .i64, .int .i64, .int .i64, .int .i64] a n c xs) : ∃ ls, LesIn w a n c ls ∧ ∀ l ∈ ls, 0 ≤ l.adr ∧ l.adr ≤ 4294967295 := by
  obtain ⟨h1, h2, h3, h4, _, h6⟩ := h
  have hall : ∃ ls : List Le, xs = ls.map Le.cells ∧ ∀ l ∈ ls, 0 ≤ l.adr ∧ l.adr ≤ 4294967295 := by
    clear h1 h6
    induction xs with
    | nil => exact ⟨[], rfl, fun _ h => by cases h⟩
    | cons cs xs ih =>
      obtain ⟨ps, rfl, hf⟩ := ih (fun y hy => h2 y (.tail _ hy))
      have f := h2 cs (.head _)
      obtain ⟨_, _, rfl, ⟨b0, rfl, w0⟩, _, _, rfl, ⟨b1, rfl, w1⟩, _, _, rfl, ⟨b2, rfl, w2⟩, _, _, rfl, ⟨b3, rfl, w3⟩, _, _, rfl, ⟨b4, rfl, w4⟩, _, _, rfl, ⟨b5, rfl, w5⟩, _, _, rfl, ⟨b6, rfl, w6⟩, _, _, rfl, ⟨b7, rfl, w7⟩, f⟩ := f
      subst f
      refine ⟨⟨b0, b1, b2, b3, b4, b5, b6, b7⟩ :: ps, rfl, fun p hp => ?_⟩
      rcases List.mem_cons.1 hp with rfl | hp
      · have e1 : IntKind.u32.min = 0 := by decide
        have e2 : IntKind.u32.max = 4294967295 := by decide
        simp [Lit.wf, e1, e2] at w0
        exact w0
      · exact hf p hp
  obtain ⟨ls, rfl, hf⟩ := hall
  rw [List.length_map] at h1
  refine ⟨ls, ⟨h1, h3, h4, fun h0 => ?_⟩, hf⟩
  obtain ⟨b, o, rfl, hb, hc⟩ := h6 h0
  refine ⟨b, o, rfl, hb, fun j p hp i v hv => ?_⟩
  have hj := (List.getElem?_eq_some_iff.1 hp).1
  have hi : i < 8 := (List.getElem?_eq_some_iff.1 hv).1
  have h := hc j i (by omega) hi
  have e : ((ls.map Le.cells).getD j []).getD i undef = v := by
    rw [List.getD_eq_getElem?_getD, List.getD_eq_getElem?_getD, List.getElem?_map, hp]
    simp only [Option.map_some, Option.getD_some]
    rw [hv]
    rfl
  rw [e] at h
  exact h
/-- A table is there, and what the law holds beside it. -/
structure StT (W : World) (tb m : Nat) (B : Nat) (X : Array Value) (t : TypeId) (nn : Nat) (f : Int → Le) (w : World) : Prop where
  tab : w.cell? ⟨tb, 0, none⟩ = some (.map (some m))
  map : TabM w m nn 20 f
  inv : InvF f
  blk : Blk w B X t
  low : Below W.heap.size W w
theorem StT.keep {W : World} {tb m B : Nat} {X : Array Value} {t : TypeId} {nn : Nat} {f : Int → Le} {w w' : World} (h : StT W tb m B X t nn f w) (hb : Below w.heap.size w w') : StT W tb m B X t nn f w' :=
  ⟨(hb.cell (p := ⟨tb, 0, none⟩) (World.block_lt_of_cell? _ _ h.tab)).trans h.tab, h.map.low hb, h.inv, h.blk.keep hb, Go.Proofs.Ytmncpcchdhieoaa.low h.low hb⟩
theorem StT.set {W : World} {tb m B : Nat} {X : Array Value} {t : TypeId} {nn nn' : Nat} {f f' : Int → Le} {w w' : World} (h : StT W tb m B X t nn f w) (hg : w.grownBy w' (some m)) (h1 : tb ≠ m) (h2 : B ≠ m) (h3 : W.heap.size ≤ m) (hm : TabM w' m nn' 20 f') (hi : InvF f') : StT W tb m B X t nn' f' w' :=
  ⟨cell_grown hg h1 h.tab, hm, hi, (hg.block B h.blk.lt (fun e => h2 (by cases e; rfl))).trans h.blk, h.low.grown hg h.low.size (fun j e => by cases e; exact h3)⟩
/-- The table, the plan, and how many were held. -/
structure StP (W : World) (tb m pb hb : Nat) (p q : Nat) (X : Array Value) (nn : Nat) (f : Int → Le) (w : World) : Prop where
  st : StT W tb m pb #[.float .f64 p, .float .f64 q] 38 nn f w
  hd : Blk w hb X 39
theorem StP.keep {W : World} {tb m pb hb p q : Nat} {X : Array Value} {nn : Nat} {f : Int → Le} {w w' : World} (h : StP W tb m pb hb p q X nn f w) (hx : Below w.heap.size w w') : StP W tb m pb hb p q X nn f w' := ⟨h.st.keep hx, h.hd.keep hx⟩
theorem StP.set {W : World} {tb m pb hb p q : Nat} {X : Array Value} {nn nn' : Nat} {f f' : Int → Le} {w w' : World} (h : StP W tb m pb hb p q X nn f w) (hg : w.grownBy w' (some m)) (h1 : tb ≠ m) (h2 : pb ≠ m) (h4 : hb ≠ m) (h3 : W.heap.size ≤ m) (hm : TabM w' m nn' 20 f') (hi : InvF f') : StP W tb m pb hb p q X nn' f' w' :=
  ⟨h.st.set hg h1 h2 h3 hm hi, (hg.block hb h.hd.lt (fun e => h4 (by cases e; rfl))).trans h.hd⟩
theorem StP.put {W : World} {tb m pb hb p q : Nat} {X : Array Value} {nn : Nat} {f : Int → Le} {w : World} (h : StP W tb m pb hb p q X nn f w) (h1 : tb ≠ hb) (h2 : pb ≠ hb) (h3 : W.heap.size ≤ hb) (i : Nat) (v : Value) : StP W tb m pb hb p q (X.setIfInBounds i v) nn f (w.setCell ⟨hb, i, none⟩ v) := by
  obtain ⟨⟨s1, ⟨D, ho, ha, hat⟩, s3, s4, s5⟩, hd⟩ := h
  have hmh : m ≠ hb := fun e => by
    obtain ⟨es, clock, hh, _⟩ := ho
    rw [e] at hh
    rw [show w.heap[hb]? = _ from hd] at hh
    cases hh
  refine ⟨⟨?_, ⟨D, ho.setCell hmh v, ha, hat⟩, s3, s4.other h2 i v, s5.setCell h3 v⟩, hd.set i v⟩
  rw [World.cell?_setCell_other _ _ _ _ (by intro e'; cases e'; exact h1 rfl)]
  exact s1
def heldA (f : Int → Le) (b : Nat) : Array Value := #[.int .i64 0, .int .i64 0, .int .i64 (if 2 < b then (cnt f 2 : Int) else 0), .int .i64 (if 3 < b then (cnt f 3 : Int) else 0), .int .i64 (if 4 < b then (cnt f 4 : Int) else 0), .int .i64 (if 5 < b then (cnt f 5 : Int) else 0)]

end Go.Proofs.Ytmncpcchdhieoaa
