/- Blocks that are there and stay, over any program; what is held of them through a region that draws its order. -/
import Derived.WalkKit
import Derived.ProofKit
import Derived.Below
import Derived.Laws.Rows
import Derived.Deep.RegionHeld3
import Derived.Lib.Hide
import Derived.StillTailTactics
namespace Go.Proofs.Ytgpfdchokpelfaa
open Go.ChangeShapes Go.WideShapes Go.ChangeAt Go.RowKit
set_option linter.unusedVariables false

/-- What lies in a block. -/
def Blk (w : World) (g : Nat) (A : Array Value) (t : TypeId) : Prop := w.heap[g]? = some (.cells A t (0, 0))
theorem Blk.cell {w : World} {g : Nat} {A : Array Value} {t : TypeId} (h : Blk w g A t) (i : Nat) : w.cell? ⟨g, i, none⟩ = A[i]? := cell_of_row w g i A t _ h
theorem Blk.free {w : World} {g : Nat} {A : Array Value} {t : TypeId} (h : Blk w g A t) (i : Nat) : w.frozen? ⟨g, i, none⟩ = false := frozen_of_row w g i A t h
theorem Blk.lt {w : World} {g : Nat} {A : Array Value} {t : TypeId} (h : Blk w g A t) : g < w.heap.size := by
  rcases Nat.lt_or_ge g w.heap.size with hl | hl
  · exact hl
  · unfold Blk at h; rw [Array.getElem?_eq_none hl] at h; cases h
theorem Blk.below {w w' : World} {g : Nat} {A : Array Value} {t : TypeId} (h : Blk w g A t) {B : Nat} (hb : Below B w w') (hB : g < B) : Blk w' g A t := (hb.block g hB).trans h
theorem Blk.keep {w w' : World} {g : Nat} {A : Array Value} {t : TypeId} (h : Blk w g A t) (hb : Below w.heap.size w w') : Blk w' g A t := h.below hb h.lt
theorem Blk.set {w : World} {g : Nat} {A : Array Value} {t : TypeId} (h : Blk w g A t) (i : Nat) (v : Value) : Blk (w.setCell ⟨g, i, none⟩ v) g (A.setIfInBounds i v) t := heap_setCell_same w g i A t v h
theorem Blk.other {w : World} {g : Nat} {A : Array Value} {t : TypeId} (h : Blk w g A t) {k : Nat} (hk : g ≠ k) (i : Nat) (v : Value) : Blk (w.setCell ⟨k, i, none⟩ v) g A t := (heap_setCell_other w ⟨k, i, none⟩ g v hk).trans h
theorem Blk.drew {w : World} {g : Nat} {A : Array Value} {t : TypeId} (h : Blk w g A t) : Blk w.drew g A t := h
theorem Blk.alloc {w : World} {g : Nat} {A : Array Value} {t : TypeId} (h : Blk w g A t) (o : Obj) : Blk (w.alloc o) g A t := (Below.heap_alloc w o g h.lt).trans h
theorem Blk.new (w : World) (A : Array Value) (t : TypeId) : Blk (w.alloc (.cells A t)) w.heap.size A t := heap_alloc_new w _
theorem Blk.new2 (w : World) (o : Obj) (A : Array Value) (t : TypeId) : Blk ((w.alloc o).alloc (.cells A t)) (w.heap.size + 1) A t := heap_alloc2_new w o _
theorem Blk.new2' (w : World) (A : Array Value) (t : TypeId) (o : Obj) : Blk ((w.alloc (.cells A t)).alloc o) w.heap.size A t := heap_alloc2_old w _ o
theorem Blk.new3 (w : World) (o o' : Obj) (A : Array Value) (t : TypeId) : Blk (((w.alloc o).alloc o').alloc (.cells A t)) (w.heap.size + 1 + 1) A t := by
  have h := Blk.new ((w.alloc o).alloc o') A t
  have e : ((w.alloc o).alloc o').heap.size = w.heap.size + 1 + 1 := by simp
  rw [e] at h
  exact h
theorem below_keep {B : Nat} {w0 w w' : World} (hB : B ≤ w0.heap.size) (h : Below B w0 w) (hb : Below w.heap.size w w') : Below B w0 w' := h.trans (hb.mono (Nat.le_trans hB h.size))
theorem low {w0 w w' : World} (h : Below w0.heap.size w0 w) (hb : Below w.heap.size w w') : Below w0.heap.size w0 w' := below_keep (Nat.le_refl _) h hb
theorem lowA {w0 w : World} (h : Below w0.heap.size w0 w) (o : Obj) : Below w0.heap.size w0 (w.alloc o) := h.alloc h.size _
theorem low0 (w : World) (o : Obj) : Below w.heap.size w (w.alloc o) := lowA (Below.refl _ _) o
/-- Blocks that are there, over a world that has grown since W. -/
def HeldB (W : World) (gs : List (Nat × Array Value × TypeId)) (w : World) : Prop := (∀ p ∈ gs, Blk w p.1 p.2.1 p.2.2) ∧ Below W.heap.size W w
theorem HeldB.keep {W : World} {gs : List (Nat × Array Value × TypeId)} {w w' : World} (h : HeldB W gs w) (hb : Below w.heap.size w w') : HeldB W gs w' :=
  ⟨fun p hp => (h.1 p hp).keep hb, low h.2 hb⟩
theorem HeldB.drew {W : World} {gs : List (Nat × Array Value × TypeId)} {w : World} (h : HeldB W gs w) : HeldB W gs w.drew := ⟨h.1, h.2.drew⟩
theorem HeldB.alloc {W : World} {gs : List (Nat × Array Value × TypeId)} {w : World} (h : HeldB W gs w) (o : Obj) : HeldB W gs (w.alloc o) := ⟨fun p hp => (h.1 p hp).alloc o, lowA h.2 o⟩
theorem HeldB.blk {W : World} {gs : List (Nat × Array Value × TypeId)} {w : World} (h : HeldB W gs w) {g : Nat} {A : Array Value} {t : TypeId} (hm : (g, A, t) ∈ gs) : Blk w g A t := h.1 _ hm
theorem HeldB.at {W : World} {gs : List (Nat × Array Value × TypeId)} {w : World} (h : HeldB W gs w) {g : Nat} {A : Array Value} {t : TypeId} (hm : (g, A, t) ∈ gs) {i : Nat} {v : Value} (hv : A[i]? = some v) : w.cell? ⟨g, i, none⟩ = some v := ((h.1 _ hm).cell i).trans hv
theorem Blk.at {w : World} {g : Nat} {A : Array Value} {t : TypeId} (h : Blk w g A t) {i : Nat} {v : Value} (hv : A[i]? = some v) : w.cell? ⟨g, i, none⟩ = some v := (h.cell i).trans hv
theorem HeldB.nil {W w : World} (h : Below W.heap.size W w) : HeldB W [] w := ⟨(fun _ h => by cases h), h⟩
theorem HeldB.cons {W w : World} {gs : List (Nat × Array Value × TypeId)} (h : HeldB W gs w) {g : Nat} {A : Array Value} {t : TypeId} (hb : Blk w g A t) : HeldB W ((g, A, t) :: gs) w :=
  ⟨fun p hp => by
    rcases List.mem_cons.1 hp with rfl | hp
    · exact hb
    · exact h.1 p hp, h.2⟩

end Go.Proofs.Ytgpfdchokpelfaa
