/- Blocks that are there and stay, over any program; what is held of them through a region that draws its order. -/
import Derived.WalkKit
import Derived.ProofKit
import Derived.Below
import Derived.Laws.Rows
import Derived.Deep.RegionHeld3
import Derived.Lib.Hide
import Derived.StillTailTactics
namespace Go.Proofs.Ytmncpcchdhieoaa
open Go.ChangeShapes Go.WideShapes Go.ChangeAt Go.RowKit
set_option linter.unusedVariables false

/-- What lies in a block. -/
def Blk (w : World) (g : Nat) (A : Array Value) (t : TypeId) : Prop := w.heap[g]? = some (.cells A t (0, 0))
theorem Blk.cell {w : World} {g : Nat} {A : Array Value} {t : TypeId} (h : Blk w g A t) (i : Nat) : w.cell? ⟨g, i, none⟩ = A[i]? := cell_of_row w g i A t _ h
theorem Blk.free {w : World} {g : Nat} {A : Array Value} {t : TypeId} (h : Blk w g A t) (i : Nat) : w.frozen? ⟨g, i, none⟩ = false := frozen_of_row w g i A t h
theorem Blk.lt {w : World} {g : Nat} {A : Array Value} {t : TypeId} (h : Blk w g A t) : g < w.heap.size := by
  rcases Nat.lt_or_ge g w.heap.size with hl | hl
  · exact hl
  · unfold Blk at h; rw [Array.getElem?_eq_none hl] at h; cases h
theorem Blk.below {w w' : World} {g : Nat} {A : Array Value} {t : TypeId} (h : Blk w g A t) {B : Nat} (hb : Below B w w') (hB : g < B) : Blk w' g A t := (hb.block g hB).trans h
theorem Blk.keep {w w' : World} {g : Nat} {A : Array Value} {t : TypeId} (h : Blk w g A t) (hb : Below w.heap.size w w') : Blk w' g A t := h.below hb h.lt
theorem Blk.set {w : World} {g : Nat} {A : Array Value} {t : TypeId} (h : Blk w g A t) (i : Nat) (v : Value) : Blk (w.setCell ⟨g, i, none⟩ v) g (A.setIfInBounds i v) t := heap_setCell_same w g i A t v h
theorem Blk.other {w : World} {g : Nat} {A : Array Value} {t : TypeId} (h : Blk w g A t) {k : Nat} (hk : g ≠ k) (i : Nat) (v : Value) : Blk (w.setCell ⟨k, i, none⟩ v) g A t := (heap_setCell_other w ⟨k, i, none⟩ g v hk).trans h
theorem Blk.drew {w : World} {g : Nat} {A : Array Value} {t : TypeId} (h : Blk w g A t) : Blk w.drew g A t := h
theorem Blk.alloc {w : World} {g : Nat} {A : Array Value} {t : TypeId} (h : Blk w g A t) (o : Obj) : Blk (w.alloc o) g A t := (Below.heap_alloc w o g h.lt).trans h
theorem Blk.new (w : World) (A : Array Value) (t : TypeId) : Blk (w.alloc (.cells A t)) w.heap.size A t := heap_alloc_new w _
theorem Blk.new2 (w : World) (o : Obj) (A : Array Value) (t : TypeId) : Blk ((w.alloc o).alloc (.cells A t)) (w.heap.size + 1) A t := heap_alloc2_new w o _
theorem Blk.new2' (w : World) (A : Array Value) (t : TypeId) (o : Obj) : Blk ((w.alloc (.cells A t)).alloc o) w.heap.size A t := heap_alloc2_old w _ o
theorem Blk.new3 (w : World) (o o' : Obj) (A : Array Value) (t : TypeId) : Blk (((w.alloc o).alloc o').alloc (.cells A t)) (w.heap.size + 1 + 1) A t := by
  have h := Blk.new ((w.alloc o).alloc o') A t
  have e : ((w.alloc o).alloc o').heap.size = w.heap.size + 1 + 1 := by simp
  rw [e] at h
  exact h
theorem below_keep {B : Nat} {w0 w w' : World} (hB : B ≤ w0.heap.size) (h : Below B w0 w) (hb : Below w.heap.size w w') : Below B w0 w' := h.trans (hb.mono (Nat.le_trans hB h.size))
theorem low {w0 w w' : World} (h : Below w0.heap.size w0 w) (hb : Below w.heap.size w w') : Below w0.heap.size w0 w' := below_keep (Nat.le_refl _) h hb
theorem lowA {w0 w : World} (h : Below w0.heap.size w0 w) (o : Obj) : Below w0.heap.size w0 (w.alloc o) := h.alloc h.size _
theorem low0 (w : World) (o : Obj) : Below w.heap.size w (w.alloc o) := lowA (Below.refl _ _) o
/-- Blocks that are there, over a world that has grown since W. -/
def HeldB (W : World) (gs : List (Nat × Array Value × TypeId)) (w : World) : Prop := (∀ p ∈ gs, Blk w p.1 p.2.1 p.2.2) ∧ Below W.heap.size W w
theorem HeldB.keep {W : World} {gs : List (Nat × Array Value × TypeId)} {w w' : World} (h : HeldB W gs w) (hb : Below w.heap.size w w') : HeldB W gs w' :=
  ⟨fun p hp => (h.1 p hp).keep hb, low h.2 hb⟩
theorem HeldB.drew {W : World} {gs : List (Nat × Array Value × TypeId)} {w : World} (h : HeldB W gs w) : HeldB W gs w.drew := ⟨h.1, h.2.drew⟩
theorem HeldB.alloc {W : World} {gs : List (Nat × Array Value × TypeId)} {w : World} (h : HeldB W gs w) (o : Obj) : HeldB W gs (w.alloc o) := ⟨fun p hp => (h.1 p hp).alloc o, lowA h.2 o⟩
theorem HeldB.blk {W : World} {gs : List (Nat × Array Value × TypeId)} {w : World} (h : HeldB W gs w) {g : Nat} {A : Array Value} {t : TypeId} (hm : (g, A, t) ∈ gs) : Blk w g A t := h.1 _ hm
theorem HeldB.at {W : World} {gs : List (Nat × Array Value × TypeId)} {w : World} (h : HeldB W gs w) {g : Nat} {A : Array Value} {t : TypeId} (hm : (g, A, t) ∈ gs) {i : Nat} {v : Value} (hv : A[i]? = some v) : w.cell? ⟨g, i, none⟩ = some v := ((h.1 _ hm).cell i).trans hv
theorem Blk.at {w : World} {g : Nat} {A : Array Value} {t : TypeId} (h : Blk w g A t) {i : Nat} {v : Value} (hv : A[i]? = some v) : w.cell? ⟨g, i, none⟩ = some v := (h.cell i).trans hv
theorem HeldB.nil {W w : World} (h : Below W.heap.size W w) : HeldB W [] w := ⟨(fun _ h => by cases h), h⟩
theorem HeldB.cons {W w : World} {gs : List (Nat × Array Value × TypeId)} (h : HeldB W gs w) {g : Nat} {A : Array Value} {t : TypeId} (hb : Blk w g A t) : HeldB W ((g, A, t) :: gs) w :=
  ⟨fun p hp => by
    rcases List.mem_cons.1 hp with rfl | hp
    · exact hb
    · exact h.1 p hp, h.2⟩
theorem HeldB.fr {W : World} {gs : List (Nat × Array Value × TypeId)} {w : World} (h : HeldB W gs w) {g : Nat} {A : Array Value} {t : TypeId} (hm : (g, A, t) ∈ gs) (i : Nat) : w.frozen? ⟨g, i, none⟩ = false := (h.1 _ hm).free i
theorem HeldB.lt {W : World} {gs : List (Nat × Array Value × TypeId)} {w : World} (h : HeldB W gs w) {g : Nat} {A : Array Value} {t : TypeId} (hm : (g, A, t) ∈ gs) : g < w.heap.size := (h.1 _ hm).lt
theorem HeldB.low {W : World} {gs : List (Nat × Array Value × TypeId)} {w : World} (h : HeldB W gs w) : W.heap.size ≤ w.heap.size := h.2.size
/-- A store into one of the blocks. -/
theorem HeldB.set {W : World} {g : Nat} {A : Array Value} {t : TypeId} {gs : List (Nat × Array Value × TypeId)} {w : World} (h : HeldB W ((g, A, t) :: gs) w) (hg : W.heap.size ≤ g) (hd : ∀ p ∈ gs, p.1 ≠ g) (i : Nat) (v : Value) :
    HeldB W ((g, A.setIfInBounds i v, t) :: gs) (w.setCell ⟨g, i, none⟩ v) :=
  ⟨fun p hp => by
    rcases List.mem_cons.1 hp with rfl | hp
    · exact (h.1 _ (.head _)).set i v
    · exact (h.1 _ (.tail _ hp)).other (hd p hp) i v, h.2.setCell hg v⟩
/-- A new block. -/
theorem HeldB.new {W : World} {gs : List (Nat × Array Value × TypeId)} {w : World} (h : HeldB W gs w) (A : Array Value) (t : TypeId) : HeldB W ((w.heap.size, A, t) :: gs) (w.alloc (.cells A t)) :=
  (h.alloc _).cons (Blk.new w A t)
/-- The blocks in another order, or some of them. -/
theorem HeldB.sub {W : World} {gs hs : List (Nat × Array Value × TypeId)} {w : World} (h : HeldB W gs w) (hh : ∀ p ∈ hs, p ∈ gs) : HeldB W hs w := ⟨fun p hp => h.1 p (hh p hp), h.2⟩
/-- A store of eight cells into one of the blocks. -/
theorem HeldB.set8 {W : World} {g : Nat} {a0 a1 a2 a3 a4 a5 a6 a7 : Value} {t : TypeId} {gs : List (Nat × Array Value × TypeId)} {w : World} (h : HeldB W ((g, #[a0, a1, a2, a3, a4, a5, a6, a7], t) :: gs) w) (hg : W.heap.size ≤ g) (hd : ∀ p ∈ gs, p.1 ≠ g) (b0 b1 b2 b3 b4 b5 b6 b7 : Value) :
    HeldB W ((g, #[b0, b1, b2, b3, b4, b5, b6, b7], t) :: gs) ((((((((w.setCell ⟨g, 0, none⟩ b0).setCell ⟨g, 1, none⟩ b1).setCell ⟨g, 2, none⟩ b2).setCell ⟨g, 3, none⟩ b3).setCell ⟨g, 4, none⟩ b4).setCell ⟨g, 5, none⟩ b5).setCell ⟨g, 6, none⟩ b6).setCell ⟨g, 7, none⟩ b7) := by
  have h0 := h.set hg hd 0 b0
  simp only [List.setIfInBounds_toArray, List.set_cons_zero] at h0
  have h1 := h0.set hg hd 1 b1
  simp only [List.setIfInBounds_toArray, List.set_cons_zero, List.set_cons_succ] at h1
  have h2 := h1.set hg hd 2 b2
  simp only [List.setIfInBounds_toArray, List.set_cons_zero, List.set_cons_succ] at h2
  have h3 := h2.set hg hd 3 b3
  simp only [List.setIfInBounds_toArray, List.set_cons_zero, List.set_cons_succ] at h3
  have h4 := h3.set hg hd 4 b4
  simp only [List.setIfInBounds_toArray, List.set_cons_zero, List.set_cons_succ] at h4
  have h5 := h4.set hg hd 5 b5
  simp only [List.setIfInBounds_toArray, List.set_cons_zero, List.set_cons_succ] at h5
  have h6 := h5.set hg hd 6 b6
  simp only [List.setIfInBounds_toArray, List.set_cons_zero, List.set_cons_succ] at h6
  have h7 := h6.set hg hd 7 b7
  simp only [List.setIfInBounds_toArray, List.set_cons_zero, List.set_cons_succ] at h7
  exact h7
/-- The first block, and the others. -/
theorem HeldB.b0 {W : World} {g : Nat} {A : Array Value} {t : TypeId} {gs : List (Nat × Array Value × TypeId)} {w : World} (h : HeldB W ((g, A, t) :: gs) w) : Blk w g A t := h.1 _ (.head _)
theorem HeldB.tl {W : World} {p : Nat × Array Value × TypeId} {gs : List (Nat × Array Value × TypeId)} {w : World} (h : HeldB W (p :: gs) w) : HeldB W gs w := ⟨fun q hq => h.1 q (.tail _ hq), h.2⟩
theorem HeldB.swap {W : World} {p q : Nat × Array Value × TypeId} {gs : List (Nat × Array Value × TypeId)} {w : World} (h : HeldB W (p :: q :: gs) w) : HeldB W (q :: p :: gs) w := h.sub (by intro x hx; simp only [List.mem_cons] at hx ⊢; rcases hx with h | h | h <;> simp [h])
theorem HeldB.rot {W : World} {p q r : Nat × Array Value × TypeId} {gs : List (Nat × Array Value × TypeId)} {w : World} (h : HeldB W (p :: q :: r :: gs) w) : HeldB W (r :: p :: q :: gs) w := h.sub (by intro x hx; simp only [List.mem_cons] at hx ⊢; rcases hx with h | h | h | h <;> simp [h])
theorem HeldB.set1 {W : World} {p : Nat × Array Value × TypeId} {g : Nat} {A : Array Value} {t : TypeId} {gs : List (Nat × Array Value × TypeId)} {w : World} (h : HeldB W (p :: (g, A, t) :: gs) w) (hg : W.heap.size ≤ g) (hd : ∀ q ∈ p :: gs, q.1 ≠ g) (i : Nat) (v : Value) :
    HeldB W (p :: (g, A.setIfInBounds i v, t) :: gs) (w.setCell ⟨g, i, none⟩ v) := (h.swap.set hg hd i v).swap
theorem HeldB.set2 {W : World} {p q : Nat × Array Value × TypeId} {g : Nat} {A : Array Value} {t : TypeId} {gs : List (Nat × Array Value × TypeId)} {w : World} (h : HeldB W (p :: q :: (g, A, t) :: gs) w) (hg : W.heap.size ≤ g) (hd : ∀ r ∈ p :: q :: gs, r.1 ≠ g) (i : Nat) (v : Value) :
    HeldB W (p :: q :: (g, A.setIfInBounds i v, t) :: gs) (w.setCell ⟨g, i, none⟩ v) :=
  (h.rot.set hg hd i v).sub (by intro x hx; simp only [List.mem_cons] at hx ⊢; rcases hx with h | h | h | h <;> simp [h])
theorem HeldB.set81 {W : World} {p : Nat × Array Value × TypeId} {g : Nat} {a0 a1 a2 a3 a4 a5 a6 a7 : Value} {t : TypeId} {gs : List (Nat × Array Value × TypeId)} {w : World} (h : HeldB W (p :: (g, #[a0, a1, a2, a3, a4, a5, a6, a7], t) :: gs) w) (hg : W.heap.size ≤ g) (hd : ∀ q ∈ p :: gs, q.1 ≠ g) (b0 b1 b2 b3 b4 b5 b6 b7 : Value) :
    HeldB W (p :: (g, #[b0, b1, b2, b3, b4, b5, b6, b7], t) :: gs) ((((((((w.setCell ⟨g, 0, none⟩ b0).setCell ⟨g, 1, none⟩ b1).setCell ⟨g, 2, none⟩ b2).setCell ⟨g, 3, none⟩ b3).setCell ⟨g, 4, none⟩ b4).setCell ⟨g, 5, none⟩ b5).setCell ⟨g, 6, none⟩ b6).setCell ⟨g, 7, none⟩ b7) :=
  (h.swap.set8 hg hd b0 b1 b2 b3 b4 b5 b6 b7).swap
theorem Blk.cells1 {w : World} {g : Nat} {a0 : Value} {t : TypeId} (h : Blk w g #[a0] t) : w.cell? ⟨g, 0, none⟩ = some a0 := h.at (i := 0) rfl
theorem Blk.cells2 {w : World} {g : Nat} {a0 a1 : Value} {t : TypeId} (h : Blk w g #[a0, a1] t) : w.cell? ⟨g, 0, none⟩ = some a0 ∧ w.cell? ⟨g, 1, none⟩ = some a1 := ⟨h.at (i := 0) rfl, h.at (i := 1) rfl⟩
theorem Blk.cells3 {w : World} {g : Nat} {a0 a1 a2 : Value} {t : TypeId} (h : Blk w g #[a0, a1, a2] t) : w.cell? ⟨g, 0, none⟩ = some a0 ∧ w.cell? ⟨g, 1, none⟩ = some a1 ∧ w.cell? ⟨g, 2, none⟩ = some a2 := ⟨h.at (i := 0) rfl, h.at (i := 1) rfl, h.at (i := 2) rfl⟩
theorem Blk.cells4 {w : World} {g : Nat} {a0 a1 a2 a3 : Value} {t : TypeId} (h : Blk w g #[a0, a1, a2, a3] t) : w.cell? ⟨g, 0, none⟩ = some a0 ∧ w.cell? ⟨g, 1, none⟩ = some a1 ∧ w.cell? ⟨g, 2, none⟩ = some a2 ∧ w.cell? ⟨g, 3, none⟩ = some a3 := ⟨h.at (i := 0) rfl, h.at (i := 1) rfl, h.at (i := 2) rfl, h.at (i := 3) rfl⟩
theorem Blk.cells5 {w : World} {g : Nat} {a0 a1 a2 a3 a4 : Value} {t : TypeId} (h : Blk w g #[a0, a1, a2, a3, a4] t) : w.cell? ⟨g, 0, none⟩ = some a0 ∧ w.cell? ⟨g, 1, none⟩ = some a1 ∧ w.cell? ⟨g, 2, none⟩ = some a2 ∧ w.cell? ⟨g, 3, none⟩ = some a3 ∧ w.cell? ⟨g, 4, none⟩ = some a4 := ⟨h.at (i := 0) rfl, h.at (i := 1) rfl, h.at (i := 2) rfl, h.at (i := 3) rfl, h.at (i := 4) rfl⟩
theorem Blk.cells8 {w : World} {g : Nat} {a0 a1 a2 a3 a4 a5 a6 a7 : Value} {t : TypeId} (h : Blk w g #[a0, a1, a2, a3, a4, a5, a6, a7] t) : w.cell? ⟨g, 0, none⟩ = some a0 ∧ w.cell? ⟨g, 1, none⟩ = some a1 ∧ w.cell? ⟨g, 2, none⟩ = some a2 ∧ w.cell? ⟨g, 3, none⟩ = some a3 ∧ w.cell? ⟨g, 4, none⟩ = some a4 ∧ w.cell? ⟨g, 5, none⟩ = some a5 ∧ w.cell? ⟨g, 6, none⟩ = some a6 ∧ w.cell? ⟨g, 7, none⟩ = some a7 := ⟨h.at (i := 0) rfl, h.at (i := 1) rfl, h.at (i := 2) rfl, h.at (i := 3) rfl, h.at (i := 4) rfl, h.at (i := 5) rfl, h.at (i := 6) rfl, h.at (i := 7) rfl⟩
theorem Blk.cells6 {w : World} {g : Nat} {a0 a1 a2 a3 a4 a5 : Value} {t : TypeId} (h : Blk w g #[a0, a1, a2, a3, a4, a5] t) : w.cell? ⟨g, 0, none⟩ = some a0 ∧ w.cell? ⟨g, 1, none⟩ = some a1 ∧ w.cell? ⟨g, 2, none⟩ = some a2 ∧ w.cell? ⟨g, 3, none⟩ = some a3 ∧ w.cell? ⟨g, 4, none⟩ = some a4 ∧ w.cell? ⟨g, 5, none⟩ = some a5 := ⟨h.at (i := 0) rfl, h.at (i := 1) rfl, h.at (i := 2) rfl, h.at (i := 3) rfl, h.at (i := 4) rfl, h.at (i := 5) rfl⟩
theorem Blk.cells7 {w : World} {g : Nat} {a0 a1 a2 a3 a4 a5 a6 : Value} {t : TypeId} (h : Blk w g #[a0, a1, a2, a3, a4, a5, a6] t) : w.cell? ⟨g, 0, none⟩ = some a0 ∧ w.cell? ⟨g, 1, none⟩ = some a1 ∧ w.cell? ⟨g, 2, none⟩ = some a2 ∧ w.cell? ⟨g, 3, none⟩ = some a3 ∧ w.cell? ⟨g, 4, none⟩ = some a4 ∧ w.cell? ⟨g, 5, none⟩ = some a5 ∧ w.cell? ⟨g, 6, none⟩ = some a6 := ⟨h.at (i := 0) rfl, h.at (i := 1) rfl, h.at (i := 2) rfl, h.at (i := 3) rfl, h.at (i := 4) rfl, h.at (i := 5) rfl, h.at (i := 6) rfl⟩

theorem Blk.cells9 {w : World} {g : Nat} {a0 a1 a2 a3 a4 a5 a6 a7 a8 : Value} {t : TypeId} (h : Blk w g #[a0, a1, a2, a3, a4, a5, a6, a7, a8] t) : w.cell? ⟨g, 0, none⟩ = some a0 ∧ w.cell? ⟨g, 1, none⟩ = some a1 ∧ w.cell? ⟨g, 2, none⟩ = some a2 ∧ w.cell? ⟨g, 3, none⟩ = some a3 ∧ w.cell? ⟨g, 4, none⟩ = some a4 ∧ w.cell? ⟨g, 5, none⟩ = some a5 ∧ w.cell? ⟨g, 6, none⟩ = some a6 ∧ w.cell? ⟨g, 7, none⟩ = some a7 ∧ w.cell? ⟨g, 8, none⟩ = some a8 := ⟨h.at (i := 0) rfl, h.at (i := 1) rfl, h.at (i := 2) rfl, h.at (i := 3) rfl, h.at (i := 4) rfl, h.at (i := 5) rfl, h.at (i := 6) rfl, h.at (i := 7) rfl, h.at (i := 8) rfl⟩
theorem Blk.cells10 {w : World} {g : Nat} {a0 a1 a2 a3 a4 a5 a6 a7 a8 a9 : Value} {t : TypeId} (h : Blk w g #[a0, a1, a2, a3, a4, a5, a6, a7, a8, a9] t) : w.cell? ⟨g, 0, none⟩ = some a0 ∧ w.cell? ⟨g, 1, none⟩ = some a1 ∧ w.cell? ⟨g, 2, none⟩ = some a2 ∧ w.cell? ⟨g, 3, none⟩ = some a3 ∧ w.cell? ⟨g, 4, none⟩ = some a4 ∧ w.cell? ⟨g, 5, none⟩ = some a5 ∧ w.cell? ⟨g, 6, none⟩ = some a6 ∧ w.cell? ⟨g, 7, none⟩ = some a7 ∧ w.cell? ⟨g, 8, none⟩ = some a8 ∧ w.cell? ⟨g, 9, none⟩ = some a9 := ⟨h.at (i := 0) rfl, h.at (i := 1) rfl, h.at (i := 2) rfl, h.at (i := 3) rfl, h.at (i := 4) rfl, h.at (i := 5) rfl, h.at (i := 6) rfl, h.at (i := 7) rfl, h.at (i := 8) rfl, h.at (i := 9) rfl⟩
theorem Blk.cells11 {w : World} {g : Nat} {a0 a1 a2 a3 a4 a5 a6 a7 a8 a9 a10 : Value} {t : TypeId} (h : Blk w g #[a0, a1, a2, a3, a4, a5, a6, a7, a8, a9, a10] t) : w.cell? ⟨g, 0, none⟩ = some a0 ∧ w.cell? ⟨g, 1, none⟩ = some a1 ∧ w.cell? ⟨g, 2, none⟩ = some a2 ∧ w.cell? ⟨g, 3, none⟩ = some a3 ∧ w.cell? ⟨g, 4, none⟩ = some a4 ∧ w.cell? ⟨g, 5, none⟩ = some a5 ∧ w.cell? ⟨g, 6, none⟩ = some a6 ∧ w.cell? ⟨g, 7, none⟩ = some a7 ∧ w.cell? ⟨g, 8, none⟩ = some a8 ∧ w.cell? ⟨g, 9, none⟩ = some a9 ∧ w.cell? ⟨g, 10, none⟩ = some a10 := ⟨h.at (i := 0) rfl, h.at (i := 1) rfl, h.at (i := 2) rfl, h.at (i := 3) rfl, h.at (i := 4) rfl, h.at (i := 5) rfl, h.at (i := 6) rfl, h.at (i := 7) rfl, h.at (i := 8) rfl, h.at (i := 9) rfl, h.at (i := 10) rfl⟩
theorem Blk.cells12 {w : World} {g : Nat} {a0 a1 a2 a3 a4 a5 a6 a7 a8 a9 a10 a11 : Value} {t : TypeId} (h : Blk w g #[a0, a1, a2, a3, a4, a5, a6, a7, a8, a9, a10, a11] t) : w.cell? ⟨g, 0, none⟩ = some a0 ∧ w.cell? ⟨g, 1, none⟩ = some a1 ∧ w.cell? ⟨g, 2, none⟩ = some a2 ∧ w.cell? ⟨g, 3, none⟩ = some a3 ∧ w.cell? ⟨g, 4, none⟩ = some a4 ∧ w.cell? ⟨g, 5, none⟩ = some a5 ∧ w.cell? ⟨g, 6, none⟩ = some a6 ∧ w.cell? ⟨g, 7, none⟩ = some a7 ∧ w.cell? ⟨g, 8, none⟩ = some a8 ∧ w.cell? ⟨g, 9, none⟩ = some a9 ∧ w.cell? ⟨g, 10, none⟩ = some a10 ∧ w.cell? ⟨g, 11, none⟩ = some a11 := ⟨h.at (i := 0) rfl, h.at (i := 1) rfl, h.at (i := 2) rfl, h.at (i := 3) rfl, h.at (i := 4) rfl, h.at (i := 5) rfl, h.at (i := 6) rfl, h.at (i := 7) rfl, h.at (i := 8) rfl, h.at (i := 9) rfl, h.at (i := 10) rfl, h.at (i := 11) rfl⟩

end Go.Proofs.Ytmncpcchdhieoaa
