/- A new block that is stored whole at once. -/
import Derived.Test.YtilimmimidikcaaPla
import Derived.Great.Walk
import Derived.Deep.RegionHeld3
import Derived.Deep.MidRow
namespace Go.Proofs.Ytilimmimidikcaa
open Go.ChangeShapes Go.WideShapes Go.ChangeAt Go.RowKit
set_option linter.unusedVariables false

theorem setRow_alloc (w : World) (O C : Array Value) (t : TypeId) : (w.alloc (.cells O t)).setRow w.heap.size C = w.alloc (.cells C t) := by
  have e : (w.heap.push (.cells O t (0, 0))).modify w.heap.size (fun | .cells _ e f => .cells C e f | o => o) = w.heap.push (.cells C t (0, 0)) := by
    apply Array.ext_getElem?
    intro i
    rw [Array.getElem?_modify, Array.getElem?_push, Array.getElem?_push]
    by_cases h : w.heap.size = i
    · subst h
      simp
    · rw [if_neg h, if_neg (fun e => h e.symm), if_neg (fun e => h e.symm)]
  unfold World.setRow
  rw [show (w.alloc (.cells O t)).heap = w.heap.push (.cells O t (0, 0)) from rfl]
  exact congrArg (fun h => { w with heap := h }) e
theorem run_alloc_op {P : Program} {o : Oper} {ev : Operand → Value} {w : World} (t : TypeId) (ho : o.op = .alloc t) (O : Array Value) (hz : ∀ W, Sem.run P (zeroValue t) W = .ok (.agg O) W) :
    (execOp ev o).run P w = .ok (.value (.pointer (some ⟨w.heap.size, 0, none⟩))) (w.alloc (.cells O t)) := by
  unfold execOp
  simp [ho, hz, go_sem]
theorem wpList_load_row_g {P : Program} {ops : Array Oper} {rest : List Oper} {o : Oper} {a : Act} {w : World} {Q : Exit → Act → World → Prop} (hw : Region.wanted o (yielded ops a.tmps) = true) (ty : TypeId) (x : Operand) (ho : o.op = .load ty x)
    (g : Nat) (hx : a.eval x = .pointer (some ⟨g, 0, none⟩)) (t : TypeId) (cs : Array Value) (fr : Nat × Nat) (d : TypeDesc) (hg : w.heap[g]? = some (.cells cs t fr))
    (hu : P.underlying ty = some d) (hd : (match d with | .struct _ | .array _ _ => true | _ => false) = true) (hi : (P.info? ty).map (·.size) = some cs.size)
    (h : wpList P ops Q rest (a.put o.dst (.agg cs)) w) : wpList P ops Q (o :: rest) a w :=
  wpList_step fun _ hK => by rw [if_pos hw]; exact wp_load_row ty x ho g hx t cs fr d hg hu hd hi (hK _ _ h)
theorem wpList_alloc_store {P : Program} {ops : Array Oper} {rest : List Oper} {o o2 : Oper} {a : Act} {w : World} {Q : Exit → Act → World → Prop} (hg : o.guard = none) (hg2 : o2.guard = none) (t : TypeId) (p : Tmp) (y : Operand)
    (ho : o.op = .alloc t) (hd : o.dst = some p) (ho2 : o2.op = .store t (.tmp p) y) (O C : Array Value)
    (hz : ∀ W, Sem.run P (zeroValue t) W = .ok (.agg O) W)
    (hx : (a.put (some p) (.pointer (some ⟨w.heap.size, 0, none⟩))).eval (.tmp p) = .pointer (some ⟨w.heap.size, 0, none⟩))
    (hy : (a.put (some p) (.pointer (some ⟨w.heap.size, 0, none⟩))).eval y = .agg C)
    (hi : (P.info? t).map (·.size) = some C.size) (hO : O.size = C.size) (h1 : C.all (·.oneCell') = true)
    (h : wpList P ops Q rest ((a.put (some p) (.pointer (some ⟨w.heap.size, 0, none⟩))).put o2.dst undef) (w.alloc (.cells C t))) : wpList P ops Q (o :: o2 :: rest) a w := by
  refine Go.Great.wpList_runTo hg (some p) hd _ _ (run_alloc_op t ho O hz) ?_
  refine wpList_store_row hg2 t (.tmp p) y ho2 w.heap.size C hx hy t O (heap_alloc_new w _) hi hO h1 ?_
  rw [setRow_alloc]
  exact h

theorem Blk.range {w : World} {g : Nat} {L : List Value} {t : TypeId} (h : Blk w g L.toArray t) : w.rangeAt g 0 L := by
  intro j v hv
  rw [Nat.zero_add, h.cell, List.getElem?_toArray]
  exact hv
theorem range_keep {w w' : World} {g : Nat} {L : List Value} (h : w.rangeAt g 0 L) (hl : g < w.heap.size) (hb : Below w.heap.size w w') : w'.rangeAt g 0 L :=
  fun j v hv => (hb.cell hl).trans (h j v hv)
theorem lt_keep {w w' : World} {g : Nat} (hl : g < w.heap.size) (hb : Below w.heap.size w w') : g < w'.heap.size := Nat.lt_of_lt_of_le hl hb.size
theorem below_keep {B : Nat} {w0 w w' : World} (hB : B ≤ w0.heap.size) (h : Below B w0 w) (hb : Below w.heap.size w w') : Below B w0 w' := h.trans (hb.mono (Nat.le_trans hB h.size))
theorem low {w0 w w' : World} (h : Below w0.heap.size w0 w) (hb : Below w.heap.size w w') : Below w0.heap.size w0 w' := below_keep (Nat.le_refl _) h hb
theorem lowA {w0 w : World} (h : Below w0.heap.size w0 w) (o : Obj) : Below w0.heap.size w0 (w.alloc o) := h.alloc h.size _
/-- Rows that are there, over a world that has grown since W. -/
def Held (W : World) (gs : List (Nat × List Value)) (w : World) : Prop := (∀ p ∈ gs, w.rangeAt p.1 0 p.2 ∧ p.1 < w.heap.size) ∧ Below W.heap.size W w
theorem Held.keep {W : World} {gs : List (Nat × List Value)} {w w' : World} (h : Held W gs w) (hb : Below w.heap.size w w') : Held W gs w' :=
  ⟨fun p hp => ⟨range_keep (h.1 p hp).1 (h.1 p hp).2 hb, lt_keep (h.1 p hp).2 hb⟩, low h.2 hb⟩
theorem Held.drew {W : World} {gs : List (Nat × List Value)} {w : World} (h : Held W gs w) : Held W gs w.drew :=
  ⟨fun p hp => ⟨(World.rangeAt_drew ..).2 (h.1 p hp).1, (h.1 p hp).2⟩, h.2.drew⟩
theorem Held.at {W : World} {gs : List (Nat × List Value)} {w : World} (h : Held W gs w) {g : Nat} {L : List Value} (hm : (g, L) ∈ gs) : w.rangeAt g 0 L := (h.1 _ hm).1
theorem Held.nil {W w : World} (h : Below W.heap.size W w) : Held W [] w := ⟨(fun _ h => by cases h), h⟩
theorem Held.cons {W w : World} {gs : List (Nat × List Value)} (h : Held W gs w) {g : Nat} {L : List Value} {t : TypeId} (hb : Blk w g L.toArray t) : Held W ((g, L) :: gs) w :=
  ⟨fun p hp => by
    rcases List.mem_cons.1 hp with rfl | hp
    · exact ⟨hb.range, hb.lt⟩
    · exact h.1 p hp, h.2⟩

end Go.Proofs.Ytilimmimidikcaa
