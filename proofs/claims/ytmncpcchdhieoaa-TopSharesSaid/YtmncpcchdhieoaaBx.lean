/- Boxes and rows between the rounds of a range over a function. -/
import Derived.Test.YtmncpcchdhieoaaRnw
import Derived.Test.YtmncpcchdhieoaaOwn
import Derived.OwnWalk
namespace Go.Proofs.Ytmncpcchdhieoaa
open Go.ChangeShapes Go.WideShapes Go.ChangeAt Go.RowKit
set_option linter.unusedVariables false
set_option linter.unusedSimpArgs false

theorem grown_boxed {X Y : World} {row : Option Nat} {B b : Nat} {t : TypeId} {v : Value} (hg : X.grownBy Y row) (hr : ∀ r, row = some r → B ≤ r ∧ ∃ o : Obj, X.heap[r]? = some o ∧ o.isCells = false) (h : Boxed X b t v) : Boxed Y b t v := by
  refine h.kept hg (fun e => ?_)
  obtain ⟨_, o, ho, hc⟩ := hr b e.symm
  rw [show X.heap[b]? = _ from h] at ho
  cases ho
  cases hc
theorem grown_row {X Y : World} {row : Option Nat} {B base size k : Nat} {e : TypeId} {v : Value} {xs : List Value} (hg : X.grownBy Y row) (hr : ∀ r, row = some r → B ≤ r ∧ ∃ o : Obj, X.heap[r]? = some o ∧ o.isCells = false) (h : X.ownsRow base e size v k xs) : Y.ownsRow base e size v k xs := by
  refine h.kept hg ?_
  rcases h.2 with ⟨rfl, _⟩ | ⟨g, cap, cur, rfl, _, hgb, _⟩
  · exact .inl rfl
  · refine .inr fun e' => ?_
    obtain ⟨_, o, ho, hc⟩ := hr g (by simpa [Value.ownBlock] using e'.symm)
    rw [hgb] at ho
    cases ho
    cases hc
theorem grown_below {W X Y : World} {row : Option Nat} {B : Nat} (hg : X.grownBy Y row) (hB : W.heap.size ≤ B) (hr : ∀ r, row = some r → B ≤ r ∧ ∃ o : Obj, X.heap[r]? = some o ∧ o.isCells = false) (h : Below W.heap.size W X) : Below W.heap.size W Y :=
  h.grown hg h.size (fun k e => Nat.le_trans hB (hr k e).1)

theorem info_parts3 {x : Option TypeInfo} {z : Value} {a c : Nat} (h : x.map (fun i => (i.zero, i.size, i.bytes)) = some (some z, a, c)) : ∃ i, x = some i ∧ i.zero = some z ∧ i.size = a ∧ i.bytes = c := by
  cases x with
  | none => cases h
  | some i =>
    simp only [Option.map_some, Option.some.injEq, Prod.mk.injEq] at h
    exact ⟨i, rfl, h.1, h.2.1, h.2.2⟩

end Go.Proofs.Ytmncpcchdhieoaa
