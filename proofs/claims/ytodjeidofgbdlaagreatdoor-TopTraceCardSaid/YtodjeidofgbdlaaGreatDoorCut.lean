/- Words of a list that grows from the left: the plain side; a store into a row of the call's own. -/
import Derived.Test.YtodjeidofgbdlaaGreatDoorPl
import Derived.Test.YtodjeidofgbdlaaGreatDoorOwn
namespace Go.Proofs.YtodjeidofgbdlaaGreatDoor
open Go.ChangeShapes Go.WideShapes Go.ChangeAt Go.RowKit
set_option linter.unusedVariables false
set_option linter.unusedSimpArgs false

/-- Words so far, and those of what follows, the last one joined to the first one. -/
def glue : List (List UInt8) → List (List UInt8) → List (List UInt8)
  | [], cs => cs
  | [x], [] => [x]
  | [x], c :: cs => (x ++ c) :: cs
  | x :: y :: ws, cs => x :: glue (y :: ws) cs
theorem glue_nil : ∀ ws : List (List UInt8), ws ≠ [] → glue ws [[]] = ws
  | [], h => absurd rfl h
  | [x], _ => by simp [glue]
  | x :: y :: ws, _ => by rw [glue, glue_nil (y :: ws) (by simp)]
theorem glue_new : ∀ (ws cs : List (List UInt8)), ws ≠ [] → cs ≠ [] → glue ws ([] :: cs) = glue (ws ++ [[]]) cs
  | [], _, h, _ => absurd rfl h
  | [x], [], _, h => absurd rfl h
  | [x], c :: cs, _, _ => by simp [glue]
  | x :: y :: ws, cs, _, hc => by
    have := glue_new (y :: ws) cs (by simp) hc
    rw [glue, this]
    rfl
theorem glue_more (b : UInt8) : ∀ (ws : List (List UInt8)) (l : List UInt8) (c : List UInt8) (cs : List (List UInt8)), glue (ws ++ [l]) ((b :: c) :: cs) = glue (ws ++ [l ++ [b]]) (c :: cs)
  | [], l, c, cs => by simp [glue]
  | [x], l, c, cs => by simp [glue]
  | x :: y :: ws, l, c, cs => by
    have := glue_more b (y :: ws) l c cs
    simp only [List.cons_append] at this ⊢
    rw [glue, glue, this]
theorem cuts_same {b : UInt8} {l : List UInt8} (h : b = 32) : cutsL 32 (b :: l) = [] :: cutsL 32 l := by rw [cutsL, if_pos h]
theorem cuts_other {b : UInt8} {l : List UInt8} (h : b ≠ 32) : ∃ c cs, cutsL 32 l = c :: cs ∧ cutsL 32 (b :: l) = (b :: c) :: cs := by
  cases hc : cutsL 32 l with
  | nil => exact absurd hc (cutsL_ne 32 l)
  | cons c cs => exact ⟨c, cs, rfl, by rw [cutsL, if_neg h, hc]⟩

/-- A store into a row of the call's own. -/
theorem own_set {w : World} {base : Nat} {e : TypeId} {v : Value} {n : Nat} {xs : List Value} (h : w.ownsRow base e 1 v n xs) {j : Nat} (hj : j < n) :
    ∃ g cap, v = .slice (some ⟨g, 0, none⟩) n cap ∧ base ≤ g ∧ n ≤ cap ∧ w.cell? ⟨g, j, none⟩ = xs[j]? ∧ w.frozen? ⟨g, j, none⟩ = false ∧ ∀ u, (w.setCell ⟨g, j, none⟩ u).ownsRow base e 1 (.slice (some ⟨g, 0, none⟩) n cap) n (xs.set j u) := by
  rcases h.2 with ⟨_, h0⟩ | ⟨g, cap, cur, rfl, hb, hg, hc, hm, hs, ht⟩
  · omega
  · have hB : Blk w g cur e := hg
    refine ⟨g, cap, rfl, hb, hc, ?_, hB.free j, fun u => ⟨by rw [List.length_set]; exact h.1, .inr ⟨g, cap, cur.setIfInBounds j u, rfl, hb, hB.set j u, hc, hm, by rw [Array.size_setIfInBounds]; exact hs, ?_⟩⟩⟩
    · rw [hB.cell j, ← ht, List.getElem?_take, if_pos (by omega)]
      simp
    · rw [Array.toList_setIfInBounds, List.take_set, ht]

end Go.Proofs.YtodjeidofgbdlaaGreatDoor
