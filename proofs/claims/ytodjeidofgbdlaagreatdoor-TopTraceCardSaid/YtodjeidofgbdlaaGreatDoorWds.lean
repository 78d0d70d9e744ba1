/- The words of a line, by the reference. -/
import Derived.Test.YtodjeidofgbdlaaGreatDoorVal
import Derived.Test.YtodjeidofgbdlaaGreatDoorCut
namespace Go.Proofs.YtodjeidofgbdlaaGreatDoor
open Go.ChangeShapes Go.WideShapes Go.ChangeAt Go.RowKit
set_option linter.unusedVariables false
set_option linter.unusedSimpArgs false

theorem Tryz.info9 : (Tryz.prog.info? 9).map (fun i => (i.zero, i.size, i.bytes)) = some (some (.string { data := #[] }), 1, 16) := by kernel_rfl
theorem info_parts3 {x : Option TypeInfo} {z : Value} {a c : Nat} (h : x.map (fun i => (i.zero, i.size, i.bytes)) = some (some z, a, c)) : ∃ i, x = some i ∧ i.zero = some z ∧ i.size = a ∧ i.bytes = c := by
  cases x with
  | none => cases h
  | some i =>
    simp only [Option.map_some, Option.some.injEq, Prod.mk.injEq] at h
    exact ⟨i, rfl, h.1, h.2.1, h.2.2⟩
theorem set_last {α : Type} {ws : List α} {y : α} (h : ws[ws.length - 1]? = some y) : ∃ init, ws = init ++ [y] ∧ ∀ z, ws.set (ws.length - 1) z = init ++ [z] := by
  rcases List.eq_nil_or_concat ws with rfl | ⟨init, x, rfl⟩
  · simp at h
  · simp only [List.concat_eq_append] at h ⊢
    rw [List.length_append, List.length_singleton, Nat.add_sub_cancel] at h ⊢
    have hx : x = y := by simpa using h
    subst hx
    exact ⟨init, rfl, fun z => by simp⟩
theorem ext_one {s : ByteArray} {k : Nat} (h : k < s.size) : (s.extract k (k + 1)).data.toList = [s[k]] := by
  have hl : k < s.data.toList.length := by rw [Array.length_toList]; exact h
  rw [Lib.extract_data]
  have e : k + 1 - k = 1 := by omega
  simp only [e]
  rw [List.drop_eq_getElem_cons hl]
  rfl
theorem below_set {B : Nat} {a w : World} (h : Below B a w) {g i : Nat} (hp : B ≤ g) (u : Value) : Below B a (w.setCell ⟨g, i, none⟩ u) := h.setCell hp u
def strs (ws : List ByteArray) : List Value := ws.map Value.string
end Go.Proofs.YtodjeidofgbdlaaGreatDoor
