/- Rows of bytes, and the numbers that they tell. -/
import Derived.Test.YtihekjoeibljpaaAwk
import Derived.Laws.BitsAllLaws
import Derived.Laws.BitsLemmas
namespace Go.Proofs.Ytihekjoeibljpaa
open Go.ChangeShapes Go.WideShapes Go.ChangeAt Go.RowKit
set_option linter.unusedVariables false
set_option linter.unusedSimpArgs false

/-- What the cells of a row from a place on hold. -/
def RowAt (w : World) (g o : Nat) (xs : List Value) : Prop := g < w.heap.size ∧ ∀ j, j < xs.length → w.cell? ⟨g, o + j, none⟩ = xs[j]?
theorem RowAt.keep {w w' : World} {g o : Nat} {xs : List Value} (h : RowAt w g o xs) (hb : Below w.heap.size w w') : RowAt w' g o xs :=
  ⟨Nat.lt_of_lt_of_le h.1 hb.size, fun j hj => (World.cell?_of_block (a := ⟨g, o + j, none⟩) (hb.block g h.1)).trans (h.2 j hj)⟩
theorem RowAt.at {w : World} {g o : Nat} {xs : List Value} (h : RowAt w g o xs) {j : Nat} {v : Value} (hv : xs[j]? = some v) : w.cell? ⟨g, o + j, none⟩ = some v := by
  have hj : j < xs.length := by
    rcases Nat.lt_or_ge j xs.length with hl | hl
    · exact hl
    · rw [List.getElem?_eq_none hl] at hv; cases hv
  exact (h.2 j hj).trans hv
theorem RowIs.row {w : World} {g : Nat} {xs : List Value} (h : RowIs w g xs) : RowAt w g 0 xs := ⟨h.1, fun j hj => by rw [Nat.zero_add]; exact h.2 j hj⟩
theorem RowAt.drop {w : World} {g o : Nat} {xs : List Value} (h : RowAt w g o xs) (k : Nat) : RowAt w g (o + k) (xs.drop k) :=
  ⟨h.1, fun j hj => by rw [List.length_drop] at hj; rw [Nat.add_assoc, h.2 (k + j) (by omega), List.getElem?_drop]⟩
theorem RowAt.take {w : World} {g o : Nat} {xs : List Value} (h : RowAt w g o xs) (k : Nat) : RowAt w g o (xs.take k) :=
  ⟨h.1, fun j hj => by rw [List.length_take] at hj; rw [h.2 j (by omega), List.getElem?_take_of_lt (by omega)]⟩
theorem conv_at {P : Program} {w : World} {src dst e : TypeId} {g o n cap : Nat} {l : List Int} (hs : P.underlying src = some (.slice e)) (he : P.underlying e = some (.int .u8)) (hd : P.underlying dst = some .string)
    (h : RowAt w g o (l.map (Value.int .u8))) (hl : l.length = n) : (convert src dst (.slice (some ⟨g, o, none⟩) n cap)).run P w = .ok (.string (strOf l)) w := by
  subst hl
  rw [run_convert_bytes_string w src dst e _ _ _ hs he hd]
  refine run_bytesToString w _ _ _ l ?_
  have := run_loadCells_list (P := P) w ⟨g, o, none⟩ (l.map (Value.int .u8)) (fun j v hv => by
    rw [add_spot0]
    exact h.at hv)
  rwa [List.length_map] at this
theorem RowAt.set {w : World} {g o : Nat} {xs : List Value} (h : RowAt w g o xs) {k : Nat} (hk : g ≠ k) (i : Nat) (v : Value) : RowAt (w.setCell ⟨k, i, none⟩ v) g o xs :=
  ⟨by have := h.1; simpa [World.setCell] using this, fun j hj => (World.cell?_of_block (a := ⟨g, o + j, none⟩) (Below.heap_setCell w ⟨k, i, none⟩ v g hk)).trans (h.2 j hj)⟩
theorem or_u32 (x v : Int) (h1 : 0 ≤ x) (h2 : x < 16777216) (h3 : 0 ≤ v) (h4 : v ≤ 255) : bits .or .u32 (x * 256) v = x * 256 + v :=
  bits_join .u32 32 (by decide) (fun n a b => by rw [IntKind.wrap_u32']; omega) 8 (x * 256) v (by omega) (by omega) (by omega) h3 (by omega) (by omega)
theorem or_i64 (x v : Int) (h1 : 0 ≤ x) (h2 : x < 1099511627776) (h3 : 0 ≤ v) (h4 : v ≤ 255) : bits .or .i64 (x * 256) v = x * 256 + v :=
  bits_join .i64 63 (by decide) (fun n a b => IntWalk.i64_in n (by omega)) 8 (x * 256) v (by omega) (by omega) (by omega) h3 (by omega) (by omega)
/-- The number that bytes tell. -/
def numV (l : List Int) : Int := l.foldl (fun n d => n * 256 + d) 0
theorem numV_take (l : List Int) {k : Nat} (hk : k < l.length) : numV (l.take (k + 1)) = numV (l.take k) * 256 + l.getD k 0 := by
  unfold numV
  rw [List.take_add_one, List.getElem?_eq_getElem hk, Option.toList_some, List.foldl_append, List.getD_eq_getElem?_getD, List.getElem?_eq_getElem hk]
  rfl
theorem numV_bound (l : List Int) (h : ∀ z ∈ l, 0 ≤ z ∧ z ≤ 255) : ∀ k, k ≤ l.length → 0 ≤ numV (l.take k) ∧ numV (l.take k) < 256 ^ k := by
  intro k
  induction k with
  | zero => intro _; simp [numV]
  | succ k ih =>
    intro hk
    have h1 := ih (by omega)
    rw [numV_take l (by omega)]
    have h2 : 0 ≤ l.getD k 0 ∧ l.getD k 0 ≤ 255 := by
      rw [List.getD_eq_getElem?_getD, List.getElem?_eq_getElem (by omega)]
      exact h _ (List.getElem_mem _)
    have e : (256 : Int) ^ (k + 1) = 256 ^ k * 256 := by rw [Int.pow_succ]
    rw [e]
    omega
theorem u8_range (xs : List Int) (h : ∀ z ∈ xs, 0 ≤ z ∧ z ≤ 255) (k : Nat) : 0 ≤ xs.getD k 0 ∧ xs.getD k 0 ≤ 255 := by
  rcases Nat.lt_or_ge k xs.length with hl | hl
  · rw [List.getD_eq_getElem?_getD, List.getElem?_eq_getElem hl]
    exact h _ (List.getElem_mem _)
  · rw [List.getD_eq_getElem?_getD, List.getElem?_eq_none hl]
    simp

end Go.Proofs.Ytihekjoeibljpaa
