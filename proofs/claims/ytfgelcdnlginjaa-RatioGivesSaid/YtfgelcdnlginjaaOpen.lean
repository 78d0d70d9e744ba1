/- How an argument that is a struct or an array of numbers, bools, strings and floats, or a slice of such, reads, cell by cell: over any program. -/
import Derived.WalkKit
import Derived.ProofKit
import Derived.OpenShut
namespace Go.Proofs.Ytfgelcdnlginjaa
open Go.ChangeShapes Go.WideShapes Go.ChangeAt Go.RowKit

/-- What one cell may hold. -/
inductive Leaf where
  | bool
  | int (k : IntKind)
  | float (k : FloatKind)
  | str

def Leaf.fits : Leaf → Value → Prop
  | .bool, v => ∃ b, v = .bool b
  | .int k, v => ∃ n, v = .int k n ∧ (Lit.int k n).wf = true
  | .float k, v => ∃ b, v = .float k b ∧ (Lit.float k b).wf = true
  | .str, v => ∃ s : ByteArray, v = .string s ∧ s.size ≤ maxLen

def FitsAll : List Leaf → List Value → Prop
  | [], cs => cs = []
  | l :: ls, cs => ∃ c r, cs = c :: r ∧ l.fits c ∧ FitsAll ls r

theorem FitsAll.length : ∀ {L : List Leaf} {cs : List Value}, FitsAll L cs → cs.length = L.length
  | [], cs, h => by simp [FitsAll] at h; simp [h]
  | l :: ls, cs, h => by
    obtain ⟨c, r, rfl, _, h⟩ := h
    simp [h.length]

theorem FitsAll.append : ∀ {L M : List Leaf} {cs ds : List Value}, FitsAll L cs → FitsAll M ds → FitsAll (L ++ M) (cs ++ ds)
  | [], M, cs, ds, h, k => by simp [FitsAll] at h; subst h; simpa using k
  | l :: ls, M, cs, ds, h, k => by
    obtain ⟨c, r, rfl, hc, h⟩ := h
    exact ⟨c, r ++ ds, rfl, hc, h.append k⟩

/-- The cells of a type, if it has numbers, bools, strings and floats alone. -/
def leafs (P : Program) : Nat → TypeId → Option (List Leaf)
  | 0, _ => none
  | n + 1, t =>
    match P.underlying t with
    | some .bool => some [.bool]
    | some (.int k) => some [.int k]
    | some (.float k) => some [.float k]
    | some .string => some [.str]
    | some (.struct fs) => fs.toList.foldlM (fun acc f => if f.offset = acc.length then (leafs P n f.type).bind fun l => if P.cellsOf f.type = l.length then some (acc ++ l) else none else none) [] >>= fun L => if P.cellsOf t = L.length then some L else none
    | some (.array m e) => (leafs P n e).bind fun l => if P.cellsOf e = l.length ∧ P.cellsOf t = m * l.length then some (List.replicate m l).flatten else none
    | _ => none

section
variable {H : Type} {enc : TypeId × Value → H} {P : Program} {w : World} {base : Nat} {spare : Nat → Bool} {held : Bool}

theorem trod_float_cell {t : TypeId} {k : FloatKind} {fuel : Nat} {cs : List Value} {x : DataW H × List MemPlace} (ht : P.underlying t = some (.float k)) (h : DataW.trod enc P w base spare held fuel t cs = some x) :
    ∃ b, cs = [.float k b] ∧ (Lit.float k b).wf = true := by
  cases fuel with
  | zero => simp [DataW.trod] at h
  | succ n =>
    unfold DataW.trod at h
    rw [ht] at h
    split at h <;> simp_all

theorem take_more {α : Type} (cs : List α) (a b : Nat) : cs.take (a + b) = cs.take a ++ (cs.drop a).take b := by
  rw [List.take_add]

theorem fits_struct {n fuel : Nat} {cs : List Value}
    (ih : ∀ (fuel : Nat) (t : TypeId) (cs : List Value) (x : DataW H × List MemPlace) (L : List Leaf), DataW.trod enc P w base spare held fuel t cs = some x → leafs P n t = some L → FitsAll L cs) :
    ∀ (fs : List Field) (acc L : List Leaf), (∀ f ∈ fs, ∃ x, DataW.trod enc P w base spare held fuel f.type ((cs.drop f.offset).take (P.cellsOf f.type)) = some x) →
      FitsAll acc (cs.take acc.length) →
      fs.foldlM (fun acc f => if f.offset = acc.length then (leafs P n f.type).bind fun l => if P.cellsOf f.type = l.length then some (acc ++ l) else none else none) acc = some L →
      FitsAll L (cs.take L.length)
  | [], acc, L, _, ha, h => by
    simp at h
    subst h
    exact ha
  | f :: fs, acc, L, hf, ha, h => by
    rw [List.foldlM_cons] at h
    by_cases ho : f.offset = acc.length
    · rw [if_pos ho] at h
      cases hl : leafs P n f.type with
      | none => simp [hl] at h
      | some l =>
        rw [hl, Option.bind_some] at h
        by_cases hc : P.cellsOf f.type = l.length
        · rw [if_pos hc] at h
          obtain ⟨x, hx⟩ := hf f (.head _)
          have h1 := ih _ _ _ _ _ hx hl
          rw [hc, ho] at h1
          have h2 := ha.append h1
          rw [← take_more] at h2
          refine fits_struct ih fs (acc ++ l) L (fun g hg => hf g (.tail _ hg)) ?_ h
          rw [List.length_append]
          exact h2
        · rw [if_neg hc] at h
          simp at h
    · rw [if_neg ho] at h
      simp at h

theorem fits_array {l : List Leaf} : ∀ (m : Nat) (cs : List Value), cs.length = m * l.length → (∀ i, i < m → FitsAll l ((cs.drop (i * l.length)).take l.length)) → FitsAll (List.replicate m l).flatten cs
  | 0, cs, hl, _ => by
    simp at hl
    subst hl
    simp [FitsAll]
  | m + 1, cs, hl, h => by
    rw [List.replicate_succ, List.flatten_cons]
    have h0 := h 0 (by omega)
    simp only [Nat.zero_mul, List.drop_zero] at h0
    have h1 : FitsAll (List.replicate m l).flatten (cs.drop l.length) := by
      refine fits_array m _ (by rw [List.length_drop, hl, Nat.succ_mul]; omega) fun i hi => ?_
      rw [List.drop_drop]
      have h2 := h (i + 1) (by omega)
      rw [Nat.succ_mul, Nat.add_comm] at h2
      exact h2
    have h2 := h0.append h1
    rw [List.take_append_drop] at h2
    exact h2

/-- A reading shows each cell. -/
theorem fits_of_trod : ∀ (n fuel : Nat) (t : TypeId) (cs : List Value) (x : DataW H × List MemPlace) (L : List Leaf), DataW.trod enc P w base spare held fuel t cs = some x → leafs P n t = some L → FitsAll L cs
  | 0, _, _, _, _, _, _, h => by simp [leafs] at h
  | n + 1, fuel, t, cs, x, L, hx, h => by
    unfold leafs at h
    split at h
    · next ht =>
      obtain ⟨b, rfl, _⟩ := DataW.trod_bool ht hx
      simp at h
      subst h
      exact ⟨_, _, rfl, ⟨b, rfl⟩, rfl⟩
    · next k ht =>
      obtain ⟨b, rfl, _, hw⟩ := DataW.trod_int ht hx
      simp at h
      subst h
      exact ⟨_, _, rfl, ⟨b, rfl, hw⟩, rfl⟩
    · next k ht =>
      obtain ⟨b, rfl, hw⟩ := trod_float_cell ht hx
      simp at h
      subst h
      exact ⟨_, _, rfl, ⟨b, rfl, hw⟩, rfl⟩
    · next ht =>
      obtain ⟨b, rfl, _, hw⟩ := DataW.trod_string ht hx
      simp at h
      subst h
      exact ⟨_, _, rfl, ⟨b, rfl, hw⟩, rfl⟩
    · next fs ht =>
      obtain ⟨xs, m, rfl, rfl, hlen, hxs, hf⟩ := DataW.trod_struct ht hx
      obtain ⟨L', hL, h⟩ := Option.bind_eq_some_iff.1 h
      by_cases hc : P.cellsOf t = L'.length
      · rw [if_pos hc] at h
        simp only [Option.some.injEq] at h
        subst h
        have h1 := fits_struct (cs := cs) (fun fuel t cs x L => fits_of_trod n fuel t cs x L) fs.toList [] L' (fun f hf' => by
          obtain ⟨i, hi, rfl⟩ := List.getElem_of_mem hf'
          have h2 := hf i fs.toList[i] (by simp)
          rw [List.getElem?_eq_getElem (by simp at hi; omega)] at h2
          exact ⟨_, h2⟩) (by simp [FitsAll]) hL
        rw [← hc, ← hlen, List.take_length] at h1
        exact h1
      · rw [if_neg hc] at h
        simp at h
    · next m e ht =>
      obtain ⟨xs, m', rfl, rfl, hlen, hxs, hf⟩ := DataW.trod_array ht hx
      obtain ⟨l, hl, h⟩ := Option.bind_eq_some_iff.1 h
      by_cases hc : P.cellsOf e = l.length ∧ P.cellsOf t = m * l.length
      · rw [if_pos hc] at h
        simp only [Option.some.injEq] at h
        subst h
        refine fits_array m cs (by rw [hlen, hc.2]) fun i hi => ?_
        have h2 := hf i hi
        rw [List.getElem?_eq_getElem (by omega), hc.1] at h2
        exact fits_of_trod n _ _ _ _ _ h2 hl
      · rw [if_neg hc] at h
        simp at h
    · simp at h

/-- An argument that is a struct or an array, opened. -/
theorem open_flat {n : Nat} {r : Reach} {b0 : Nat} {t : TypeId} {v : Value} {d : DataW H} {ps : List MemPlace} {L : List Leaf} (hu : (∃ fs, P.underlying t = some (.struct fs)) ∨ ∃ m e, P.underlying t = some (.array m e)) (hL : leafs P n t = some L)
    (hval : Value.okWide P w r b0 t v) (hd : DataW.Trod enc P w base spare held t v d ps) : ∃ cs, v = .agg cs.toArray ∧ FitsAll L cs := by
  obtain ⟨fuel, hf⟩ := hd
  rcases hu with ⟨fs, hu⟩ | ⟨m, e, hu⟩
  · simp only [Value.okWide, hu] at hval
    obtain ⟨cs, rfl, _⟩ := hval
    exact ⟨cs.toList, rfl, fits_of_trod n _ _ _ _ _ hf hL⟩
  · simp only [Value.okWide, hu] at hval
    obtain ⟨cs, rfl, _⟩ := hval
    exact ⟨cs.toList, rfl, fits_of_trod n _ _ _ _ _ hf hL⟩

/-- A cell of one number, bool, string or float, opened. -/
theorem open_leaf {n : Nat} {t : TypeId} {v : Value} {d : DataW H} {ps : List MemPlace} {l : Leaf} (hL : leafs P n t = some [l])
    (hv : v.cells.toList = [v]) (hd : DataW.Trod enc P w base spare held t v d ps) : l.fits v := by
  obtain ⟨fuel, hf⟩ := hd
  rw [hv] at hf
  obtain ⟨c, r, h, hc, _⟩ := fits_of_trod n _ _ _ _ _ hf hL
  simp at h
  rw [h.1]
  exact hc
end
end Go.Proofs.Ytfgelcdnlginjaa
