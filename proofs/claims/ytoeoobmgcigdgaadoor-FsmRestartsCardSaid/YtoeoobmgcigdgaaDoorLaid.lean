/- A package-level variable of a flat type (arrays and structs of numbers, bools, strings) that is listed with a datum: its cells. Over any program. -/
import Derived.Test.YtoeoobmgcigdgaaDoorOpen
namespace Go.Proofs.YtoeoobmgcigdgaaDoor
open Go.ChangeShapes Go.WideShapes Go.ChangeAt Go.RowKit

section
variable {H : Type} {enc enc' : TypeId × Value → H} {P : Program} {w w' : World} {base base' : Nat} {spare spare' : Nat → Bool} {held held' : Bool}

theorem inj_struct {n : Nat} {cs cs' : List Value}
    (ih : ∀ (fuel fuel' : Nat) (t : TypeId) (cs cs' : List Value) (d : DataW H) (p p' : List MemPlace) (L : List Leaf), DataW.trod enc P w base spare held fuel t cs = some (d, p) → DataW.trod enc' P w' base' spare' held' fuel' t cs' = some (d, p') → leafs P n t = some L → cs = cs') :
    ∀ (fs : List Field) (acc L : List Leaf), (∀ f ∈ fs, ∃ k k' d p p', DataW.trod enc P w base spare held k f.type ((cs.drop f.offset).take (P.cellsOf f.type)) = some (d, p) ∧ DataW.trod enc' P w' base' spare' held' k' f.type ((cs'.drop f.offset).take (P.cellsOf f.type)) = some (d, p')) →
      cs.take acc.length = cs'.take acc.length →
      fs.foldlM (fun acc f => if f.offset = acc.length then (leafs P n f.type).bind fun l => if P.cellsOf f.type = l.length then some (acc ++ l) else none else none) acc = some L →
      cs.take L.length = cs'.take L.length
  | [], acc, L, _, ha, h => by
    simp at h
    subst h
    exact ha
  | f :: fs, acc, L, hf, ha, h => by
    rw [List.foldlM_cons] at h
    by_cases ho : f.offset = acc.length
    · rw [if_pos ho] at h
      cases hl : leafs P n f.type with
      | none => simp [hl] at h
      | some l =>
        rw [hl, Option.bind_some] at h
        by_cases hc : P.cellsOf f.type = l.length
        · rw [if_pos hc] at h
          obtain ⟨k, k', d, p, p', hx, hx'⟩ := hf f (.head _)
          have h1 := ih _ _ _ _ _ _ _ _ _ hx hx' hl
          rw [hc, ho] at h1
          refine inj_struct ih fs (acc ++ l) L (fun g hg => hf g (.tail _ hg)) ?_ h
          rw [List.length_append, take_more, take_more, ha, h1]
        · rw [if_neg hc] at h
          simp at h
    · rw [if_neg ho] at h
      simp at h

theorem inj_array {l : Nat} : ∀ (m : Nat) (cs cs' : List Value), cs.length = m * l → cs'.length = m * l → (∀ i, i < m → (cs.drop (i * l)).take l = (cs'.drop (i * l)).take l) → cs = cs'
  | 0, cs, cs', hl, hl', _ => by
    simp at hl hl'
    rw [hl, hl']
  | m + 1, cs, cs', hl, hl', h => by
    have h0 := h 0 (by omega)
    simp only [Nat.zero_mul, List.drop_zero] at h0
    have h1 : cs.drop l = cs'.drop l := by
      refine inj_array (l := l) m _ _ (by rw [List.length_drop, hl, Nat.succ_mul]; omega) (by rw [List.length_drop, hl', Nat.succ_mul]; omega) fun i hi => ?_
      rw [List.drop_drop, List.drop_drop]
      have h2 := h (i + 1) (by omega)
      rw [Nat.succ_mul, Nat.add_comm] at h2
      exact h2
    rw [← List.take_append_drop l cs, ← List.take_append_drop l cs', h0, h1]

theorem map_fst_get {α β : Type} {xs ys : List (α × β)} (h : xs.map (·.1) = ys.map (·.1)) {i : Nat} (hi : i < xs.length) (hj : i < ys.length) : xs[i].1 = ys[i].1 := by
  have := congrArg (fun l => l[i]?) h
  simp only [List.getElem?_map, List.getElem?_eq_getElem hi, List.getElem?_eq_getElem hj, Option.map_some, Option.some.injEq] at this
  exact this

/-- One datum, of a flat type: one list of cells. -/
theorem trod_inj : ∀ (n fuel fuel' : Nat) (t : TypeId) (cs cs' : List Value) (d : DataW H) (p p' : List MemPlace) (L : List Leaf), DataW.trod enc P w base spare held fuel t cs = some (d, p) → DataW.trod enc' P w' base' spare' held' fuel' t cs' = some (d, p') → leafs P n t = some L → cs = cs'
  | 0, _, _, _, _, _, _, _, _, _, _, _, h => by simp [leafs] at h
  | n + 1, fuel, fuel', t, cs, cs', d, p, p', L, hx, hx', h => by
    unfold leafs at h
    split at h
    · next ht =>
      obtain ⟨b, rfl, e⟩ := DataW.trod_bool ht hx
      obtain ⟨b', rfl, e'⟩ := DataW.trod_bool ht hx'
      simp only [Prod.mk.injEq] at e e'
      have := e.1.symm.trans e'.1
      simp only [DataW.lit.injEq, Lit.bool.injEq] at this
      rw [this]
    · next k ht =>
      obtain ⟨b, rfl, e, _⟩ := DataW.trod_int ht hx
      obtain ⟨b', rfl, e', _⟩ := DataW.trod_int ht hx'
      simp only [Prod.mk.injEq] at e e'
      have := e.1.symm.trans e'.1
      simp only [DataW.lit.injEq, Lit.int.injEq] at this
      rw [this.2]
    · next k ht =>
      cases fuel with
      | zero => simp [DataW.trod] at hx
      | succ m =>
        cases fuel' with
        | zero => simp [DataW.trod] at hx'
        | succ m' =>
          unfold DataW.trod at hx hx'
          rw [ht] at hx hx'
          split at hx <;> simp_all
          split at hx' <;> simp_all
          obtain ⟨⟨rfl, _⟩, rfl, _⟩ := hx
          obtain ⟨⟨rfl, _⟩, h3, _⟩ := hx'
          simp at h3
          simp [h3]
    · next ht =>
      obtain ⟨b, rfl, e, _⟩ := DataW.trod_string ht hx
      obtain ⟨b', rfl, e', _⟩ := DataW.trod_string ht hx'
      simp only [Prod.mk.injEq] at e e'
      have := e.1.symm.trans e'.1
      simp only [DataW.lit.injEq, Lit.string.injEq] at this
      obtain ⟨⟨x⟩⟩ := b
      obtain ⟨⟨y⟩⟩ := b'
      simp at this
      rw [this]
    · next fs ht =>
      obtain ⟨xs, m, rfl, e, hlen, hxs, hf⟩ := DataW.trod_struct ht hx
      obtain ⟨xs', m', rfl, e', hlen', hxs', hf'⟩ := DataW.trod_struct ht hx'
      simp only [Prod.mk.injEq] at e e'
      have he := e.1.symm.trans e'.1
      simp only [DataW.agg.injEq] at he
      obtain ⟨L', hL, h⟩ := Option.bind_eq_some_iff.1 h
      by_cases hc : P.cellsOf t = L'.length
      · rw [if_pos hc] at h
        have h1 := inj_struct (cs := cs) (cs' := cs') (fun fuel fuel' t cs cs' d p p' L => trod_inj n fuel fuel' t cs cs' d p p' L) fs.toList [] L' (fun f hf1 => by
          obtain ⟨i, hi, rfl⟩ := List.getElem_of_mem hf1
          have hi' : i < fs.size := by simpa using hi
          have h2 := hf i fs.toList[i] (by simp)
          have h3 := hf' i fs.toList[i] (by simp)
          rw [List.getElem?_eq_getElem (by omega)] at h2 h3
          have h4 := map_fst_get he (i := i) (by omega) (by omega)
          exact ⟨m, m', xs[i].1, xs[i].2, xs'[i].2, h2, by rw [h3, h4]⟩) rfl hL
        rw [← hc] at h1
        rw [List.take_of_length_le (by omega), List.take_of_length_le (by omega)] at h1
        exact h1
      · rw [if_neg hc] at h
        simp at h
    · next m e ht =>
      obtain ⟨xs, k, rfl, e1, hlen, hxs, hf⟩ := DataW.trod_array ht hx
      obtain ⟨xs', k', rfl, e2, hlen', hxs', hf'⟩ := DataW.trod_array ht hx'
      simp only [Prod.mk.injEq] at e1 e2
      have he := e1.1.symm.trans e2.1
      simp only [DataW.agg.injEq] at he
      obtain ⟨l, hl, h⟩ := Option.bind_eq_some_iff.1 h
      by_cases hc : P.cellsOf e = l.length ∧ P.cellsOf t = m * l.length
      · refine inj_array (l := l.length) m cs cs' (by rw [hlen, hc.2]) (by rw [hlen', hc.2]) fun i hi => ?_
        have h2 := hf i hi
        have h3 := hf' i hi
        rw [List.getElem?_eq_getElem (by omega), hc.1] at h2 h3
        have h4 := map_fst_get he (i := i) (by omega) (by omega)
        have h5 : DataW.trod enc' P w' base' spare' held' k' e ((cs'.drop (i * l.length)).take l.length) = some (xs[i].1, xs'[i].2) := by rw [h3, h4]
        exact trod_inj n _ _ _ _ _ _ _ _ _ h2 h5 hl
      · rw [if_neg hc] at h
        simp at h
    · simp at h
end

/-- The block of a variable whose cells are known. -/
theorem var_block {P : Program} {w : World} {n : String} {g : Nat} {cs : Array Value} (hg : P.globalNamed n = some g) (h : w.var? P n = some cs) : ∃ t fr, w.heap[g]? = some (.cells cs t fr) := by
  simp only [World.var?, hg, Option.bind_some] at h
  split at h
  · next c t fr e =>
    simp at h
    subst h
    exact ⟨t, fr, e⟩
  · simp at h
end Go.Proofs.YtoeoobmgcigdgaaDoor
