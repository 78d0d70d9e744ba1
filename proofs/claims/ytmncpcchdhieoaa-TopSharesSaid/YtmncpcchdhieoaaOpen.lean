/- How an argument that is a struct or an array of numbers, bools, strings and floats, or a slice of such, reads, cell by cell: over any program. -/
import Derived.WalkKit
import Derived.ProofKit
import Derived.OpenShut
import Derived.Deep.Slices
import Derived.SizedLaws
namespace Go.Proofs.Ytmncpcchdhieoaa
open Go.ChangeShapes Go.WideShapes Go.ChangeAt Go.RowKit

/-- What one cell may hold. -/
inductive Leaf where
  | bool
  | int (k : IntKind)
  | float (k : FloatKind)
  | str

def Leaf.fits : Leaf → Value → Prop
  | .bool, v => ∃ b, v = .bool b
  | .int k, v => ∃ n, v = .int k n ∧ (Lit.int k n).wf = true
  | .float k, v => ∃ b, v = .float k b ∧ (Lit.float k b).wf = true
  | .str, v => ∃ s : ByteArray, v = .string s ∧ s.size ≤ maxLen

def FitsAll : List Leaf → List Value → Prop
  | [], cs => cs = []
  | l :: ls, cs => ∃ c r, cs = c :: r ∧ l.fits c ∧ FitsAll ls r

theorem FitsAll.length : ∀ {L : List Leaf} {cs : List Value}, FitsAll L cs → cs.length = L.length
  | [], cs, h => by simp [FitsAll] at h; simp [h]
  | l :: ls, cs, h => by
    obtain ⟨c, r, rfl, _, h⟩ := h
    simp [h.length]

theorem FitsAll.append : ∀ {L M : List Leaf} {cs ds : List Value}, FitsAll L cs → FitsAll M ds → FitsAll (L ++ M) (cs ++ ds)
  | [], M, cs, ds, h, k => by simp [FitsAll] at h; subst h; simpa using k
  | l :: ls, M, cs, ds, h, k => by
    obtain ⟨c, r, rfl, hc, h⟩ := h
    exact ⟨c, r ++ ds, rfl, hc, h.append k⟩

/-- The cells of a type, if it has numbers, bools, strings and floats alone. -/
def leafs (P : Program) : Nat → TypeId → Option (List Leaf)
  | 0, _ => none
  | n + 1, t =>
    match P.underlying t with
    | some .bool => some [.bool]
    | some (.int k) => some [.int k]
    | some (.float k) => some [.float k]
    | some .string => some [.str]
    | some (.struct fs) => fs.toList.foldlM (fun acc f => if f.offset = acc.length then (leafs P n f.type).bind fun l => if P.cellsOf f.type = l.length then some (acc ++ l) else none else none) [] >>= fun L => if P.cellsOf t = L.length then some L else none
    | some (.array m e) => (leafs P n e).bind fun l => if P.cellsOf e = l.length ∧ P.cellsOf t = m * l.length then some (List.replicate m l).flatten else none
    | _ => none

section
variable {H : Type} {enc : TypeId × Value → H} {P : Program} {w : World} {base : Nat} {spare : Nat → Bool} {held : Bool}

theorem trod_float_cell {t : TypeId} {k : FloatKind} {fuel : Nat} {cs : List Value} {x : DataW H × List MemPlace} (ht : P.underlying t = some (.float k)) (h : DataW.trod enc P w base spare held fuel t cs = some x) :
    ∃ b, cs = [.float k b] ∧ (Lit.float k b).wf = true := by
  cases fuel with
  | zero => simp [DataW.trod] at h
  | succ n =>
    unfold DataW.trod at h
    rw [ht] at h
    split at h <;> simp_all

theorem take_more {α : Type} (cs : List α) (a b : Nat) : cs.take (a + b) = cs.take a ++ (cs.drop a).take b := by
  rw [List.take_add]

theorem fits_struct {n fuel : Nat} {cs : List Value}
    (ih : ∀ (fuel : Nat) (t : TypeId) (cs : List Value) (x : DataW H × List MemPlace) (L : List Leaf), DataW.trod enc P w base spare held fuel t cs = some x → leafs P n t = some L → FitsAll L cs) :
    ∀ (fs : List Field) (acc L : List Leaf), (∀ f ∈ fs, ∃ x, DataW.trod enc P w base spare held fuel f.type ((cs.drop f.offset).take (P.cellsOf f.type)) = some x) →
      FitsAll acc (cs.take acc.length) →
      fs.foldlM (fun acc f => if f.offset = acc.length then (leafs P n f.type).bind fun l => if P.cellsOf f.type = l.length then some (acc ++ l) else none else none) acc = some L →
      FitsAll L (cs.take L.length)
  | [], acc, L, _, ha, h => by
    simp at h
    subst h
    exact ha
  | f :: fs, acc, L, hf, ha, h => by
    rw [List.foldlM_cons] at h
    by_cases ho : f.offset = acc.length
    · rw [if_pos ho] at h
      cases hl : leafs P n f.type with
      | none => simp [hl] at h
      | some l =>
        rw [hl, Option.bind_some] at h
        by_cases hc : P.cellsOf f.type = l.length
        · rw [if_pos hc] at h
          obtain ⟨x, hx⟩ := hf f (.head _)
          have h1 := ih _ _ _ _ _ hx hl
          rw [hc, ho] at h1
          have h2 := ha.append h1
          rw [← take_more] at h2
          refine fits_struct ih fs (acc ++ l) L (fun g hg => hf g (.tail _ hg)) ?_ h
          rw [List.length_append]
          exact h2
        · rw [if_neg hc] at h
          simp at h
    · rw [if_neg ho] at h
      simp at h

theorem fits_array {l : List Leaf} : ∀ (m : Nat) (cs : List Value), cs.length = m * l.length → (∀ i, i < m → FitsAll l ((cs.drop (i * l.length)).take l.length)) → FitsAll (List.replicate m l).flatten cs
  | 0, cs, hl, _ => by
    simp at hl
    subst hl
    simp [FitsAll]
  | m + 1, cs, hl, h => by
    rw [List.replicate_succ, List.flatten_cons]
    have h0 := h 0 (by omega)
    simp only [Nat.zero_mul, List.drop_zero] at h0
    have h1 : FitsAll (List.replicate m l).flatten (cs.drop l.length) := by
      refine fits_array m _ (by rw [List.length_drop, hl, Nat.succ_mul]; omega) fun i hi => ?_
      rw [List.drop_drop]
      have h2 := h (i + 1) (by omega)
      rw [Nat.succ_mul, Nat.add_comm] at h2
      exact h2
    have h2 := h0.append h1
    rw [List.take_append_drop] at h2
    exact h2

/-- A reading shows each cell. -/
theorem fits_of_trod : ∀ (n fuel : Nat) (t : TypeId) (cs : List Value) (x : DataW H × List MemPlace) (L : List Leaf), DataW.trod enc P w base spare held fuel t cs = some x → leafs P n t = some L → FitsAll L cs
  | 0, _, _, _, _, _, _, h => by simp [leafs] at h
  | n + 1, fuel, t, cs, x, L, hx, h => by
    unfold leafs at h
    split at h
    · next ht =>
      obtain ⟨b, rfl, _⟩ := DataW.trod_bool ht hx
      simp at h
      subst h
      exact ⟨_, _, rfl, ⟨b, rfl⟩, rfl⟩
    · next k ht =>
      obtain ⟨b, rfl, _, hw⟩ := DataW.trod_int ht hx
      simp at h
      subst h
      exact ⟨_, _, rfl, ⟨b, rfl, hw⟩, rfl⟩
    · next k ht =>
      obtain ⟨b, rfl, hw⟩ := trod_float_cell ht hx
      simp at h
      subst h
      exact ⟨_, _, rfl, ⟨b, rfl, hw⟩, rfl⟩
    · next ht =>
      obtain ⟨b, rfl, _, hw⟩ := DataW.trod_string ht hx
      simp at h
      subst h
      exact ⟨_, _, rfl, ⟨b, rfl, hw⟩, rfl⟩
    · next fs ht =>
      obtain ⟨xs, m, rfl, rfl, hlen, hxs, hf⟩ := DataW.trod_struct ht hx
      obtain ⟨L', hL, h⟩ := Option.bind_eq_some_iff.1 h
      by_cases hc : P.cellsOf t = L'.length
      · rw [if_pos hc] at h
        simp only [Option.some.injEq] at h
        subst h
        have h1 := fits_struct (cs := cs) (fun fuel t cs x L => fits_of_trod n fuel t cs x L) fs.toList [] L' (fun f hf' => by
          obtain ⟨i, hi, rfl⟩ := List.getElem_of_mem hf'
          have h2 := hf i fs.toList[i] (by simp)
          rw [List.getElem?_eq_getElem (by simp at hi; omega)] at h2
          exact ⟨_, h2⟩) (by simp [FitsAll]) hL
        rw [← hc, ← hlen, List.take_length] at h1
        exact h1
      · rw [if_neg hc] at h
        simp at h
    · next m e ht =>
      obtain ⟨xs, m', rfl, rfl, hlen, hxs, hf⟩ := DataW.trod_array ht hx
      obtain ⟨l, hl, h⟩ := Option.bind_eq_some_iff.1 h
      by_cases hc : P.cellsOf e = l.length ∧ P.cellsOf t = m * l.length
      · rw [if_pos hc] at h
        simp only [Option.some.injEq] at h
        subst h
        refine fits_array m cs (by rw [hlen, hc.2]) fun i hi => ?_
        have h2 := hf i hi
        rw [List.getElem?_eq_getElem (by omega), hc.1] at h2
        exact fits_of_trod n _ _ _ _ _ h2 hl
      · rw [if_neg hc] at h
        simp at h
    · simp at h

/-- An argument that is a struct or an array, opened. -/
theorem open_flat {n : Nat} {r : Reach} {b0 : Nat} {t : TypeId} {v : Value} {d : DataW H} {ps : List MemPlace} {L : List Leaf} (hu : (∃ fs, P.underlying t = some (.struct fs)) ∨ ∃ m e, P.underlying t = some (.array m e)) (hL : leafs P n t = some L)
    (hval : Value.okWide P w r b0 t v) (hd : DataW.Trod enc P w base spare held t v d ps) : ∃ cs, v = .agg cs.toArray ∧ FitsAll L cs := by
  obtain ⟨fuel, hf⟩ := hd
  rcases hu with ⟨fs, hu⟩ | ⟨m, e, hu⟩
  · simp only [Value.okWide, hu] at hval
    obtain ⟨cs, rfl, _⟩ := hval
    exact ⟨cs.toList, rfl, fits_of_trod n _ _ _ _ _ hf hL⟩
  · simp only [Value.okWide, hu] at hval
    obtain ⟨cs, rfl, _⟩ := hval
    exact ⟨cs.toList, rfl, fits_of_trod n _ _ _ _ _ hf hL⟩

/-- A cell of one number, bool, string or float, opened. -/
theorem open_leaf {n : Nat} {t : TypeId} {v : Value} {d : DataW H} {ps : List MemPlace} {l : Leaf} (hL : leafs P n t = some [l])
    (hv : v.cells.toList = [v]) (hd : DataW.Trod enc P w base spare held t v d ps) : l.fits v := by
  obtain ⟨fuel, hf⟩ := hd
  rw [hv] at hf
  obtain ⟨c, r, h, hc, _⟩ := fits_of_trod n _ _ _ _ _ hf hL
  simp at h
  rw [h.1]
  exact hc

/-- A slice of flat elements: what its elements' cells hold. -/
def SliceIn (W : World) (L : List Leaf) (a : Option Addr) (n c : Nat) (xs : List (List Value)) : Prop :=
  xs.length = n ∧ (∀ cs ∈ xs, FitsAll L cs) ∧ n ≤ c ∧ c ≤ maxLen ∧ (a = none → n = 0 ∧ c = 0) ∧
    (0 < n → ∃ b o, a = some ⟨b, o, none⟩ ∧ b < W.heap.size ∧ ∀ i j, i < n → j < L.length → W.cell? ⟨b, o + (i * L.length + j), none⟩ = some ((xs.getD i []).getD j undef))

theorem mapM_range_get {α : Type} {f : Nat → Option α} {n : Nat} {r : List α} (h : (List.range n).mapM f = some r) : r.length = n ∧ ∀ i (hi : i < r.length), f i = some r[i] := by
  have h1 := mapM_some_length h
  rw [List.length_range] at h1
  refine ⟨h1, fun i hi => ?_⟩
  have h2 := mapM_some_get h i i (by rw [List.getElem?_range (by omega)])
  rw [h2, List.getElem?_eq_getElem hi]

theorem add_spot {x : Addr} {k : Nat} : x.spot = none → x.add k = ⟨x.block, x.off + k, none⟩ := by
  intro h
  obtain ⟨b, o, s⟩ := x
  simp only at h
  subst h
  unfold Addr.add
  split
  · next e => subst e; rfl
  · rfl

theorem cell_spot {w : World} {x : Addr} {v : Value} (h : w.cell? x = some v) : x.spot = none ∧ x.block < w.heap.size := by
  unfold World.cell? at h
  split at h
  · next e =>
    split at h
    · cases h
    · next hs =>
      refine ⟨by simpa using hs, ?_⟩
      rcases Nat.lt_or_ge x.block w.heap.size with hl | hl
      · exact hl
      · rw [Array.getElem?_eq_none hl] at e; cases e
  · cases h

theorem open_slice_in {k : Nat} {t e : TypeId} {L : List Leaf} {a : Option Addr} {n c : Nat} {d : DataW H} {ps : List MemPlace} (hu : P.underlying t = some (.slice e)) (hL : leafs P k e = some L) (hL0 : 0 < L.length)
    (h : DataW.Trod enc P w base spare held t (.slice a n c) d ps) : ∃ xs, SliceIn w L a n c xs := by
  obtain ⟨fuel, hf⟩ := h
  rcases Go.Deep.open_slice hu hf with ⟨hcs, _⟩ | ⟨x, len, cap, m, f, D, Pl, hcs, _, hl, hm, hmm, _, hel⟩
  · simp [Value.cells] at hcs
    obtain ⟨rfl, rfl, rfl⟩ := hcs
    exact ⟨[], rfl, (fun _ h => by cases h), Nat.le_refl _, Nat.zero_le _, (fun _ => ⟨rfl, rfl⟩), (fun h => by omega)⟩
  · simp [Value.cells] at hcs
    obtain ⟨rfl, rfl, rfl⟩ := hcs
    have hnm : n ≤ m := by rw [hmm]; split <;> omega
    have hc : ∀ i, i < n → ∃ cs', w.cells? base (x.add (i * P.cellsOf e)) (P.cellsOf e) = some cs' ∧ FitsAll L cs' := by
      intro i hi
      obtain ⟨cs', h1, h2⟩ := hel i (by omega)
      exact ⟨cs', h1, fits_of_trod k _ _ _ _ _ h2 hL⟩
    let g : Nat → List Value := fun i => (w.cells? base (x.add (i * P.cellsOf e)) (P.cellsOf e)).getD []
    have hg : ∀ i, i < n → w.cells? base (x.add (i * P.cellsOf e)) (P.cellsOf e) = some (g i) ∧ FitsAll L (g i) := by
      intro i hi
      obtain ⟨cs', h1, h2⟩ := hc i hi
      have : g i = cs' := by show Option.getD _ _ = _; rw [h1]; rfl
      rw [this]
      exact ⟨h1, h2⟩
    have hcell : ∀ i, i < n → P.cellsOf e = L.length ∧ ∀ j, j < L.length → w.cell? ((x.add (i * P.cellsOf e)).add j) = some ((g i).getD j undef) := by
      intro i hi
      obtain ⟨h1, h2⟩ := hg i hi
      unfold World.cells? at h1
      split at h1
      · obtain ⟨h3, h4⟩ := mapM_range_get h1
        have h5 := h2.length
        refine ⟨by omega, fun j hj => ?_⟩
        rw [h4 j (by omega), List.getD_eq_getElem?_getD, List.getElem?_eq_getElem (by omega)]
        rfl
      · cases h1
    refine ⟨(List.range n).map g, by simp, ?_, hl, hm, (fun h => by cases h), (fun h0 => ?_)⟩
    · intro cs hcs
      simp only [List.mem_map, List.mem_range] at hcs
      obtain ⟨i, hi, rfl⟩ := hcs
      exact (hg i hi).2
    · obtain ⟨e0, e1⟩ := hcell 0 h0
      have e2 := e1 0 hL0
      rw [Nat.zero_mul] at e2
      have e3 : (x.add 0).add 0 = x := by simp [Addr.add]
      rw [e3] at e2
      obtain ⟨hs, hb⟩ := cell_spot e2
      refine ⟨x.block, x.off, ?_, hb, fun i j hi hj => ?_⟩
      · obtain ⟨b, o, s⟩ := x
        simp only at hs
        subst hs
        rfl
      · have e4 := (hcell i hi).2 j hj
        rw [add_spot hs, add_spot rfl, e0] at e4
        simp only at e4
        rw [Nat.add_assoc] at e4
        have e5 : ((List.range n).map g).getD i [] = g i := by simp [hi]
        rw [e4, e5]

/-- A slice is no longer than the row's own bound. -/
theorem sized_in {t e : TypeId} {a : Option Addr} {n c : Nat} {d : DataW H} {ps : List MemPlace} {ts : List TypeId} {ds : List (DataW H)} {j B : Nat}
    (hsz : (DataW.weightsEach P ts ds).all (· ≤ reachBytes) = true) (ht : ts[j]? = some t) (hd : ds[j]? = some d) (hu : P.underlying t = some (.slice e)) (hB : P.bytesOf e = B)
    (h : DataW.Trod enc P w base spare held t (.slice a n c) d ps) : n * B ≤ 140737488351232 := by
  obtain ⟨fuel, hf⟩ := h
  rcases Go.Deep.open_slice hu hf with ⟨hcs, _⟩ | ⟨x, len, cap, m, f, D, Pl, hcs, _, hl, hm, hmm, hx, hel⟩
  · simp [Value.cells] at hcs
    obtain ⟨rfl, rfl, rfl⟩ := hcs
    omega
  · simp [Value.cells] at hcs
    obtain ⟨rfl, rfl, rfl⟩ := hcs
    obtain ⟨hx, _⟩ := Prod.mk.inj hx
    subst hx
    have z := sized_slice hsz ht hd hu
    rw [hB] at z
    simp only [List.length_map, List.length_range] at z
    exact Nat.le_trans (Nat.mul_le_mul_right _ (by omega)) z
end
end Go.Proofs.Ytmncpcchdhieoaa
