/- What a text holds, by the reference. -/
import Derived.Test.YtodjeidofgbdlaaGreatDoorRdp
import Derived.OwnWalk
namespace Go.Proofs.YtodjeidofgbdlaaGreatDoor
open Go.ChangeShapes Go.WideShapes Go.ChangeAt Go.RowKit
set_option linter.unusedVariables false
set_option linter.unusedSimpArgs false

def flatP (ps : List Pr) : List Value := ps.flatMap Pr.cells
theorem flatP_snoc (ps : List Pr) (p : Pr) : flatP (ps ++ [p]) = flatP ps ++ p.cells := by unfold flatP; rw [List.flatMap_append]; simp
theorem flatP_length (ps : List Pr) : (flatP ps).length = ps.length * 5 := by
  unfold flatP
  induction ps with
  | nil => rfl
  | cons p ps ih =>
    rw [List.flatMap_cons, List.length_append, ih, List.length_cons]
    have : p.cells.length = 5 := rfl
    omega
theorem flatP_at : ∀ (ps : List Pr) (j : Nat) (p : Pr) (i : Nat) (v : Value), ps[j]? = some p → p.cells[i]? = some v → (flatP ps)[j * 5 + i]? = some v
  | [], j, p, i, v, h, _ => by simp at h
  | q :: ps, 0, p, i, v, h, hv => by
    simp only [List.getElem?_cons_zero, Option.some.injEq] at h
    subst h
    have hi : i < 5 := (List.getElem?_eq_some_iff.1 hv).1
    unfold flatP
    rw [List.flatMap_cons, Nat.zero_mul, Nat.zero_add, List.getElem?_append_left hi]
    exact hv
  | q :: ps, j + 1, p, i, v, h, hv => by
    simp only [List.getElem?_cons_succ] at h
    have := flatP_at ps j p i v h hv
    have hq : q.cells.length = 5 := rfl
    unfold flatP at this ⊢
    rw [List.flatMap_cons, List.getElem?_append_right (by rw [hq]; omega), hq, ← this]
    congr 1
    omega
theorem own_prs {w : World} {base : Nat} {v : Value} {ps : List Pr} (h : w.ownsRow base 29 5 v ps.length (flatP ps)) (hf : ∀ p ∈ ps, p.fit) : ∃ a c, v = .slice a ps.length c ∧ PrsIn w a ps.length c ps := by
  rcases h.2 with ⟨rfl, h0⟩ | ⟨g, cap, cur, rfl, hb, hg, hc, hm, hs, ht⟩
  · exact ⟨none, 0, by rw [h0], rfl, hf, by omega, by unfold maxLen; omega, fun h => by omega⟩
  · have hB : Blk w g cur 29 := hg
    refine ⟨_, _, rfl, rfl, hf, hc, hm, fun _ => ⟨g, 0, rfl, hB.lt, fun j p hp i u hu => ?_⟩⟩
    have h1 := flatP_at ps j p i u hp hu
    have hj := (List.getElem?_eq_some_iff.1 hp).1
    have hi : i < 5 := (List.getElem?_eq_some_iff.1 hu).1
    rw [Nat.zero_add, hB.cell, ← ht, List.getElem?_take, if_pos (by omega)] at *
    rw [← h1]
    simp
theorem cells_new (w : World) (A : Array Value) (t : TypeId) : ∀ (j : Nat) u, A.toList[j]? = some u → (w.alloc (.cells A t)).cell? ((⟨w.heap.size, 0, none⟩ : Addr).add j) = some u := by
  intro j u hj
  rw [add_spot0, Nat.zero_add, (Blk.new w A t).cell j, ← hj]
  simp
theorem cells_new2 (w : World) (o : Obj) (A : Array Value) (t : TypeId) : ∀ (j : Nat) u, A.toList[j]? = some u → ((w.alloc o).alloc (.cells A t)).cell? ((⟨w.heap.size + 1, 0, none⟩ : Addr).add j) = some u := by
  have h := cells_new (w.alloc o) A t
  have e : (w.alloc o).heap.size = w.heap.size + 1 := by simp
  rw [e] at h
  exact h
theorem Tryz.infoP : (Tryz.prog.info? 29).map (fun i => (i.zero, i.size, i.bytes)) = some (some (.agg #[.int .i64 0, .int .u32 0, .string { data := #[] }, .int .i64 0, .int .i64 0]), 5, 48) := by kernel_rfl
theorem readA_fit : ∀ (cs : List (List UInt8)) (acc : List Pr) (no : Nat), (∀ p ∈ acc, p.fit) → ∀ p ∈ (readA acc no cs).1, p.fit
  | [], acc, no, h, p, hp => by rw [readA] at hp; exact h p hp
  | [c], acc, no, h, p, hp => by
    rw [readA] at hp
    split at hp
    · exact h p hp
    · cases hp
  | c :: d :: cs, acc, no, h, p, hp => by
    rw [readA] at hp
    split at hp
    · cases hp
    · next q hq =>
      refine readA_fit (d :: cs) (acc ++ [q]) (no + 1) (fun x hx => ?_) p hp
      rcases List.mem_append.1 hx with h1 | h1
      · exact h x h1
      · rw [List.mem_singleton.1 h1]; exact (parseF_some hq).2.1
theorem readA_len : ∀ (cs : List (List UInt8)) (acc : List Pr) (no : Nat), (readA acc no cs).1.length ≤ acc.length + cs.length
  | [], acc, no => by rw [readA]; simp
  | [c], acc, no => by
    rw [readA]
    split
    · simp
    · simp
  | c :: d :: cs, acc, no => by
    rw [readA]
    split
    · simp
    · next q hq =>
      have := readA_len (d :: cs) (acc ++ [q]) (no + 1)
      simp only [List.length_append, List.length_cons, List.length_nil] at this ⊢
      omega
theorem cuts_count (c : UInt8) : ∀ l : List UInt8, (cutsL c l).length ≤ l.length + 1
  | [] => by simp [cutsL]
  | b :: l => by
    have := cuts_count c l
    unfold cutsL
    split
    · simp; omega
    · split
      · simp
      · next h => rw [h] at this; simp at this ⊢; omega
theorem readR_fit (s : ByteArray) : ∀ p ∈ (readR s).1, p.fit := readA_fit _ [] 1 (fun _ h => by cases h)
theorem readR_len (s : ByteArray) : (readR s).1.length ≤ s.size + 1 := by
  have h1 := readA_len (cutsL 10 s.data.toList) [] 1
  have h2 := cuts_count 10 s.data.toList
  have h3 : s.data.toList.length = s.size := Array.length_toList
  unfold readR
  simp only [List.length_nil] at h1
  omega
theorem ext_list (s : ByteArray) (f k : Nat) : (s.extract f k).data.toList = (s.data.toList.drop f).take (k - f) := Lib.extract_data s f k
theorem drop_parts (s : ByteArray) {f k : Nat} (h1 : f ≤ k) (h2 : k < s.size) : s.data.toList.drop f = (s.extract f k).data.toList ++ (s[k] :: s.data.toList.drop (k + 1)) := by
  rw [ext_list, ← drop_get s k h2]
  have h := List.take_append_drop (k - f) (s.data.toList.drop f)
  rw [List.drop_drop] at h
  rw [show f + (k - f) = k by omega] at h
  exact h.symm
theorem drop_rest (s : ByteArray) {f : Nat} (h1 : f ≤ s.size) : s.data.toList.drop f = (s.extract f s.size).data.toList := by
  rw [ext_list, List.take_of_length_le]
  rw [List.length_drop, Array.length_toList]
  exact Nat.le_refl _
theorem no10_more (s : ByteArray) {f k : Nat} (h1 : f ≤ k) (h2 : k < s.size) (h : ∀ b ∈ (s.extract f k).data.toList, b ≠ 10) (hb : s[k] ≠ 10) : ∀ b ∈ (s.extract f (k + 1)).data.toList, b ≠ 10 := by
  intro b hx
  rw [ext_list] at hx h
  have e : k + 1 - f = (k - f) + 1 := by omega
  rw [e, List.take_add_one] at hx
  rcases List.mem_append.1 hx with h3 | h3
  · exact h b h3
  · rw [List.getElem?_drop, show f + (k - f) = k by omega, List.getElem?_eq_getElem (by rw [Array.length_toList]; exact h2)] at h3
    simp only [Option.toList_some, List.mem_singleton] at h3
    rw [h3]
    exact hb

end Go.Proofs.YtodjeidofgbdlaaGreatDoor
