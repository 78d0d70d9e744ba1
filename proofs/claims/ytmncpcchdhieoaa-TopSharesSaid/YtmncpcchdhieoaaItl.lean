/- What comes of a table: plain words; what is asked of a lease. -/
import Derived.Test.YtmncpcchdhieoaaTab
namespace Go.Proofs.Ytmncpcchdhieoaa
open Go.ChangeShapes Go.WideShapes Go.ChangeAt Go.RowKit
set_option linter.unusedVariables false
set_option linter.unusedSimpArgs false

open Go.Maps
/-- The addresses of the pool. -/
def ints20 : List Int := (List.range 20).map fun (i : Nat) => (i : Int) + 1
theorem mem20 {x : Int} : x ∈ ints20 ↔ 1 ≤ x ∧ x ≤ ((20 : Nat) : Int) := by
  unfold ints20
  rw [List.mem_map]
  constructor
  · rintro ⟨i, hi, rfl⟩
    rw [List.mem_range] at hi
    omega
  · rintro ⟨h1, h2⟩
    exact ⟨(x - 1).toNat, by rw [List.mem_range]; omega, by omega⟩
theorem nodup20 : ints20.Nodup := by decide
/-- So far these addresses have come, each once. -/
structure Seen (left : Lit → Bool) (vs : List Int) : Prop where
  once : vs.Nodup
  mem : ∀ x, x ∈ vs ↔ ((1 ≤ x ∧ x ≤ ((20 : Nat) : Int)) ∧ left (.int .u32 x) = false)
theorem Seen.none {D : DataW Unit} (h : ∀ a : Int, has D (.int .u32 a) = true ↔ 1 ≤ a ∧ a ≤ ((20 : Nat) : Int)) : Seen (has D) [] :=
  ⟨List.nodup_nil, fun x => ⟨(fun h => by cases h), (fun hh => by rw [(h x).2 hh.1] at hh; cases hh.2)⟩⟩
theorem Seen.more {left : Lit → Bool} {vs : List Int} (h : Seen left vs) {x : Int} (hx : 1 ≤ x ∧ x ≤ ((20 : Nat) : Int)) (hlk : left (.int .u32 x) = true) : Seen (fun z => left z && !z.sameKey (.int .u32 x)) (vs ++ [x]) := by
  have hn : x ∉ vs := fun hm => by
    have h2 := ((h.mem x).1 hm).2
    rw [hlk] at h2
    cases h2
  constructor
  · rw [List.nodup_append]
    refine ⟨h.once, by simp, fun a ha b hb => ?_⟩
    simp only [List.mem_singleton] at hb
    subst hb
    intro e
    exact hn (e ▸ ha)
  · intro y
    by_cases hy : y = x
    · subst hy
      simp only [List.mem_append, List.mem_singleton, or_true, Lit.sameKey, true_iff]
      exact ⟨hx, by simp⟩
    · have hm := h.mem y
      simp [hm, hy, Lit.sameKey]
theorem Seen.all {left : Lit → Bool} {vs : List Int} (h : Seen left vs) (hl : ∀ kl, left kl = false) : vs.Perm ints20 := by
  refine (List.perm_ext_iff_of_nodup h.once nodup20).2 fun x => ?_
  rw [h.mem x, mem20, hl]
  simp
theorem len_of_sub {l m : List Int} (hl : l.Nodup) (h : ∀ x ∈ l, x ∈ m) : l.length ≤ m.length := by
  induction l generalizing m with
  | nil => exact Nat.zero_le _
  | cons a l ih =>
    have ha := h a (.head _)
    have hp := List.perm_cons_erase ha
    have h2 : ∀ x ∈ l, x ∈ m.erase a := fun x hx => by
      have hne : x ≠ a := fun e => (List.nodup_cons.1 hl).1 (e ▸ hx)
      exact (List.mem_erase_of_ne hne).2 (h x (.tail _ hx))
    have := ih (List.nodup_cons.1 hl).2 h2
    have e := hp.length_eq
    simp only [List.length_cons] at e ⊢
    omega
theorem Seen.few {left : Lit → Bool} {vs : List Int} (h : Seen left vs) : vs.length ≤ 20 := by
  exact len_of_sub h.once (fun x hx => mem20.2 ((h.mem x).1 hx).1)
/-- The leases that the table holds, of which something is true. -/
def thoseL (f : Int → Le) (p : Le → Bool) : List Le := (ints20.map f).filter p
def gotL (f : Int → Le) (p : Le → Bool) (vs : List Int) : List Le := (vs.map f).filter p
theorem got_none (f : Int → Le) (p : Le → Bool) : gotL f p [] = [] := rfl
theorem got_more {f : Int → Le} {p : Le → Bool} {vs : List Int} {x : Int} (h : p (f x) = true) : gotL f p (vs ++ [x]) = gotL f p vs ++ [f x] := by
  unfold gotL
  rw [List.map_append, List.filter_append]
  simp [h]
theorem got_same {f : Int → Le} {p : Le → Bool} {vs : List Int} {x : Int} (h : p (f x) = false) : gotL f p (vs ++ [x]) = gotL f p vs := by
  unfold gotL
  rw [List.map_append, List.filter_append]
  simp [h]
theorem got_len (f : Int → Le) (p : Le → Bool) (vs : List Int) : (gotL f p vs).length ≤ vs.length := by
  unfold gotL
  have := List.length_filter_le p (vs.map f)
  rw [List.length_map] at this
  exact this
theorem got_all {f : Int → Le} {p : Le → Bool} {vs : List Int} (h : vs.Perm ints20) : (gotL f p vs).Perm (thoseL f p) := (h.map f).filter p
theorem keyV {k : TypeId} (hk : Try.prog.underlying k = some (.int .u32)) {key : Value} {kl : Lit} (h : keyOf Try.prog k key = some kl) : ∃ x : Int, key = .int .u32 x ∧ kl = .int .u32 x := by
  cases key <;> simp [keyOf, hk, mapKey] at h
  rename_i q a
  obtain ⟨⟨rfl, hw⟩, rfl⟩ := h
  exact ⟨a, rfl, rfl⟩
theorem isall_any (xa xb : Int) (xc : ByteArray) (xu xk xt xz xv : Int) (w : World) : Calls Try.prog 21 #[.agg #[.int .u32 xa, .int .i64 xb, .string xc, .int .i64 xu, .int .i64 xk, .int .i64 xt, .int .i64 xz, .int .i64 xv]] w fun e w' => e = .returned (.bool true) ∧ Below w.heap.size w w' := by
  go_enter Try.func21, Try.ntmps21
  go_wp2
  go_ret
  exact ⟨rfl, low0 w _⟩
theorem isbound_any (xa xb : Int) (xc : ByteArray) (xu xk xt xz xv : Int) (bd : Int) (B : Nat) (w : World) (hB : w.cell? ⟨B, 0, none⟩ = some (.int .i64 bd)) : Calls Try.prog 33 #[.agg #[.int .u32 xa, .int .i64 xb, .string xc, .int .i64 xu, .int .i64 xk, .int .i64 xt, .int .i64 xz, .int .i64 xv], .pointer (some ⟨B, 0, none⟩)] w fun e w' => e = .returned (.bool (decide (xb = bd))) ∧ Below w.heap.size w w' := by
  have HL := Lib.hid (World.block_lt_of_cell? w _ hB)
  have cB := ((low0 w (.cells #[.int .u32 xa, .int .i64 xb, .string xc, .int .i64 xu, .int .i64 xk, .int .i64 xt, .int .i64 xz, .int .i64 xv] 35)).cell (p := ⟨B, 0, none⟩) HL.out).trans hB
  by_cases hb : xb = bd
  · have g : (xb == bd) = true := by simp [hb]
    have HB := Lib.hid hb
    clear hb
    go_enter Try.func33, Try.ntmps33
    go_wp2
    go_ret
    exact ⟨ret_bool (decide_eq_true HB.out).symm, low0 w _⟩
  · have g : (xb == bd) = false := by simp [hb]
    have HB := Lib.hid hb
    clear hb
    go_enter Try.func33, Try.ntmps33
    go_wp2
    go_ret
    exact ⟨ret_bool (decide_eq_false HB.out).symm, low0 w _⟩

end Go.Proofs.Ytmncpcchdhieoaa
