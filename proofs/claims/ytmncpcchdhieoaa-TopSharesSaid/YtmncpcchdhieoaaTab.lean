/- What a table holds. -/
import Derived.Test.YtmncpcchdhieoaaLz
import Derived.Maps.Own
import Derived.Maps.OwnSet
import Derived.Maps.Views
import Derived.Maps.Range
import Derived.KernelRfl
namespace Go.Proofs.Ytmncpcchdhieoaa
open Go.ChangeShapes Go.WideShapes Go.ChangeAt Go.RowKit
set_option linter.unusedVariables false
set_option linter.unusedSimpArgs false

open Go.Maps
/-- How a lease reads. -/
def leD (l : Le) : DataW Unit := .agg [.lit (.int .u32 l.adr), .lit (.int .i64 l.bind), .lit (.string l.cli.data.toList), .lit (.int .i64 l.unt), .lit (.int .i64 l.ack), .lit (.int .i64 l.tld), .lit (.int .i64 l.att), .lit (.int .i64 l.ver)]
theorem leD_inj {a b : Le} (h : leD a = leD b) : a = b := by
  obtain ⟨a0, a1, a2, a3, a4, a5, a6, a7⟩ := a
  obtain ⟨b0, b1, b2, b3, b4, b5, b6, b7⟩ := b
  unfold leD at h
  simp only [DataW.agg.injEq, List.cons.injEq, DataW.lit.injEq, Lit.int.injEq, Lit.string.injEq, true_and, and_true] at h
  obtain ⟨rfl, rfl, h2, rfl, rfl, rfl, rfl, rfl⟩ := h
  have e : a2 = b2 := by
    cases a2; cases b2
    simp only at h2
    rw [Array.toList_inj.1 h2]
  rw [e]
def leR : Value → Option (DataW Unit × List MemPlace)
  | .agg cs => match cs.toList with
    | [.int .u32 a, .int .i64 b, .string c, .int .i64 u, .int .i64 k, .int .i64 t, .int .i64 z, .int .i64 v] => some (leD ⟨a, b, c, u, k, t, z, v⟩, [])
    | _ => none
  | _ => none
theorem leR_mk (l : Le) : leR l.val = some (leD l, []) := rfl
theorem leR_inv {v : Value} {z : DataW Unit × List MemPlace} (h : leR v = some z) : ∃ l : Le, v = l.val ∧ z = (leD l, []) := by
  unfold leR at h
  split at h
  · rename_i cs
    split at h
    · rename_i a b c u k t z' v' e
      cases h
      refine ⟨⟨a, b, c, u, k, t, z', v'⟩, ?_, rfl⟩
      unfold Le.val
      congr 1
      apply Array.toList_inj.1
      rw [e]
    · cases h
  · cases h
def zeroLe : Le := ⟨0, 0, { data := #[] }, 0, 0, 0, 0, 0⟩
theorem lkeyed : Keyed Try.prog 30 := int_keyed Try.underlying30
theorem key32 {a : Int} (h0 : 0 ≤ a) (h1 : a ≤ 4294967295) : keyOf Try.prog 30 (.int .u32 a) = some (.int .u32 a) := keyOf_int_mk Try.underlying30 (by
  have e1 : IntKind.u32.min = 0 := by decide
  have e2 : IntKind.u32.max = 4294967295 := by decide
  simp [Lit.wf, e1, e2]
  omega)
theorem lit_ne {a b : Int} (h : a ≠ b) : (Lit.int .u32 a) ≠ .int .u32 b := fun e => h (by cases e; rfl)
/-- Block m holds a map of leases, those of the addresses 1 to k. -/
def TabM (w : World) (m n k : Nat) (f : Int → Le) : Prop :=
  ∃ D : DataW Unit, w.ownsMap Try.prog 30 leR m n D ∧ (∀ a : Int, has D (.int .u32 a) = true ↔ 1 ≤ a ∧ a ≤ k) ∧ ∀ a : Int, 1 ≤ a → a ≤ k → ∀ zd, D.atKey (.int .u32 a) zd = leD (f a)
def upd (f : Int → Le) (a : Int) (l : Le) : Int → Le := fun x => if x = a then l else f x
theorem TabM.lt {w : World} {m n k : Nat} {f : Int → Le} (h : TabM w m n k f) : m < w.heap.size := by
  obtain ⟨D, h, _⟩ := h
  exact h.lt
theorem TabM.made (w : World) (f : Int → Le) : TabM (w.alloc (.map #[] 0)) w.heap.size 0 0 f :=
  ⟨.map [], World.ownsMap_made _ _ _ _, fun a => ⟨(fun h => by simp [has_eq] at h), fun h => by omega⟩, fun a h1 h2 => by omega⟩
theorem TabM.kept {w w' : World} {m n k : Nat} {f : Int → Le} (h : TabM w m n k f) {row : Option Nat} (hg : w.grownBy w' row) (hr : some m ≠ row) : TabM w' m n k f := by
  obtain ⟨D, h, h2, h3⟩ := h
  exact ⟨D, h.kept hg hr, h2, h3⟩
theorem grown_of_low {w w' : World} (h : Below w.heap.size w w') : w.grownBy w' none := ⟨h.os, h.tape, h.output, h.size, fun i hi _ => h.block i hi⟩
theorem TabM.low {w w' : World} {m n k : Nat} {f : Int → Le} (h : TabM w m n k f) (hb : Below w.heap.size w w') : TabM w' m n k f := h.kept (grown_of_low hb) (by simp)
theorem zero_lease (w : World) : (zeroValue 35).run Try.prog w = .ok zeroLe.val w := by kernel_rfl
theorem TabM.look {w : World} {m n k : Nat} {f : Int → Le} (h : TabM w m n k f) {a : Int} (h0 : 0 ≤ a) (h1 : a ≤ 4294967295) :
    ∃ l : Le, (Instr.lookup 49 (.map (some m)) (.int .u32 a) true).run Try.prog w = .ok (.tuple #[l.val, .bool (decide (1 ≤ a ∧ a ≤ k))]) w ∧ (1 ≤ a → a ≤ k → l = f a) := by
  obtain ⟨D, ho, h2, h3⟩ := h
  obtain ⟨v, ps, hrun, hv⟩ := ho.look_ok lkeyed Try.underlying49 (zero_lease w) (leR_mk zeroLe) (key32 h0 h1)
  obtain ⟨l, rfl, e⟩ := leR_inv hv
  have hb : has D (.int .u32 a) = decide (1 ≤ a ∧ a ≤ k) := by
    have := h2 a
    cases hh : has D (.int .u32 a) with
    | true => exact (decide_eq_true (this.1 hh)).symm
    | false => exact (decide_eq_false (fun c => by rw [this.2 c] at hh; cases hh)).symm
  refine ⟨l, ?_, fun g1 g2 => ?_⟩
  · rw [hrun, hb]
  · rw [h3 a g1 g2] at e
    exact (leD_inj (Prod.mk.inj e).1).symm
theorem TabM.store {w : World} {m n k : Nat} {f : Int → Le} (h : TabM w m n k f) (hn : n < 100000) {a : Int} (h0 : 0 ≤ a) (h1 : a ≤ 4294967295) (l : Le) :
    ∃ w', (Instr.mapUpdate 49 (.map (some m)) (.int .u32 a) l.val).run Try.prog w = .ok () w' ∧ w.grownBy w' (some m) ∧ (1 ≤ a → a ≤ k → TabM w' m (n + 1) k (upd f a l)) ∧ (a = k + 1 → TabM w' m (n + 1) (k + 1) (upd f a l)) := by
  obtain ⟨D, ho, h2, h3⟩ := h
  have K := lkeyed
  obtain ⟨w', hrun, ho', hg⟩ := ho.update lkeyed Try.underlying49 (by unfold maxLen; omega) (key32 h0 h1) (leR_mk l)
  have hkl : WideAt.IsKeyLit (.int .u32 a) := lkeyed.key (key32 h0 h1)
  have hhas : ∀ x : Int, has (D.put (.int .u32 a) (leD l)) (.int .u32 x) = true ↔ x = a ∨ has D (.int .u32 x) = true := fun x => by
    by_cases e : x = a
    · subst e
      rw [has_put_same ho.isMap hkl]
      simp
    · rw [has_put_other (lit_ne e)]
      simp [e]
  have hat : ∀ x : Int, (x ≠ a → 1 ≤ x ∧ x ≤ k) → ∀ zd, (D.put (.int .u32 a) (leD l)).atKey (.int .u32 x) zd = leD (upd f a l x) := fun x hx zd => by
    unfold upd
    by_cases e : x = a
    · subst e
      rw [atKey_put_same ho.isMap hkl, if_pos rfl]
    · rw [atKey_put_other (lit_ne e), if_neg e]
      exact h3 x (hx e).1 (hx e).2 zd
  refine ⟨w', hrun, hg, fun g1 g2 => ⟨_, ho', fun x => ?_, fun x y1 y2 => hat x (fun _ => ⟨y1, y2⟩)⟩, fun g => ⟨_, ho', fun x => ?_, fun x y1 y2 => hat x (fun e => ⟨y1, by omega⟩)⟩⟩
  · rw [hhas x, h2 x]
    constructor
    · rintro (e | e)
      · omega
      · exact e
    · exact .inr
  · rw [hhas x, h2 x]
    constructor
    · rintro (e | e) <;> omega
    · intro e
      by_cases c : x = a
      · exact .inl c
      · exact .inr (by omega)

end Go.Proofs.Ytmncpcchdhieoaa
