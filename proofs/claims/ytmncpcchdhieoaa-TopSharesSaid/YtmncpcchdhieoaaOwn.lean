/- Rows that a call made itself, and blocks that stay beside them. Over any program. -/
import Derived.Test.YtmncpcchdhieoaaBlk
import Derived.OwnWalk
import Derived.Laws.OwnMore
import Derived.Laws.BytesString
import Derived.Laws.Cells
namespace Go.Proofs.Ytmncpcchdhieoaa
open Go.ChangeShapes Go.WideShapes Go.ChangeAt Go.RowKit
set_option linter.unusedVariables false

theorem own_keep {w w' : World} {base : Nat} {e : TypeId} {size : Nat} {v : Value} {n : Nat} {xs : List Value} (h : w.ownsRow base e size v n xs) (hb : Below w.heap.size w w') : w'.ownsRow base e size v n xs := by
  refine ⟨h.1, ?_⟩
  rcases h.2 with hn | ⟨g, cap, cur, rfl, hg, hgg, rest⟩
  · exact .inl hn
  · exact .inr ⟨g, cap, cur, rfl, hg, (hb.block g (Array.getElem?_eq_some_iff.1 hgg).1).trans hgg, rest⟩
theorem own_base {w : World} {base base' : Nat} {e : TypeId} {size : Nat} {v : Value} {n : Nat} {xs : List Value} (h : w.ownsRow base e size v n xs) (hb : base' ≤ base) : w.ownsRow base' e size v n xs := by
  refine ⟨h.1, ?_⟩
  rcases h.2 with hn | ⟨g, cap, cur, rfl, hg, rest⟩
  · exact .inl hn
  · exact .inr ⟨g, cap, cur, rfl, Nat.le_trans hb hg, rest⟩
theorem own_low {w : World} {base : Nat} {e : TypeId} {size : Nat} {v : Value} {n : Nat} {xs : List Value} (h : w.ownsRow base e size v n xs) {k : Nat} (hk : v.ownBlock = some k) : base ≤ k := (h.lt k hk).1
theorem HeldB.grown {W : World} {gs : List (Nat × Array Value × TypeId)} {w w' : World} {row : Option Nat} (h : HeldB W gs w) (hg : w.grownBy w' row) (hr : ∀ k, row = some k → W.heap.size ≤ k ∧ ∀ p ∈ gs, p.1 ≠ k) : HeldB W gs w' :=
  ⟨fun p hp => (hg.block p.1 (h.1 p hp).lt (fun e => (hr p.1 e.symm).2 p hp rfl)).trans (h.1 p hp), h.2.grown hg h.low (fun k hk => (hr k hk).1)⟩
/-- An append to a row of the call's own leaves the blocks below. -/
theorem HeldB.grownOwn {W : World} {gs : List (Nat × Array Value × TypeId)} {w w' : World} {base : Nat} {e : TypeId} {size : Nat} {v : Value} {n : Nat} {xs : List Value} (h : HeldB W gs w) (ho : w.ownsRow base e size v n xs) (hg : w.grownBy w' v.ownBlock)
    (hb : W.heap.size ≤ base) (hl : ∀ p ∈ gs, p.1 < base) : HeldB W gs w' :=
  h.grown hg (fun k hk => ⟨Nat.le_trans hb (own_low ho hk), fun p hp => Nat.ne_of_lt (Nat.lt_of_lt_of_le (hl p hp) (own_low ho hk))⟩)
theorem Below.grownOwn {W w w' : World} {base : Nat} {e : TypeId} {size : Nat} {v : Value} {n : Nat} {xs : List Value} (h : Below W.heap.size W w) (ho : w.ownsRow base e size v n xs) (hg : w.grownBy w' v.ownBlock)
    (hb : W.heap.size ≤ base) : Below W.heap.size W w' := h.grown hg h.size (fun k hk => Nat.le_trans hb (own_low ho hk))

/-- The cells of a row that is owned. -/
theorem own_cells {w : World} {base : Nat} {e : TypeId} {v : Value} {n : Nat} {xs : List Value} (h : w.ownsRow base e 1 v n xs) (hn : 0 < n) :
    ∃ g cap, v = .slice (some ⟨g, 0, none⟩) n cap ∧ base ≤ g ∧ g < w.heap.size ∧ n ≤ cap ∧ cap ≤ maxLen ∧ ∀ j, j < n → w.cell? ⟨g, j, none⟩ = xs[j]? := by
  rcases h.2 with ⟨_, h0⟩ | ⟨g, cap, cur, rfl, hb, hg, hc, hm, _⟩
  · omega
  · exact ⟨g, cap, rfl, hb, (Array.getElem?_eq_some_iff.1 hg).1, hc, hm, fun j hj => h.cellAt j (by omega)⟩
/-- What the first cells of a block hold. -/
def RowIs (w : World) (g : Nat) (xs : List Value) : Prop := g < w.heap.size ∧ ∀ j, j < xs.length → w.cell? ⟨g, j, none⟩ = xs[j]?
theorem RowIs.keep {w w' : World} {g : Nat} {xs : List Value} (h : RowIs w g xs) (hb : Below w.heap.size w w') : RowIs w' g xs :=
  ⟨Nat.lt_of_lt_of_le h.1 hb.size, fun j hj => (World.cell?_of_block (a := ⟨g, j, none⟩) (hb.block g h.1)).trans (h.2 j hj)⟩
theorem RowIs.alloc {w : World} {g : Nat} {xs : List Value} (h : RowIs w g xs) (o : Obj) : RowIs (w.alloc o) g xs := h.keep (low0 w o)
theorem RowIs.drew {w : World} {g : Nat} {xs : List Value} (h : RowIs w g xs) : RowIs w.drew g xs := h
theorem RowIs.at {w : World} {g : Nat} {xs : List Value} (h : RowIs w g xs) {j : Nat} {v : Value} (hv : xs[j]? = some v) : w.cell? ⟨g, j, none⟩ = some v := by
  have hj : j < xs.length := by
    rcases Nat.lt_or_ge j xs.length with hl | hl
    · exact hl
    · rw [List.getElem?_eq_none hl] at hv; cases hv
  exact (h.2 j hj).trans hv
theorem own_row {w : World} {base : Nat} {e : TypeId} {v : Value} {n : Nat} {xs : List Value} (h : w.ownsRow base e 1 v n xs) (hn : 0 < n) : ∃ g cap, v = .slice (some ⟨g, 0, none⟩) n cap ∧ base ≤ g ∧ n ≤ cap ∧ cap ≤ maxLen ∧ RowIs w g xs := by
  obtain ⟨g, cap, h1, h2, h3, h4, h5, h6⟩ := own_cells h hn
  exact ⟨g, cap, h1, h2, h4, h5, h3, fun j hj => h6 j (by have := h.1; omega)⟩

theorem add_spot0 {g o k : Nat} : (⟨g, o, none⟩ : Addr).add k = ⟨g, o + k, none⟩ := by unfold Addr.add; split <;> simp_all
/-- Bytes as a string. -/
def strOf (l : List Int) : ByteArray := l.foldl (fun r n => r.push (UInt8.ofNat n.toNat)) ByteArray.empty
theorem conv_row {P : Program} {w : World} {src dst e : TypeId} {g n cap : Nat} {l : List Int} (hs : P.underlying src = some (.slice e)) (he : P.underlying e = some (.int .u8)) (hd : P.underlying dst = some .string)
    (h : RowIs w g (l.map (Value.int .u8))) (hl : l.length = n) : (convert src dst (.slice (some ⟨g, 0, none⟩) n cap)).run P w = .ok (.string (strOf l)) w := by
  subst hl
  rw [run_convert_bytes_string w src dst e _ _ _ hs he hd]
  refine run_bytesToString w _ _ _ l ?_
  have := run_loadCells_list (P := P) w ⟨g, 0, none⟩ (l.map (Value.int .u8)) (fun j v hv => by
    rw [add_spot0, Nat.zero_add]
    exact h.at hv)
  rwa [List.length_map] at this

end Go.Proofs.Ytmncpcchdhieoaa
