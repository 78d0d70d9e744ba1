/- A promise out of its line, by the reference. -/
import Derived.Test.YtodjeidofgbdlaaGreatDoorByt
import Derived.Test.YtodjeidofgbdlaaGreatDoorRln
namespace Go.Proofs.YtodjeidofgbdlaaGreatDoor
open Go.ChangeShapes Go.WideShapes Go.ChangeAt Go.RowKit
set_option linter.unusedVariables false
set_option linter.unusedSimpArgs false

theorem cuts_len (c : UInt8) : ∀ (l : List UInt8), ∀ x ∈ cutsL c l, x.length ≤ l.length
  | [], x, h => by
    simp [cutsL] at h
    subst h
    exact Nat.le_refl _
  | b :: l, x, h => by
    have ih := cuts_len c l
    unfold cutsL at h
    split at h
    · rcases List.mem_cons.1 h with rfl | h
      · simp
      · have := ih x h
        simp
        omega
    · cases hc : cutsL c l with
      | nil =>
        rw [hc] at h
        simp at h
        subst h
        simp
      | cons y ys =>
        rw [hc] at h ih
        simp only at h
        rcases List.mem_cons.1 h with rfl | h
        · have := ih y (.head _)
          simp
          omega
        · have := ih x (.tail _ h)
          simp
          omega
/-- The line's words, if it is one. -/
theorem line_words {s : ByteArray} {q : Pr} {ws : List ByteArray} (h : s = lineB q) (hw : ws.map (·.data.toList) = cutsL 32 s.data.toList) : ws.map (·.data.toList) = [Lib.decDigits q.srv.toNat, addrL q.adr.toNat, hexL q.cli.data.toList, Lib.decDigits q.frm.toNat, Lib.decDigits q.unt.toNat] := by
  rw [hw, h]
  unfold lineB
  exact lineL_cuts q
theorem five_of {s : ByteArray} {q : Pr} {ws : List ByteArray} (h : s = lineB q) (hw : ws.map (·.data.toList) = cutsL 32 s.data.toList) : ws.length = 5 := by
  have := congrArg List.length (line_words h hw)
  simpa using this
theorem AddrOf.fit {s : ByteArray} {r : Int × Int} (h : AddrOf s r) : ∃ a : Nat, a < 4294967296 ∧ r.1 = (a : Int) := by
  rcases h with ⟨a, ha, _, rfl⟩ | ⟨_, rfl⟩
  · exact ⟨a, ha, rfl⟩
  · exact ⟨0, by decide, rfl⟩
theorem AddrOf.of {s : ByteArray} {r : Int × Int} (h : AddrOf s r) {a : Nat} (ha : a < 4294967296) (hs : s.data.toList = addrL a) : r = ((a : Int), 0) := by
  rcases h with ⟨c, hc, hs2, rfl⟩ | ⟨hn, rfl⟩
  · rw [addrL_inj (hs2.symm.trans hs)]
  · exact absurd hs (hn a ha)
def refP (x0 x2 x3 x4 : ByteArray) (a : Int) : Pr := ⟨(vF 14 0 x0.data.toList : Nat), a, bl (bytesL x2.data.toList), (vF 14 0 x3.data.toList : Nat), (vF 14 0 x4.data.toList : Nat)⟩
theorem ref_is {s x0 x1 x2 x3 x4 : ByteArray} {q : Pr} {r : Int × Int} (hq : rightPr q) (h0 : 0 ≤ q.adr) (h1 : q.adr ≤ 4294967295) (h : s = lineB q) (hw : [x0, x1, x2, x3, x4].map (·.data.toList) = cutsL 32 s.data.toList) (ha : AddrOf x1 r) : refP x0 x2 x3 x4 r.1 = q := by
  have e := line_words h hw
  simp only [List.map_cons, List.map_nil, List.cons.injEq, and_true] at e
  obtain ⟨e0, e1, e2, e3, e4⟩ := e
  have hr := ha.of (a := q.adr.toNat) (by omega) e1
  obtain ⟨⟨g1, g2⟩, _, g3, g4, g5⟩ := hq
  unfold refP
  rw [e0, e2, e3, e4, vF_dec (by omega), vF_dec (by omega), vF_dec (by omega), bytes_hex, hr, bl_of]
  obtain ⟨a1, a2, a3, a4, a5⟩ := q
  simp only at *
  congr 1 <;> omega
theorem ParseOf.long {s : ByteArray} (h : 130 < s.size) : ParseOf s (zeroPr, 2) := .inr ⟨(fun p hp h0 h1 e => by
  have := lineL_len hp (by omega)
  have k : s.size = (lineL p).length := by rw [e]; unfold lineB; simp [ByteArray.size]
  omega), rfl⟩
theorem ParseOf.few {s : ByteArray} {ws : List ByteArray} (hw : ws.map (·.data.toList) = cutsL 32 s.data.toList) (h : ws.length ≠ 5) : ParseOf s (zeroPr, 2) := .inr ⟨(fun p hp h0 h1 e => h (five_of e hw)), rfl⟩
theorem words_five {ws : List ByteArray} (h : ws.length = 5) : ∃ x0 x1 x2 x3 x4, ws = [x0, x1, x2, x3, x4] := by
  match ws, h with
  | [x0, x1, x2, x3, x4], _ => exact ⟨x0, x1, x2, x3, x4, rfl⟩
theorem word_size {s x : ByteArray} {ws : List ByteArray} (hw : ws.map (·.data.toList) = cutsL 32 s.data.toList) (hx : x ∈ ws) : x.size ≤ s.size := by
  have := cuts_len 32 s.data.toList x.data.toList (by rw [← hw]; exact List.mem_map_of_mem hx)
  rw [Array.length_toList, Array.length_toList] at this
  exact this
theorem ParseOf.noref {s x0 x1 x2 x3 x4 : ByteArray} {r : Int × Int} (hw : [x0, x1, x2, x3, x4].map (·.data.toList) = cutsL 32 s.data.toList) (ha : AddrOf x1 r) (h : ¬ (rightPr (refP x0 x2 x3 x4 r.1) ∧ s = lineB (refP x0 x2 x3 x4 r.1))) : ParseOf s (zeroPr, 2) := .inr ⟨(fun p hp h0 h1 e => h (by rw [ref_is hp h0 h1 e hw ha]; exact ⟨hp, e⟩)), rfl⟩
theorem ParseOf.ref {s : ByteArray} {p : Pr} (hp : rightPr p) (h0 : 0 ≤ p.adr) (h1 : p.adr ≤ 4294967295) (h : s = lineB p) : ParseOf s (p, 0) := .inl ⟨p, hp, h0, h1, h, rfl⟩

theorem HeldB.set5 {W : World} {g : Nat} {a0 a1 a2 a3 a4 : Value} {t : TypeId} {gs : List (Nat × Array Value × TypeId)} {w : World} (h : HeldB W ((g, #[a0, a1, a2, a3, a4], t) :: gs) w) (hg : W.heap.size ≤ g) (hd : ∀ p ∈ gs, p.1 ≠ g) (b0 b1 b2 b3 b4 : Value) :
    HeldB W ((g, #[b0, b1, b2, b3, b4], t) :: gs) (((((w.setCell ⟨g, 0, none⟩ b0).setCell ⟨g, 1, none⟩ b1).setCell ⟨g, 2, none⟩ b2).setCell ⟨g, 3, none⟩ b3).setCell ⟨g, 4, none⟩ b4) := by
  have h0 := h.set hg hd 0 b0
  simp only [List.setIfInBounds_toArray, List.set_cons_zero] at h0
  have h1 := h0.set hg hd 1 b1
  simp only [List.setIfInBounds_toArray, List.set_cons_zero, List.set_cons_succ] at h1
  have h2 := h1.set hg hd 2 b2
  simp only [List.setIfInBounds_toArray, List.set_cons_zero, List.set_cons_succ] at h2
  have h3 := h2.set hg hd 3 b3
  simp only [List.setIfInBounds_toArray, List.set_cons_zero, List.set_cons_succ] at h3
  have h4 := h3.set hg hd 4 b4
  simp only [List.setIfInBounds_toArray, List.set_cons_zero, List.set_cons_succ] at h4
  exact h4
theorem RowIs.set {w : World} {g : Nat} {xs : List Value} (h : RowIs w g xs) {k : Nat} (hk : g ≠ k) (i : Nat) (v : Value) : RowIs (w.setCell ⟨k, i, none⟩ v) g xs :=
  ⟨by have := h.1; simpa [World.setCell] using this, fun j hj => (World.cell?_of_block (a := ⟨g, j, none⟩) (Below.heap_setCell w ⟨k, i, none⟩ v g hk)).trans (h.2 j hj)⟩
theorem row_set5 {w : World} {g : Nat} {xs : List Value} (h : RowIs w g xs) {k : Nat} (hk : g ≠ k) (b0 b1 b2 b3 b4 : Value) : RowIs (((((w.setCell ⟨k, 0, none⟩ b0).setCell ⟨k, 1, none⟩ b1).setCell ⟨k, 2, none⟩ b2).setCell ⟨k, 3, none⟩ b3).setCell ⟨k, 4, none⟩ b4) g xs :=
  ((((h.set hk 0 b0).set hk 1 b1).set hk 2 b2).set hk 3 b3).set hk 4 b4
theorem below5 {B : Nat} {a w : World} (h : Below B a w) {g : Nat} (hp : B ≤ g) (b0 b1 b2 b3 b4 : Value) : Below B a (((((w.setCell ⟨g, 0, none⟩ b0).setCell ⟨g, 1, none⟩ b1).setCell ⟨g, 2, none⟩ b2).setCell ⟨g, 3, none⟩ b3).setCell ⟨g, 4, none⟩ b4) :=
  ((((h.setCell hp b0).setCell hp b1).setCell hp b2).setCell hp b3).setCell hp b4

end Go.Proofs.YtodjeidofgbdlaaGreatDoor
