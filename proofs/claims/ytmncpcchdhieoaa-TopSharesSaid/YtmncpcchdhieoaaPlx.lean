/- Gifts in turn, in plain words. -/
import Derived.Test.YtmncpcchdhieoaaPlw
import Derived.Test.YtmncpcchdhieoaaSet
namespace Go.Proofs.Ytmncpcchdhieoaa
open Go.ChangeShapes Go.WideShapes Go.ChangeAt Go.RowKit
set_option linter.unusedVariables false
set_option linter.unusedSimpArgs false

open Flo (partV)

/-- How many are bound so behind d servers' gifts. -/
def phase (p q : Nat) (s : Int × Int) : Nat → Int × Int
  | 0 => s
  | d + 1 => if d = 0 then ((phase p q s d).1 - givesV 0 (phase p q s d).1 (phase p q s d).2 p q, (phase p q s d).2 + givesV 0 (phase p q s d).1 (phase p q s d).2 p q)
    else ((phase p q s d).1 + givesV 1 (phase p q s d).1 (phase p q s d).2 p q, (phase p q s d).2 - givesV 1 (phase p q s d).1 (phase p q s d).2 p q)
structure Sh (p q : Nat) (f0 f : Int → Le) (d : Nat) : Prop where
  same : ∀ bd : Int, 2 ≤ bd → cnt f bd = cnt f0 bd
  here : ((cnt f 0 : Int), (cnt f 1 : Int)) = phase p q ((cnt f0 0 : Int), (cnt f0 1 : Int)) d
theorem Sh.start (p q : Nat) (f : Int → Le) : Sh p q f f 0 := ⟨fun _ _ => rfl, rfl⟩
theorem Sh.step {p q : Nat} {f0 f : Int → Le} {d : Nat} (hd : d < 2) (h : Sh p q f0 f d) {xs : List Int} (hn : xs.Nodup) (hx : ∀ x ∈ xs, (1 ≤ x ∧ x ≤ 20) ∧ (f x).bind = d) (hl : (xs.length : Int) = givesV d (cnt f 0) (cnt f 1) p q) : Sh p q f0 (gives d f xs) (d + 1) := by
  refine ⟨fun bd hb => ?_, ?_⟩
  · have h1 := cnt_gives bd xs f hn hx
    have e1 : decide ((d : Int) = bd) = false := decide_eq_false (by omega)
    have e2 : decide (1 - (d : Int) = bd) = false := decide_eq_false (by omega)
    rw [e1, e2] at h1
    rw [← h.same bd hb]
    simpa using h1
  · have h0 := cnt_gives 0 xs f hn hx
    have h1 := cnt_gives 1 xs f hn hx
    have hh := h.here
    have hd2 : d = 0 ∨ d = 1 := by omega
    unfold phase
    rw [← hh]
    rcases hd2 with rfl | rfl
    · rw [if_pos rfl]
      have e0 : ((0 : Nat) : Int) = 0 := rfl
      rw [e0] at h0 h1 hl ⊢
      simp at h0 h1 hl
      simp only [Prod.mk.injEq]
      omega
    · rw [if_neg (by decide)]
      have e0 : ((1 : Nat) : Int) = 1 := rfl
      rw [e0] at h0 h1 hl ⊢
      simp at h0 h1 hl
      simp only [Prod.mk.injEq]
      omega
theorem Sh.done {p q : Nat} {f0 f : Int → Le} (hp : p < 2 ^ 64) (h : Sh p q f0 f 2) : givesV 0 (cnt f 0) (cnt f 1) p q = 0 ∧ givesV 1 (cnt f 0) (cnt f 1) p q = 0 := by
  have hh := h.here
  unfold phase at hh
  rw [if_neg (by decide)] at hh
  unfold phase at hh
  rw [if_pos rfl] at hh
  unfold phase at hh
  simp only [Prod.mk.injEq] at hh
  rw [hh.1, hh.2]
  exact gives_done hp (F := (cnt f0 0 : Int)) (B := (cnt f0 1 : Int)) (by omega) (by omega) rfl rfl rfl rfl
theorem chosen_facts {f : Int → Le} (hi : InvF f) {ls : List Le} (hp : ls.Perm (thoseL f (fun _ => true))) {d : Int} {xs ys : List Int} (h : (ys ++ xs).Perm (chL d ls)) :
    xs.Nodup ∧ (∀ x ∈ xs, (1 ≤ x ∧ x ≤ 20) ∧ (f x).bind = d) ∧ (chL 0 ls).length = cnt f 0 ∧ (chL 1 ls).length = cnt f 1 := by
  have h1 := h.trans (chL_all hi hp d)
  have hn : (ys ++ xs).Nodup := (h1.nodup_iff).2 (adrs_nodup f d)
  refine ⟨(List.nodup_append.1 hn).2.1, fun x hx => adrs_mem (h1.mem_iff.1 (List.mem_append_right _ hx)), ?_, ?_⟩
  · rw [(chL_all hi hp 0).length_eq, adrs_len]
  · rw [(chL_all hi hp 1).length_eq, adrs_len]
theorem all_len {f : Int → Le} {ls : List Le} (hp : ls.Perm (thoseL f (fun _ => true))) : ls.length ≤ 20 := by
  rw [hp.length_eq]
  exact thoseL_len _ _
theorem AdrIn.get {w : World} {a : Option Addr} {n c : Nat} {xs : List Int} (h : AdrIn w a n c xs) {j : Nat} (hj : j < n) : ∃ g o x, a = some ⟨g, o, none⟩ ∧ g < w.heap.size ∧ xs[j]? = some x ∧ w.cell? ⟨g, o + j, none⟩ = some (.int .u32 x) := by
  obtain ⟨h1, h3, h4, h5⟩ := h
  obtain ⟨g, o, rfl, hg, hc⟩ := h5 (by omega)
  have hp : xs[j]? = some (xs[j]'(by omega)) := List.getElem?_eq_getElem _
  exact ⟨g, o, _, rfl, hg, hp, hc j _ hp⟩
theorem cell_ne_map {w : World} {m n k : Nat} {f : Int → Le} (h : TabM w m n k f) {g i : Nat} {v : Value} (hc : w.cell? ⟨g, i, none⟩ = some v) : g ≠ m := by
  rintro rfl
  obtain ⟨D, ⟨es, clock, hb, _⟩, _⟩ := h
  simp [World.cell?, hb] at hc
theorem AdrIn.grownM {w w' : World} {a : Option Addr} {n c : Nat} {xs : List Int} (h : AdrIn w a n c xs) {m nn k : Nat} {f : Int → Le} (hm : TabM w m nn k f) (hg : w.grownBy w' (some m)) : AdrIn w' a n c xs := by
  obtain ⟨h1, h3, h4, h5⟩ := h
  refine ⟨h1, h3, h4, fun h0 => ?_⟩
  obtain ⟨g, o, rfl, hgl, hc⟩ := h5 h0
  have hp : xs[0]? = some (xs[0]'(by omega)) := List.getElem?_eq_getElem _
  have hne := cell_ne_map hm (hc 0 _ hp)
  have hb := hg.block g hgl (fun e => hne (by cases e; rfl))
  exact ⟨g, o, rfl, Nat.lt_of_lt_of_le hgl hg.size, fun j p hp => (World.cell?_of_block (a := ⟨g, o + j, none⟩) hb).trans (hc j p hp)⟩
theorem set_yes {l : Le} (hok : SetOk l) {r : Int} {A B : Prop} (h : (r = 0 ∧ SetOk l ∧ A) ∨ (r ≠ 0 ∧ ¬ SetOk l ∧ B)) : r = 0 ∧ A := by
  rcases h with ⟨h1, _, h3⟩ | ⟨_, h2, _⟩
  · exact ⟨h1, h3⟩
  · exact absurd hok h2
theorem give_ok {f : Int → Le} (h : InvF f) {x : Int} (h1 : 1 ≤ x) (h2 : x ≤ 20) {d : Nat} (hd : d < 2) : SetOk ⟨x, 1 - (d : Int), { data := #[] }, 0, 0, 0, 0, (f x).ver⟩ := by
  refine ⟨?_, h1, h2⟩
  have hv := (h x h1 h2).2
  unfold RightL RightP
  refine ⟨⟨by unfold okT; simp, by unfold okT; simp, by unfold okT; simp, by unfold okT; simp, hv⟩, .inr ⟨(by show 1 - (d : Int) = 0 ∨ 1 - (d : Int) = 1 ∨ 1 - (d : Int) = 5; omega), rfl, rfl, rfl, rfl, rfl⟩⟩

end Go.Proofs.Ytmncpcchdhieoaa
