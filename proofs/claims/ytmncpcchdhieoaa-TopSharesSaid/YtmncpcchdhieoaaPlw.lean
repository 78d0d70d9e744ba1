/- Giving, in plain words. -/
import Derived.Test.YtmncpcchdhieoaaChs
import Derived.Test.YtmncpcchdhieoaaAll
import Derived.Test.YtmncpcchdhieoaaNew
namespace Go.Proofs.Ytmncpcchdhieoaa
open Go.ChangeShapes Go.WideShapes Go.ChangeAt Go.RowKit
set_option linter.unusedVariables false
set_option linter.unusedSimpArgs false

open Flo (partV)

/-- How many of the pool's addresses are bound so. -/
def cnt (f : Int → Le) (bd : Int) : Nat := ints20.countP (fun a => decide ((f a).bind = bd))
theorem countL_cnt (f : Int → Le) (bd : Int) : countL f bd = cnt f bd := by
  unfold countL thoseL cnt
  rw [← List.countP_eq_length_filter, List.countP_map]
  rfl
/-- Each lease lies at its address, and its number may be. -/
def InvF (f : Int → Le) : Prop := ∀ a, 1 ≤ a → a ≤ 20 → (f a).adr = a ∧ okT (f a).ver
theorem inv_bare : InvF bareF := fun a _ _ => ⟨rfl, by unfold okT bareF; simp⟩
theorem inv_upd {f : Int → Le} (h : InvF f) {l : Le} (hr : okT l.ver) : InvF (upd f l.adr l) := fun a h1 h2 => by
  unfold upd
  split
  · next e => exact ⟨e.symm, hr⟩
  · exact h a h1 h2
theorem all_map (f : Int → Le) : thoseL f (fun _ => true) = ints20.map f := by
  unfold thoseL
  rw [List.filter_eq_self.2 (fun _ _ => rfl)]
/-- The addresses that are bound so, in order. -/
def adrs (f : Int → Le) (bd : Int) : List Int := ints20.filter (fun a => decide ((f a).bind = bd))
theorem adrs_len (f : Int → Le) (bd : Int) : (adrs f bd).length = cnt f bd := by
  unfold adrs cnt
  rw [List.countP_eq_length_filter]
theorem chL_all {f : Int → Le} (h : InvF f) {ls : List Le} (hp : ls.Perm (thoseL f (fun _ => true))) (bd : Int) : (chL bd ls).Perm (adrs f bd) := by
  rw [all_map] at hp
  have h1 : (chL bd ls).Perm (chL bd (ints20.map f)) := (hp.filter _).map _
  refine h1.trans ?_
  have h2 : chL bd (ints20.map f) = adrs f bd := by
    unfold chL adrs
    rw [List.filter_map, List.map_map]
    have h3 : ∀ l : List Int, (∀ a ∈ l, 1 ≤ a ∧ a ≤ 20) → l.map (Le.adr ∘ f) = l := by
      intro l
      induction l with
      | nil => intro _; rfl
      | cons a l ih =>
        intro hl
        rw [List.map_cons, ih (fun x hx => hl x (.tail _ hx))]
        have ha := hl a (.head _)
        have e := (h a ha.1 ha.2).1
        simp only [Function.comp_apply, e]
    rw [h3 _ (fun a ha => mem20.1 (List.mem_filter.1 ha).1)]
    rfl
  rw [h2]
theorem adrs_nodup (f : Int → Le) (bd : Int) : (adrs f bd).Nodup := nodup20.filter _
theorem adrs_mem {f : Int → Le} {bd x : Int} (h : x ∈ adrs f bd) : (1 ≤ x ∧ x ≤ 20) ∧ (f x).bind = bd := by
  unfold adrs at h
  have h1 := List.mem_filter.1 h
  exact ⟨mem20.1 h1.1, by simpa using h1.2⟩
/-- One address is given to the other one. -/
def give (id : Int) (f : Int → Le) (x : Int) : Int → Le := upd f x ⟨x, 1 - id, { data := #[] }, 0, 0, 0, 0, (f x).ver⟩
def gives (id : Int) (f : Int → Le) (xs : List Int) : Int → Le := xs.foldl (give id) f
theorem gives_more {id : Int} {f : Int → Le} {xs : List Int} {j : Nat} {x : Int} (h : xs[j]? = some x) : gives id f (xs.take (j + 1)) = give id (gives id f (xs.take j)) x := by
  unfold gives
  rw [List.take_add_one, h, List.foldl_append]
  rfl
theorem gives_other {id : Int} : ∀ (xs : List Int) (f : Int → Le) {x : Int}, x ∉ xs → gives id f xs x = f x
  | [], f, x, _ => rfl
  | y :: xs, f, x, h => by
    have h1 : x ≠ y := fun e => h (e ▸ .head _)
    have h2 := gives_other (id := id) xs (give id f y) (fun hx => h (.tail _ hx))
    show gives id (give id f y) xs x = f x
    rw [h2]
    unfold give upd
    rw [if_neg h1]
theorem give_inv {id : Int} {f : Int → Le} (h : InvF f) {x : Int} (h1 : 1 ≤ x) (h2 : x ≤ 20) : InvF (give id f x) :=
  inv_upd (l := ⟨x, 1 - id, { data := #[] }, 0, 0, 0, 0, (f x).ver⟩) h (h x h1 h2).2
theorem gives_inv {id : Int} : ∀ (xs : List Int) (f : Int → Le), InvF f → (∀ x ∈ xs, 1 ≤ x ∧ x ≤ 20) → InvF (gives id f xs)
  | [], f, h, _ => h
  | y :: xs, f, h, hx => gives_inv xs (give id f y) (give_inv h (hx y (.head _)).1 (hx y (.head _)).2) (fun z hz => hx z (.tail _ hz))
theorem not_before {xs : List Int} (hn : xs.Nodup) {j : Nat} {x : Int} (h : xs[j]? = some x) : x ∉ xs.take j := by
  intro hm
  obtain ⟨i, hi⟩ := List.getElem?_of_mem hm
  rw [List.getElem?_take] at hi
  split at hi
  · next hl =>
    obtain ⟨hj, ej⟩ := List.getElem?_eq_some_iff.1 h
    obtain ⟨hi2, ei⟩ := List.getElem?_eq_some_iff.1 hi
    exact List.pairwise_iff_getElem.1 hn i j hi2 hj hl (ei.trans ej.symm)
  · cases hi
/-- What one change does to a count. -/
theorem count_upd {p : Int → Bool} {q : Int → Bool} {x : Int} (h : ∀ a, a ≠ x → p a = q a) : ∀ (L : List Int), L.Nodup → x ∈ L → L.countP q + (p x).toNat = L.countP p + (q x).toNat
  | [], _, hx => by cases hx
  | a :: L, hn, hx => by
    have hn' := List.nodup_cons.1 hn
    by_cases e : a = x
    · subst e
      have hsame : L.countP q = L.countP p := by
        refine List.countP_congr (fun b hb => ?_)
        rw [h b (fun e => hn'.1 (e ▸ hb))]
      rw [List.countP_cons, List.countP_cons, hsame]
      cases p a <;> cases q a <;> simp
    · have hx' : x ∈ L := by
        rcases List.mem_cons.1 hx with h1 | h1
        · exact absurd h1.symm e
        · exact h1
      have ih := count_upd h L hn'.2 hx'
      rw [List.countP_cons, List.countP_cons, h a e]
      omega
theorem cnt_give {id : Int} {f : Int → Le} {x : Int} (hx : 1 ≤ x ∧ x ≤ 20) (hb : (f x).bind = id) (bd : Int) : cnt (give id f x) bd + (decide (id = bd)).toNat = cnt f bd + (decide (1 - id = bd)).toNat := by
  have h := count_upd (p := fun a => decide ((f a).bind = bd)) (q := fun a => decide ((give id f x a).bind = bd)) (x := x) (fun a ha => by
    unfold give upd
    simp only [if_neg ha]) ints20 nodup20 (mem20.2 hx)
  have e : (give id f x x).bind = 1 - id := by
    unfold give upd
    rw [if_pos rfl]
  simp only [hb, e] at h
  exact h
theorem cnt_gives {id : Int} (bd : Int) : ∀ (xs : List Int) (f : Int → Le), xs.Nodup → (∀ x ∈ xs, (1 ≤ x ∧ x ≤ 20) ∧ (f x).bind = id) → cnt (gives id f xs) bd + xs.length * (decide (id = bd)).toNat = cnt f bd + xs.length * (decide (1 - id = bd)).toNat
  | [], f, _, _ => by simp [gives]
  | x :: xs, f, hn, hx => by
    have hn' := List.nodup_cons.1 hn
    have h1 := cnt_give (hx x (.head _)).1 (hx x (.head _)).2 bd
    have ih := cnt_gives (id := id) bd xs (give id f x) hn'.2 (fun y hy => by
      refine ⟨(hx y (.tail _ hy)).1, ?_⟩
      have hne : y ≠ x := fun e => hn'.1 (e ▸ hy)
      unfold give upd
      rw [if_neg hne]
      exact (hx y (.tail _ hy)).2)
    show cnt (gives id (give id f x) xs) bd + (xs.length + 1) * _ = cnt f bd + (xs.length + 1) * _
    rw [Nat.add_mul, Nat.add_mul]
    omega
/-- Behind both servers' gifts neither gives more. -/
theorem gives_done {F B : Int} {p q : Nat} (hp : p < 2 ^ 64) (hF : 0 ≤ F) (hB : 0 ≤ B) {F1 B1 F2 B2 : Int} (e1 : F1 = F - givesV 0 F B p q) (e2 : B1 = B + givesV 0 F B p q) (e3 : F2 = F1 + givesV 1 F1 B1 p q) (e4 : B2 = B1 - givesV 1 F1 B1 p q) :
    givesV 0 F2 B2 p q = 0 ∧ givesV 1 F2 B2 p q = 0 := by
  have hP := Flo.part_range (F + B) hp
  by_cases m0 : moreB F B p q = true
  · by_cases hlt : B < partV (F + B) p
    · have g0 : givesV 0 F B p q = partV (F + B) p - B := by
        unfold givesV
        rw [if_pos m0, if_pos rfl]
        omega
      have hT : F1 + B1 = F + B := by omega
      have hB1 : B1 = partV (F + B) p := by omega
      have g1 : givesV 1 F1 B1 p q = 0 := by
        unfold givesV
        rw [hT]
        split
        · simp; omega
        · rfl
      have hF2 : F2 = F1 := by omega
      have hB2 : B2 = B1 := by omega
      rw [hF2, hB2]
      refine ⟨?_, g1⟩
      unfold givesV
      rw [hT]
      split
      · simp; omega
      · rfl
    · have g0 : givesV 0 F B p q = 0 := by
        unfold givesV
        rw [if_pos m0, if_pos rfl]
        omega
      have hF1 : F1 = F := by omega
      have hB1 : B1 = B := by omega
      rw [hF1, hB1] at e3 e4
      have g1 : givesV 1 F B p q = B - partV (F + B) p := by
        unfold givesV
        rw [if_pos m0, if_neg (by decide)]
        omega
      have hT : F2 + B2 = F + B := by omega
      have hB2 : B2 = partV (F + B) p := by omega
      constructor
      · unfold givesV
        rw [hT]
        split
        · simp; omega
        · rfl
      · unfold givesV
        rw [hT]
        split
        · simp; omega
        · rfl
  · have g0 : ∀ id, givesV id F B p q = 0 := fun id => by
      unfold givesV
      rw [if_neg m0]
    rw [g0 0] at e1 e2
    have hF1 : F1 = F := by omega
    have hB1 : B1 = B := by omega
    rw [hF1, hB1, g0 1] at e3 e4
    have hF2 : F2 = F := by omega
    have hB2 : B2 = B := by omega
    rw [hF2, hB2]
    exact ⟨g0 0, g0 1⟩

end Go.Proofs.Ytmncpcchdhieoaa
