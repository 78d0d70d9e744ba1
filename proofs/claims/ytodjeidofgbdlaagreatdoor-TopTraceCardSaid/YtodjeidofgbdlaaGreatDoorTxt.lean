/- Promises as a text. -/
import Derived.Test.YtodjeidofgbdlaaGreatDoorAwk
import Derived.Test.YtodjeidofgbdlaaGreatDoorBld
namespace Go.Proofs.YtodjeidofgbdlaaGreatDoor
open Go.ChangeShapes Go.WideShapes Go.ChangeAt Go.RowKit
set_option linter.unusedVariables false
set_option linter.unusedSimpArgs false

def Pr.cells (p : Pr) : List Value := [.int .i64 p.srv, .int .u32 p.adr, .string p.cli, .int .i64 p.frm, .int .i64 p.unt]
def Pr.fit (p : Pr) : Prop := 0 ≤ p.adr ∧ p.adr ≤ 4294967295
/-- A slice whose elements are these promises. -/
def PrsIn (w : World) (a : Option Addr) (n c : Nat) (ps : List Pr) : Prop :=
  ps.length = n ∧ (∀ p ∈ ps, p.fit) ∧ n ≤ c ∧ c ≤ maxLen ∧ (0 < n → ∃ g o, a = some ⟨g, o, none⟩ ∧ g < w.heap.size ∧ ∀ (j : Nat) p, ps[j]? = some p → ∀ (i : Nat) v, p.cells[i]? = some v → w.cell? ⟨g, o + (j * 5 + i), none⟩ = some v)
theorem PrsIn.keep {w w' : World} {a : Option Addr} {n c : Nat} {ps : List Pr} (h : PrsIn w a n c ps) (hb : Below w.heap.size w w') : PrsIn w' a n c ps := by
  obtain ⟨h1, h2, h3, h4, h5⟩ := h
  refine ⟨h1, h2, h3, h4, fun h0 => ?_⟩
  obtain ⟨g, o, rfl, hg, hc⟩ := h5 h0
  exact ⟨g, o, rfl, Nat.lt_of_lt_of_le hg hb.size, fun j p hp i v hv => (hb.cell hg).trans (hc j p hp i v hv)⟩
theorem PrsIn.low {W w w' : World} {a : Option Addr} {n c : Nat} {ps : List Pr} (h : PrsIn W a n c ps) (hb : Below W.heap.size W w) : PrsIn w a n c ps := h.keep hb
theorem PrsIn.at {w : World} {a : Option Addr} {n c : Nat} {ps : List Pr} (h : PrsIn w a n c ps) {k : Nat} {p : Pr} (hp : ps[k]? = some p) : ∃ g o, a = some ⟨g, o, none⟩ ∧
    w.cell? ⟨g, o + k * 5, none⟩ = some (.int .i64 p.srv) ∧ w.cell? ⟨g, o + k * 5 + 1, none⟩ = some (.int .u32 p.adr) ∧ w.cell? ⟨g, o + k * 5 + 2, none⟩ = some (.string p.cli) ∧ w.cell? ⟨g, o + k * 5 + 3, none⟩ = some (.int .i64 p.frm) ∧ w.cell? ⟨g, o + k * 5 + 4, none⟩ = some (.int .i64 p.unt) := by
  have hk := (List.getElem?_eq_some_iff.1 hp).1
  obtain ⟨g, o, rfl, hg, hc⟩ := h.2.2.2.2 (by have := h.1; omega)
  refine ⟨g, o, rfl, hc k p hp 0 _ rfl, ?_, ?_, ?_, ?_⟩
  · rw [Nat.add_assoc]; exact hc k p hp 1 _ rfl
  · rw [Nat.add_assoc]; exact hc k p hp 2 _ rfl
  · rw [Nat.add_assoc]; exact hc k p hp 3 _ rfl
  · rw [Nat.add_assoc]; exact hc k p hp 4 _ rfl
theorem PrsIn.fit {w : World} {a : Option Addr} {n c : Nat} {ps : List Pr} (h : PrsIn w a n c ps) {k : Nat} {p : Pr} (hp : ps[k]? = some p) : 0 ≤ p.adr ∧ p.adr ≤ 4294967295 := h.2.1 p (List.mem_of_getElem? hp)
/-- Promises as a text. -/
def textL : List Pr → List UInt8
  | [] => []
  | p :: ps => lineL p ++ 10 :: textL ps
theorem textL_snoc (ps : List Pr) (p : Pr) : textL (ps ++ [p]) = textL ps ++ (lineL p ++ [10]) := by
  induction ps with
  | nil => simp [textL]
  | cons q ps ih => simp only [List.cons_append, textL, ih, List.append_assoc]
theorem textL_append (ps qs : List Pr) : textL (ps ++ qs) = textL ps ++ textL qs := by
  induction ps with
  | nil => rfl
  | cons p ps ih => simp only [List.cons_append, textL, ih, List.append_assoc]
theorem textL_len (ps : List Pr) (h : ∀ p ∈ ps, rightPr p) (hf : ∀ p ∈ ps, p.fit) : (textL ps).length ≤ 131 * ps.length := by
  induction ps with
  | nil => exact Nat.le_refl _
  | cons p ps ih =>
    have h1 := ih (fun q hq => h q (.tail _ hq)) (fun q hq => hf q (.tail _ hq))
    have h2 := lineL_len (h p (.head _)) (by have := (hf p (.head _)); unfold Pr.fit at this; omega)
    simp only [textL, List.length_append, List.length_cons]
    omega
def textR (ps : List Pr) : ByteArray × Int := if ∀ p ∈ ps, rightPr p then (bl (textL ps), 0) else ({ data := #[] }, 1)
theorem ptake_more {ps : List Pr} {k : Nat} {p : Pr} (hp : ps[k]? = some p) : ps.take (k + 1) = ps.take k ++ [p] := by
  rw [List.take_add_one, hp]
  rfl
theorem right_more {ps : List Pr} {k : Nat} {p : Pr} (hp : ps[k]? = some p) (h : ∀ q ∈ ps.take k, rightPr q) (hr : rightPr p) : ∀ q ∈ ps.take (k + 1), rightPr q := by
  intro q hq
  rw [ptake_more hp] at hq
  rcases List.mem_append.1 hq with h1 | h1
  · exact h q h1
  · rw [List.mem_singleton.1 h1]; exact hr
theorem textR_no {ps : List Pr} {k : Nat} {p : Pr} (hp : ps[k]? = some p) (hr : ¬ rightPr p) : textR ps = ({ data := #[] }, 1) := by
  unfold textR
  rw [if_neg (fun h => hr (h p (List.mem_of_getElem? hp)))]
theorem textR_yes {ps : List Pr} {n : Nat} (hn : ps.length = n) (h : ∀ q ∈ ps.take n, rightPr q) : textR ps = (bl (textL (ps.take n)), 0) := by
  subst hn
  rw [List.take_length] at h ⊢
  unfold textR
  rw [if_pos h]
theorem keepB {T e : TypeId} {B b : Nat} {bs : List Value} {w w' : World} (h : Lib.IsBuilder T e B b bs w) (hb : Below w.heap.size w w') : Lib.IsBuilder T e B b bs w' := by
  have one : ∀ q, Lib.BuilderAt T e B b q bs w → Lib.BuilderAt T e B b q bs w' := by
    intro q hq
    have hlt := hq.lt
    obtain ⟨hB, v, hh, hown, hne⟩ := hq
    exact ⟨hB, v, (hb.block b hlt).trans hh, own_keep hown hb, hne⟩
  rcases h with h | h
  · exact .inl (one _ h)
  · exact .inr (one _ h)
theorem strCells_line (l : List UInt8) (p : Pr) : Lib.byteCells l ++ Lib.strCells (lineB p ++ { data := #[10] }) = Lib.byteCells (l ++ (lineL p ++ [10])) := by
  unfold Lib.strCells Lib.byteCells
  rw [app_data, List.map_append, List.map_append, List.map_append]
  unfold lineB
  simp

set_option maxRecDepth 100000 in
set_option maxHeartbeats 1000000 in
theorem ttext_any (a : Option Addr) (n c : Nat) (ps : List Pr) (w : World) (he : Env w) (hin : PrsIn w a n c ps) (hn : n ≤ 100) :
    Calls Tryz.prog 4 #[.slice a n c] w fun e w' => e = .returned (.tuple #[.string (textR ps).1, .int .i64 (textR ps).2]) ∧ Below w.heap.size w w' := by
  have HE := Lib.hid he
  have HIN := Lib.hid hin
  have hb0 := Lib.fresh_isBuilder 41 5 w
  have HLEN := Lib.hid hin.1
  clear he hin
  go_enter Tryz.func4, Tryz.ntmps4
  go_wp2
  go_loopw [11] (fun i wr => ∃ k : Nat, k ≤ n ∧ i = .int .i64 k ∧ (∀ q ∈ ps.take k, rightPr q) ∧ Lib.IsBuilder 41 5 w.heap.size w.heap.size (Lib.byteCells (textL (ps.take k))) wr ∧ Below w.heap.size w wr) (fun i _ => n - (intOf i).toNat)
  case atStart => exact ⟨0, by omega, rfl, by simp, hb0, low0 w _⟩
  case round =>
    obtain ⟨k, hk, rfl, hr, hbd, hb⟩ := hrel
    have HR := Lib.hid hr
    have HBD := Lib.hid hbd
    have HB := Lib.hid hb
    clear hr hbd hb hb0
    by_cases hlt : k < n
    · obtain ⟨p, hp⟩ : ∃ p, ps[k]? = some p := ⟨ps[k]'(by rw [HLEN.out]; exact hlt), List.getElem?_eq_getElem _⟩
      have HFIT := Lib.hid (HIN.out.fit hp)
      obtain ⟨g, o, rfl, z0, z1, z2, z3, z4⟩ := (HIN.out.keep HB.out).at hp
      have HP := Lib.hid hp
      clear hp
      obtain ⟨A, hA⟩ : ∃ A : World, A = wr.alloc (.cells #[.int .i64 p.srv, .int .u32 p.adr, .string p.cli, .int .i64 p.frm, .int .i64 p.unt] 29) := ⟨_, rfl⟩
      have HBA := Lib.hid (show Below w.heap.size w A from by rw [hA]; exact lowA HB.out _)
      have HBDA := Lib.hid (show Lib.IsBuilder 41 5 w.heap.size w.heap.size (Lib.byteCells (textL (ps.take k))) A from by rw [hA]; exact keepB HBD.out (low0 _ _))
      rw [hA] at HBA HBDA
      clear hA A
      obtain ⟨ps0, pa, pc, pf, pu⟩ := p
      simp only at z0 z1 z2 z3 z4 HFIT
      by_cases hrp : rightPr ⟨ps0, pa, pc, pf, pu⟩
      · have HL := Lib.hid (show ∀ w, Env w → Calls Tryz.prog 10 #[.agg #[.int .i64 ps0, .int .u32 pa, .string pc, .int .i64 pf, .int .i64 pu]] w fun e w' => e = .returned (.tuple #[.string (lineB ⟨ps0, pa, pc, pf, pu⟩), .int .i64 0]) ∧ Below w.heap.size w w' from fun w he => by
          have h := line_any ps0 pa pc pf pu HFIT.out w he
          unfold lineR at h
          rw [if_pos hrp] at h
          exact h)
        have HR2 := Lib.hid (right_more HP.out HR.out hrp)
        have HT := Lib.hid (show Lib.byteCells (textL (ps.take k)) ++ Lib.strCells (lineB ⟨ps0, pa, pc, pf, pu⟩ ++ { data := #[10] }) = Lib.byteCells (textL (ps.take (k + 1))) from by rw [strCells_line, ptake_more HP.out, textL_snoc])
        have z5 : (lineB ⟨ps0, pa, pc, pf, pu⟩).size ≤ 130 := by
          have h := lineL_len hrp (by have := HFIT.out; simp only; omega)
          unfold lineB
          simp [ByteArray.size]
          exact h
        have z6 : (Lib.byteCells (textL (ps.take k))).length ≤ 131 * 100 := by
          rw [Lib.byteCells_length]
          refine Nat.le_trans (textL_len _ HR.out (fun q hq => HIN.out.2.1 q (List.mem_of_mem_take hq))) ?_
          rw [List.length_take]
          omega
        have z7 : ({ data := #[10] } : ByteArray).size = 1 := rfl
        have z8 : (lineB ⟨ps0, pa, pc, pf, pu⟩ ++ { data := #[10] }).size ≤ 131 := by rw [ByteArray.size_append]; omega
        obtain ⟨ln, hln⟩ : ∃ x, lineB ⟨ps0, pa, pc, pf, pu⟩ = x := ⟨_, rfl⟩
        rw [hln] at HL HT z5 z8
        obtain ⟨bs, hbs⟩ : ∃ x, Lib.byteCells (textL (ps.take k)) = x := ⟨_, rfl⟩
        rw [hbs] at HBDA HT z6
        clear hrp hln hbs
        go_wp2_with (first | (go_at_call 10; (with_reducible refine (HL.out _ (HE.out.keep HBA.out)).mono ?_); rintro e w1 ⟨rfl, hx⟩; have HB1 := Lib.hid (low HBA.out hx); have HBD1 := Lib.hid (keepB HBDA.out hx); clear hx) | (go_at_call 11; (with_reducible refine (put_any w.heap.size w.heap.size bs (ln ++ { data := #[10] }) _ HBD1.out (by omega) HB1.out.size).mono ?_); rintro e w2 ⟨rfl, hx, hy⟩; have HB2 := Lib.hid (HB1.out.trans hy); have HBD2 := Lib.hid hx; clear hx hy))
        exact ⟨⟨k + 1, by omega, by go_num, HR2.out, by rw [← HT.out]; exact .inr HBD2.out, HB2.out⟩, by simp [intOf]; omega⟩
      · have HL := Lib.hid (show ∀ w, Env w → Calls Tryz.prog 10 #[.agg #[.int .i64 ps0, .int .u32 pa, .string pc, .int .i64 pf, .int .i64 pu]] w fun e w' => e = .returned (.tuple #[.string { data := #[] }, .int .i64 1]) ∧ Below w.heap.size w w' from fun w he => by
          have h := line_any ps0 pa pc pf pu HFIT.out w he
          unfold lineR at h
          rw [if_neg hrp] at h
          exact h)
        have HT := Lib.hid (textR_no HP.out hrp)
        clear hrp
        go_wp2_with (go_at_call 10; (with_reducible refine (HL.out _ (HE.out.keep HBA.out)).mono ?_); rintro e w1 ⟨rfl, hx⟩; have HB1 := Lib.hid (low HBA.out hx); clear hx)
        go_ret2
        exact ⟨by rw [HT.out]; rfl, HB1.out⟩
    · obtain rfl : k = n := by omega
      have HT := Lib.hid (textR_yes HLEN.out HR.out)
      obtain ⟨tl, htl⟩ : ∃ x, textL (ps.take k) = x := ⟨_, rfl⟩
      rw [htl] at HBD HT
      clear htl
      go_wp2_with (go_at_call 12; (with_reducible refine (told_any w.heap.size w.heap.size tl _ HBD.out HB.out.size).mono ?_); rintro e w1 ⟨rfl, hx⟩; have HB1 := Lib.hid (HB.out.trans hx); clear hx)
      go_ret2
      exact ⟨by rw [HT.out]; rfl, HB1.out⟩

end Go.Proofs.YtodjeidofgbdlaaGreatDoor
