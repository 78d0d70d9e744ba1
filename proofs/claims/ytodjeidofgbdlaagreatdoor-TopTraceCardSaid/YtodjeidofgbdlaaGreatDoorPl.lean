/- Promises as lines: the plain side, no program in sight: numerals, figures of 16, addresses as text, words. -/
import Derived.Lib.ItoaNum
import Derived.Lib.ParseIntB
import Derived.Lib.SplitLaws
import Derived.Lib.Strings
namespace Go.Proofs.YtodjeidofgbdlaaGreatDoor
open Go.Lib
set_option linter.unusedVariables false
set_option linter.unusedSimpArgs false

/-! Numerals. -/
def isDig (b : UInt8) : Prop := 48 ≤ b.toNat ∧ b.toNat ≤ 57
theorem dig_toNat {n : Nat} (h : n < 10) : (UInt8.ofNat (48 + n)).toNat = 48 + n := by
  rw [UInt8.toNat_ofNat']
  omega
theorem dig_isDig {n : Nat} (h : n < 10) : isDig (UInt8.ofNat (48 + n)) := by
  unfold isDig
  rw [dig_toNat h]
  omega
theorem dec_small {u : Nat} (h : u < 10) : decDigits u = [UInt8.ofNat (48 + u)] := by rw [decDigits, dif_pos h]
theorem dec_big {u : Nat} (h : ¬ u < 10) : decDigits u = decDigits (u / 10) ++ [UInt8.ofNat (48 + u % 10)] := by rw [decDigits, dif_neg h]
theorem dec_dig (u : Nat) : ∀ b ∈ decDigits u, isDig b := by
  induction u using Nat.strongRecOn with
  | _ u ih =>
    intro b hb
    by_cases h : u < 10
    · rw [dec_small h, List.mem_singleton] at hb
      subst hb
      exact dig_isDig h
    · rw [dec_big h, List.mem_append, List.mem_singleton] at hb
      rcases hb with hb | rfl
      · exact ih (u / 10) (by omega) b hb
      · exact dig_isDig (by omega)
theorem dec_ne (u : Nat) : decDigits u ≠ [] := by
  by_cases h : u < 10
  · rw [dec_small h]; simp
  · rw [dec_big h]; simp
theorem dec_len : ∀ (k u : Nat), u < 10 ^ (k + 1) → (decDigits u).length ≤ k + 1
  | 0, u, h => by rw [dec_small (by simpa using h)]; simp
  | k + 1, u, h => by
    by_cases h0 : u < 10
    · rw [dec_small h0]; simp
    · rw [dec_big h0, List.length_append, List.length_singleton]
      have := dec_len k (u / 10) (by rw [Nat.pow_succ] at h; omega)
      omega
theorem dec_len13 {u : Nat} (h : u ≤ 1099511627776) : (decDigits u).length ≤ 13 := dec_len 12 u (by omega)
theorem dec_len3 {u : Nat} (h : u ≤ 255) : (decDigits u).length ≤ 3 := dec_len 2 u (by omega)
/-- The value of figures. -/
def dval (acc : Nat) (l : List UInt8) : Nat := l.foldl (fun n b => n * 10 + (b.toNat - 48)) acc
theorem dval_dec (u : Nat) : dval 0 (decDigits u) = u := by
  induction u using Nat.strongRecOn with
  | _ u ih =>
    by_cases h : u < 10
    · rw [dec_small h]
      simp only [dval, List.foldl_cons, List.foldl_nil]
      rw [dig_toNat h]
      omega
    · rw [dec_big h]
      have := ih (u / 10) (by omega)
      unfold dval at *
      rw [List.foldl_append, this]
      simp only [List.foldl_cons, List.foldl_nil]
      rw [dig_toNat (by omega)]
      omega
theorem dval_mono (l : List UInt8) : ∀ acc, acc ≤ dval acc l := by
  induction l with
  | nil => intro acc; exact Nat.le_refl _
  | cons b l ih =>
    intro acc
    have := ih (acc * 10 + (b.toNat - 48))
    simp only [dval, List.foldl_cons] at *
    omega
theorem parseUintM_dig (M : Nat) (hM : M < 18446744073709551616) : ∀ (l : List UInt8) (acc : Nat), (∀ b ∈ l, isDig b) → dval acc l ≤ M → dval acc l ≤ 1152921504606846975 → parseUintM M acc l = .ok (dval acc l)
  | [], acc, _, _, _ => rfl
  | c :: r, acc, hd, h1, h2 => by
    have hc := hd c (.head _)
    have hm := dval_mono r (acc * 10 + (c.toNat - 48))
    have e : dval acc (c :: r) = dval (acc * 10 + (c.toNat - 48)) r := rfl
    rw [e] at h1 h2 ⊢
    unfold parseUintM
    unfold isDig at hc
    rw [if_pos hc, if_neg (by omega), if_neg (by omega)]
    exact parseUintM_dig M hM r _ (fun b hb => hd b (.tail _ hb)) h1 h2
theorem parseInt_dec {n : Nat} (h : n ≤ 1099511627776) : parseIntB 64 (decDigits n) = .ok (n : Int) := by
  have hd := dec_dig n
  have hv := dval_dec n
  have hne := dec_ne n
  generalize decDigits n = l at *
  cases l with
  | nil => exact absurd rfl hne
  | cons c r =>
    have hc := hd c (.head _)
    unfold isDig at hc
    have hu : parseUintB 64 (c :: r) = .ok n := by
      unfold parseUintB
      rw [if_neg (by simp), parseUintM_dig _ (by decide) _ _ hd (by rw [hv]; simp; omega) (by rw [hv]; omega), hv]
    have h45 : ¬ c.toNat = 45 := by omega
    have h43 : ¬ c.toNat = 43 := by omega
    unfold parseIntB
    simp only [h43, h45, or_self, if_false, hu]
    rw [if_neg (by simp; omega), if_neg (by simp)]
theorem itoa_nat (n : Nat) : itoa (n : Int) = decDigits n := by
  unfold itoa
  rw [if_neg (by omega)]
  rfl

/-! Figures of 16. -/
def fig (n : Nat) : UInt8 := UInt8.ofNat (if n < 10 then 48 + n else 87 + n)
theorem fig_toNat {n : Nat} (h : n < 16) : (fig n).toNat = if n < 10 then 48 + n else 87 + n := by
  unfold fig
  rw [UInt8.toNat_ofNat']
  split <;> omega
theorem fig_inj {n m : Nat} (hn : n < 16) (hm : m < 16) (h : fig n = fig m) : n = m := by
  have := congrArg UInt8.toNat h
  rw [fig_toNat hn, fig_toNat hm] at this
  split at this <;> split at this <;> omega
def hexL (c : List UInt8) : List UInt8 := c.flatMap fun b => [fig (b.toNat / 16), fig (b.toNat % 16)]
theorem hexL_nil : hexL [] = [] := rfl
theorem hexL_cons (b : UInt8) (c : List UInt8) : hexL (b :: c) = fig (b.toNat / 16) :: fig (b.toNat % 16) :: hexL c := rfl
theorem hexL_length (c : List UInt8) : (hexL c).length = 2 * c.length := by
  induction c with
  | nil => rfl
  | cons b c ih => rw [hexL_cons, List.length_cons, List.length_cons, ih, List.length_cons]; omega
theorem hexL_append (a b : List UInt8) : hexL (a ++ b) = hexL a ++ hexL b := by
  unfold hexL
  rw [List.flatMap_append]
/-- A figure of 16 is no blank, no dot, no line's end. -/
theorem fig_big {n : Nat} (h : n < 16) : 48 ≤ (fig n).toNat := by
  rw [fig_toNat h]
  split <;> omega
theorem hexL_big (c : List UInt8) : ∀ b ∈ hexL c, 48 ≤ b.toNat := by
  intro b hb
  unfold hexL at hb
  rw [List.mem_flatMap] at hb
  obtain ⟨x, _, hx⟩ := hb
  have := x.toNat_lt
  simp only [List.mem_cons, List.not_mem_nil, or_false] at hx
  rcases hx with rfl | rfl
  · exact fig_big (by omega)
  · exact fig_big (by omega)

/-! Addresses. -/
def addrL (a : Nat) : List UInt8 := decDigits (a / 16777216) ++ 46 :: (decDigits (a / 65536 % 256) ++ 46 :: (decDigits (a / 256 % 256) ++ 46 :: decDigits (a % 256)))
theorem addrL_len {a : Nat} (h : a < 4294967296) : (addrL a).length ≤ 15 := by
  unfold addrL
  have h1 := dec_len3 (u := a / 16777216) (by omega)
  have h2 := dec_len3 (u := a / 65536 % 256) (by omega)
  have h3 := dec_len3 (u := a / 256 % 256) (by omega)
  have h4 := dec_len3 (u := a % 256) (by omega)
  simp only [List.length_append, List.length_cons]
  omega
theorem addrL_big (a : Nat) : ∀ b ∈ addrL a, 46 ≤ b.toNat := by
  intro b hb
  unfold addrL at hb
  simp only [List.mem_append, List.mem_cons] at hb
  have hd : ∀ u, b ∈ decDigits u → 46 ≤ b.toNat := fun u h => by have := dec_dig u b h; unfold isDig at this; omega
  rcases hb with h | rfl | h | rfl | h | rfl | h
  all_goals (first | exact hd _ h | decide)

/-! Lines. -/
structure Pr where
  srv : Int
  adr : Int
  cli : ByteArray
  frm : Int
  unt : Int
def Pr.val (p : Pr) : Value := .agg #[.int .i64 p.srv, .int .u32 p.adr, .string p.cli, .int .i64 p.frm, .int .i64 p.unt]
def zeroPr : Pr := ⟨0, 0, { data := #[] }, 0, 0⟩
/-- May a promise be? -/
def rightPr (p : Pr) : Prop := (0 ≤ p.srv ∧ p.srv ≤ 1) ∧ (1 ≤ p.cli.size ∧ p.cli.size ≤ 32) ∧ 0 ≤ p.frm ∧ p.frm ≤ p.unt ∧ p.unt ≤ 1099511627776
instance (p : Pr) : Decidable (rightPr p) := by unfold rightPr; infer_instance
def lineL (p : Pr) : List UInt8 := decDigits p.srv.toNat ++ 32 :: (addrL p.adr.toNat ++ 32 :: (hexL p.cli.data.toList ++ 32 :: (decDigits p.frm.toNat ++ 32 :: decDigits p.unt.toNat)))
def lineB (p : Pr) : ByteArray := ⟨(lineL p).toArray⟩
theorem lineL_len {p : Pr} (h : rightPr p) (ha : p.adr.toNat < 4294967296) : (lineL p).length ≤ 130 := by
  obtain ⟨h1, h2, h3, h4, h5⟩ := h
  unfold lineL
  have k1 := dec_len3 (u := p.srv.toNat) (by omega)
  have k2 := addrL_len ha
  have k3 := hexL_length p.cli.data.toList
  have k4 := dec_len13 (u := p.frm.toNat) (by omega)
  have k5 := dec_len13 (u := p.unt.toNat) (by omega)
  have k6 : p.cli.data.toList.length = p.cli.size := Array.length_toList
  simp only [List.length_append, List.length_cons]
  omega

/-! Words. -/
/-- A list cut at each of a byte. -/
def cutsL (c : UInt8) : List UInt8 → List (List UInt8)
  | [] => [[]]
  | b :: l => if b = c then [] :: cutsL c l else match cutsL c l with
    | [] => [[b]]
    | w :: ws => (b :: w) :: ws
theorem cutsL_ne (c : UInt8) (l : List UInt8) : cutsL c l ≠ [] := by
  cases l with
  | nil => simp [cutsL]
  | cons b l => unfold cutsL; split; simp; split <;> simp
theorem cutsL_none (c : UInt8) (w : List UInt8) (h : ∀ b ∈ w, b ≠ c) : cutsL c w = [w] := by
  induction w with
  | nil => rfl
  | cons b w ih => unfold cutsL; rw [if_neg (h b (.head _)), ih (fun x hx => h x (.tail _ hx))]
theorem cutsL_word (c : UInt8) (w r : List UInt8) (h : ∀ b ∈ w, b ≠ c) : cutsL c (w ++ c :: r) = w :: cutsL c r := by
  induction w with
  | nil => simp [cutsL]
  | cons b w ih =>
    rw [List.cons_append]
    rw [cutsL, if_neg (h b (.head _)), ih (fun x hx => h x (.tail _ hx))]
theorem dec_no {c : UInt8} (hc : c.toNat < 48) (u : Nat) : ∀ b ∈ decDigits u, b ≠ c := fun b hb e => by have := dec_dig u b hb; unfold isDig at this; subst e; omega
theorem lineL_cuts (p : Pr) : cutsL 32 (lineL p) = [decDigits p.srv.toNat, addrL p.adr.toNat, hexL p.cli.data.toList, decDigits p.frm.toNat, decDigits p.unt.toNat] := by
  unfold lineL
  have h32 : (32 : UInt8).toNat < 48 := by decide
  rw [cutsL_word _ _ _ (dec_no h32 _), cutsL_word _ _ _ (fun b hb e => by have := addrL_big _ b hb; subst e; exact absurd this (by decide)), cutsL_word _ _ _ (fun b hb e => by have := hexL_big _ b hb; subst e; exact absurd this (by decide)), cutsL_word _ _ _ (dec_no h32 _), cutsL_none _ _ (dec_no h32 _)]
theorem addrL_cuts (a : Nat) : cutsL 46 (addrL a) = [decDigits (a / 16777216), decDigits (a / 65536 % 256), decDigits (a / 256 % 256), decDigits (a % 256)] := by
  unfold addrL
  have h : (46 : UInt8).toNat < 48 := by decide
  rw [cutsL_word _ _ _ (dec_no h _), cutsL_word _ _ _ (dec_no h _), cutsL_word _ _ _ (dec_no h _), cutsL_none _ _ (dec_no h _)]
theorem dec_inj {u v : Nat} (h : decDigits u = decDigits v) : u = v := by rw [← dval_dec u, h, dval_dec]
theorem addrL_inj {a b : Nat} (h : addrL a = addrL b) : a = b := by
  have e := congrArg (cutsL 46) h
  rw [addrL_cuts, addrL_cuts] at e
  simp only [List.cons.injEq, and_true] at e
  obtain ⟨e1, e2, e3, e4⟩ := e
  have := dec_inj e1
  have := dec_inj e2
  have := dec_inj e3
  have := dec_inj e4
  omega
theorem hexL_inj : ∀ {c d : List UInt8}, hexL c = hexL d → c = d
  | [], [], _ => rfl
  | [], b :: d, h => by rw [hexL_nil, hexL_cons] at h; cases h
  | b :: c, [], h => by rw [hexL_nil, hexL_cons] at h; cases h
  | b :: c, e :: d, h => by
    rw [hexL_cons, hexL_cons] at h
    simp only [List.cons.injEq] at h
    have hb := b.toNat_lt
    have he := e.toNat_lt
    have h1 := fig_inj (by omega) (by omega) h.1
    have h2 := fig_inj (by omega) (by omega) h.2.1
    rw [hexL_inj h.2.2, UInt8.toNat_inj.1 (show b.toNat = e.toNat by omega)]
/-- Two promises that may be, and have one line, are one. -/
theorem lineL_inj {p q : Pr} (hp : rightPr p) (hq : rightPr q) (hpa : 0 ≤ p.adr) (hqa : 0 ≤ q.adr) (h : lineL p = lineL q) : p = q := by
  have e := congrArg (cutsL 32) h
  rw [lineL_cuts, lineL_cuts] at e
  simp only [List.cons.injEq, and_true] at e
  obtain ⟨e1, e2, e3, e4, e5⟩ := e
  have := dec_inj e1
  have := addrL_inj e2
  have h3 := hexL_inj e3
  have := dec_inj e4
  have := dec_inj e5
  obtain ⟨s, a, c, f, u⟩ := p
  obtain ⟨s', a', c', f', u'⟩ := q
  obtain ⟨⟨h1, _⟩, _, h4, h5, _⟩ := hp
  obtain ⟨⟨k1, _⟩, _, k4, k5, _⟩ := hq
  simp only at *
  have hc : c = c' := by
    cases c; cases c'
    simp only at h3
    rw [Array.toList_inj.1 h3]
  subst hc
  obtain rfl : s = s' := by omega
  obtain rfl : a = a' := by omega
  obtain rfl : f = f' := by omega
  obtain rfl : u = u' := by omega
  rfl
/-- What a parser of lines answers: the promise whose line it is, if there is one. -/
def ParseOf (s : ByteArray) (r : Pr × Int) : Prop :=
  (∃ p : Pr, rightPr p ∧ 0 ≤ p.adr ∧ p.adr ≤ 4294967295 ∧ s = lineB p ∧ r = (p, 0)) ∨ ((∀ p : Pr, rightPr p → 0 ≤ p.adr → p.adr ≤ 4294967295 → s ≠ lineB p) ∧ r = (zeroPr, 2))
theorem lineB_inj {p q : Pr} (hp : rightPr p) (hq : rightPr q) (hpa : 0 ≤ p.adr) (hqa : 0 ≤ q.adr) (h : lineB p = lineB q) : p = q := by
  apply lineL_inj hp hq hpa hqa
  unfold lineB at h
  have := congrArg (fun b : ByteArray => b.data.toList) h
  simpa using this
theorem ParseOf.same {s : ByteArray} {r t : Pr × Int} (h1 : ParseOf s r) (h2 : ParseOf s t) : r = t := by
  rcases h1 with ⟨p, hp, ha, ha2, hs, rfl⟩ | ⟨hn, rfl⟩
  · rcases h2 with ⟨q, hq, hb, hb2, ht, rfl⟩ | ⟨hn, rfl⟩
    · rw [lineB_inj hp hq ha hb (hs.symm.trans ht)]
    · exact absurd hs (hn p hp ha ha2)
  · rcases h2 with ⟨q, hq, hb, hb2, ht, rfl⟩ | ⟨_, rfl⟩
    · exact absurd ht (hn q hq hb hb2)
    · rfl
/-- What a parser of addresses answers. -/
def AddrOf (s : ByteArray) (r : Int × Int) : Prop :=
  (∃ a : Nat, a < 4294967296 ∧ s.data.toList = addrL a ∧ r = ((a : Int), 0)) ∨ ((∀ a : Nat, a < 4294967296 → s.data.toList ≠ addrL a) ∧ r = (0, 2))

/-- The library's split at one byte is the plain one. -/
theorem split_cuts (c : UInt8) : ∀ s : List UInt8, split s [c] = cutsL c s
  | [] => by
    unfold split
    rw [count_one]
    rfl
  | b :: l => by
    have ih := split_cuts c l
    unfold split at *
    rw [count_one] at *
    unfold cutsL
    by_cases h : b = c
    · subst h
      rw [if_pos rfl, ← ih, List.count_cons_self]
      have hix : index (b :: l) [b] = 0 := by unfold index; simp [List.isPrefixOf]
      rw [splitK, hix]
      simp
    · rw [if_neg h, ← ih, List.count_cons_of_ne (by simpa using h)]
      have hp : ([c] : List UInt8).isPrefixOf (b :: l) = false := by simp [List.isPrefixOf, Ne.symm h]
      have hix : index (b :: l) [c] = if index l [c] == -1 then -1 else index l [c] + 1 := by rw [index, hp]; simp
      cases hk : l.count c with
      | zero => rfl
      | succ k =>
        unfold splitK
        rw [hix]
        by_cases hm : index l [c] = -1
        · rw [hm]
          simp
        · have hge := index_ge l [c]
          have e2 : (index l [c] == -1) = false := by simpa using hm
          have e1 : (index l [c] + 1 == -1) = false := beq_eq_false_iff_ne.2 (by omega)
          have e3 : (index l [c] + 1).toNat = (index l [c]).toNat + 1 := by omega
          simp only [e2, e1, Bool.false_eq_true, if_false, Nat.add_zero, e3]
          simp [Nat.add_right_comm]

end Go.Proofs.YtodjeidofgbdlaaGreatDoor
