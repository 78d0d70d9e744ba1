/- Reading a text: the plain side; parsing as a function. -/
import Derived.Test.YtodjeidofgbdlaaGreatDoorTxt
namespace Go.Proofs.YtodjeidofgbdlaaGreatDoor
open Go.ChangeShapes Go.WideShapes Go.ChangeAt Go.RowKit
set_option linter.unusedVariables false
set_option linter.unusedSimpArgs false

open Classical in
/-- The promise whose line it is, if there is one. -/
noncomputable def parseF (s : ByteArray) : Option Pr := if h : ∃ p : Pr, rightPr p ∧ 0 ≤ p.adr ∧ p.adr ≤ 4294967295 ∧ s = lineB p then some (Classical.choose h) else none
theorem parseF_some {s : ByteArray} {p : Pr} (h : parseF s = some p) : rightPr p ∧ p.fit ∧ s = lineB p := by
  unfold parseF at h
  split at h
  · next hx =>
    have := Classical.choose_spec hx
    obtain rfl := Option.some.inj h
    exact ⟨this.1, ⟨this.2.1, this.2.2.1⟩, this.2.2.2⟩
  · cases h
theorem parseF_line {p : Pr} (hp : rightPr p) (hf : p.fit) : parseF (lineB p) = some p := by
  have hx : ∃ q : Pr, rightPr q ∧ 0 ≤ q.adr ∧ q.adr ≤ 4294967295 ∧ lineB p = lineB q := ⟨p, hp, hf.1, hf.2, rfl⟩
  unfold parseF
  rw [dif_pos hx]
  have h := Classical.choose_spec hx
  exact congrArg some (lineB_inj hp h.1 hf.1 h.2.1 h.2.2.2).symm
theorem parseF_none {s : ByteArray} (h : parseF s = none) : ∀ p : Pr, rightPr p → 0 ≤ p.adr → p.adr ≤ 4294967295 → s ≠ lineB p := by
  intro p hp h0 h1 e
  rw [e, parseF_line hp ⟨h0, h1⟩] at h
  cases h
noncomputable def parseV (s : ByteArray) : Pr × Int := match parseF s with
  | some p => (p, 0)
  | none => (zeroPr, 2)
theorem parseV_of (s : ByteArray) : ParseOf s (parseV s) := by
  unfold parseV
  cases h : parseF s with
  | none => exact .inr ⟨parseF_none h, rfl⟩
  | some p =>
    obtain ⟨h1, h2, h3⟩ := parseF_some h
    exact .inl ⟨p, h1, h2.1, h2.2, h3, rfl⟩
theorem tparse_v (s : ByteArray) (hs : s.size ≤ 100000) (w : World) (he : Env w) : Calls Tryz.prog 14 #[.string s] w fun e w' => e = .returned (.tuple #[(parseV s).1.val, .int .i64 (parseV s).2]) ∧ Below w.heap.size w w' := by
  refine (parse_any s hs w he).mono ?_
  rintro e w' ⟨r, rfl, h2, hb⟩
  rw [h2.same (parseV_of s)]
  exact ⟨rfl, hb⟩
/-- No line is a line's end alone, or empty. -/
theorem line_no10 (p : Pr) : ∀ b ∈ lineL p, b ≠ 10 := by
  intro b hb e
  subst e
  unfold lineL at hb
  have h10 : (10 : UInt8).toNat < 48 := by decide
  simp only [List.mem_append, List.mem_cons] at hb
  rcases hb with h | h | h | h | h | h | h | h | h
  · exact dec_no h10 _ _ h rfl
  · exact absurd h (by decide)
  · exact absurd (addrL_big _ _ h) (by decide)
  · exact absurd h (by decide)
  · exact absurd (hexL_big _ _ h) (by decide)
  · exact absurd h (by decide)
  · exact dec_no h10 _ _ h rfl
  · exact absurd h (by decide)
  · exact dec_no h10 _ _ h rfl
theorem parse_end : parseF ({ data := #[10] } : ByteArray) = none := by
  cases h : parseF ({ data := #[10] } : ByteArray) with
  | none => rfl
  | some p =>
    obtain ⟨_, _, h3⟩ := parseF_some h
    have : (10 : UInt8) ∈ lineL p := by
      have := congrArg (fun b : ByteArray => b.data.toList) h3
      unfold lineB at this
      simp at this
      rw [← this]
      exact .head _
    exact absurd rfl (line_no10 p _ this)
/-- What reading answers: so far the promises acc, at line no, with what is left, cut at the ends of lines. -/
noncomputable def readA : List Pr → Nat → List (List UInt8) → List Pr × Int × Int
  | acc, _, [] => (acc, 0, 0)
  | acc, no, [c] => if c = [] then (acc, 0, 0) else ([], no, 2)
  | acc, no, c :: d :: cs => match parseF (bl c) with
    | none => ([], no, 2)
    | some p => readA (acc ++ [p]) (no + 1) (d :: cs)
noncomputable def readR (s : ByteArray) : List Pr × Int × Int := readA [] 1 (cutsL 10 s.data.toList)
theorem readA_end (acc : List Pr) (no : Nat) : readA acc no [[]] = (acc, 0, 0) := by rw [readA, if_pos rfl]
theorem readA_open {c : List UInt8} (acc : List Pr) (no : Nat) (h : c ≠ []) : readA acc no [c] = ([], (no : Int), 2) := by rw [readA, if_neg h]
theorem readA_cons {cs : List (List UInt8)} (acc : List Pr) (no : Nat) (c : List UInt8) (h : cs ≠ []) : readA acc no (c :: cs) = match parseF (bl c) with
    | none => ([], (no : Int), 2)
    | some p => readA (acc ++ [p]) (no + 1) cs := by
  cases cs with
  | nil => exact absurd rfl h
  | cons d cs => rw [readA]
/-- A chunk that ends here. -/
theorem readA_word {u r : List UInt8} (acc : List Pr) (no : Nat) (h : ∀ b ∈ u, b ≠ 10) : readA acc no (cutsL 10 (u ++ 10 :: r)) = match parseF (bl u) with
    | none => ([], (no : Int), 2)
    | some p => readA (acc ++ [p]) (no + 1) (cutsL 10 r) := by
  rw [cutsL_word _ _ _ h, readA_cons _ _ _ (cutsL_ne _ _)]
theorem readA_last {u : List UInt8} (acc : List Pr) (no : Nat) (h : ∀ b ∈ u, b ≠ 10) : readA acc no (cutsL 10 u) = if u = [] then (acc, 0, 0) else ([], (no : Int), 2) := by
  rw [cutsL_none _ _ h, readA]
/-- A text of promises is read as they are. -/
theorem readA_text : ∀ (ps acc : List Pr) (no : Nat) (r : List UInt8), (∀ p ∈ ps, rightPr p) → (∀ p ∈ ps, p.fit) → readA acc no (cutsL 10 (textL ps ++ r)) = readA (acc ++ ps) (no + ps.length) (cutsL 10 r)
  | [], acc, no, r, _, _ => by simp [textL]
  | p :: ps, acc, no, r, h, hf => by
    rw [textL, List.append_assoc, List.cons_append, readA_word _ _ (line_no10 p)]
    have e : bl (lineL p) = lineB p := rfl
    rw [e, parseF_line (h p (.head _)) (hf p (.head _))]
    simp only
    rw [readA_text ps _ _ r (fun q hq => h q (.tail _ hq)) (fun q hq => hf q (.tail _ hq)), List.append_assoc, List.length_cons]
    simp [Nat.add_comm, Nat.add_left_comm]
theorem readR_text {ps : List Pr} (h : ∀ p ∈ ps, rightPr p) (hf : ∀ p ∈ ps, p.fit) : readR (bl (textL ps)) = (ps, 0, 0) := by
  unfold readR
  rw [bl_data]
  have := readA_text ps [] 1 [] h hf
  rw [List.append_nil] at this
  rw [this]
  show readA ([] ++ ps) _ [[]] = _
  rw [readA_end, List.nil_append]
/-- A line that is none between two texts: its number is told. -/
theorem readR_bad {ps : List Pr} {s : ByteArray} {t : List UInt8} (h : ∀ p ∈ ps, rightPr p) (hf : ∀ p ∈ ps, p.fit) (hs : ∀ b ∈ s.data.toList, b ≠ 10) (hn : parseF s = none) : readR (bl (textL ps ++ (s.data.toList ++ 10 :: t))) = ([], (ps.length : Int) + 1, 2) := by
  unfold readR
  rw [bl_data, readA_text ps [] 1 _ h hf, readA_word _ _ hs, bl_of, hn]
  simp only
  congr 2
  omega

/-- The lines of a text by their numbers, as the iterator hands them over: the last one, if no end is behind it, as an end alone. -/
def linesP : Nat → List (List UInt8) → List (Nat × ByteArray)
  | _, [] => []
  | no, [c] => if c = [] then [] else [(no, { data := #[10] })]
  | no, c :: d :: cs => (no, bl c) :: linesP (no + 1) (d :: cs)
theorem linesP_cons {cs : List (List UInt8)} (no : Nat) (c : List UInt8) (h : cs ≠ []) : linesP no (c :: cs) = (no, bl c) :: linesP (no + 1) cs := by
  cases cs with
  | nil => exact absurd rfl h
  | cons d cs => rw [linesP]
/-- All lines are some promises'. -/
theorem linesP_all : ∀ (cs : List (List UInt8)) (no : Nat) (acc ps : List Pr), cs ≠ [] → (linesP no cs).map (fun x => parseF x.2) = ps.map some → readA acc no cs = (acc ++ ps, 0, 0)
  | [], _, _, _, h, _ => absurd rfl h
  | [c], no, acc, ps, _, hm => by
    by_cases hc : c = []
    · subst hc
      rw [linesP, if_pos rfl] at hm
      have : ps = [] := by cases ps with
        | nil => rfl
        | cons _ _ => simp at hm
      rw [this, readA_end, List.append_nil]
    · rw [linesP, if_neg hc] at hm
      cases ps with
      | nil => simp at hm
      | cons p ps =>
        simp only [List.map_cons, List.map_nil, List.cons.injEq] at hm
        rw [parse_end] at hm
        cases hm.1
  | c :: d :: cs, no, acc, ps, _, hm => by
    rw [linesP] at hm
    cases ps with
    | nil => simp at hm
    | cons p ps =>
      simp only [List.map_cons, List.cons.injEq] at hm
      rw [readA, hm.1]
      simp only
      rw [linesP_all (d :: cs) (no + 1) (acc ++ [p]) ps (by simp) hm.2, List.append_assoc]
      rfl
/-- Some lines are promises', the one behind them is none. -/
theorem linesP_bad : ∀ (cs : List (List UInt8)) (no : Nat) (acc ps : List Pr) (pre : List (Nat × ByteArray)) (x : Nat × ByteArray), pre ++ [x] <+: linesP no cs → pre.map (fun y => parseF y.2) = ps.map some → parseF x.2 = none → readA acc no cs = ([], (x.1 : Int), 2)
  | [], no, acc, ps, pre, x, h, _, _ => by
    rw [linesP] at h
    have := h.length_le
    simp at this
  | [c], no, acc, ps, pre, x, h, hm, hx => by
    by_cases hc : c = []
    · rw [linesP, if_pos hc] at h
      have := h.length_le
      simp at this
    · rw [linesP, if_neg hc] at h
      have hl := h.length_le
      have hpre : pre = [] := by
        cases pre with
        | nil => rfl
        | cons _ _ => simp at hl
      subst hpre
      obtain ⟨t, ht⟩ := h
      simp at ht
      obtain ⟨rfl, _⟩ := ht
      rw [readA_open _ _ hc]
  | c :: d :: cs, no, acc, ps, pre, x, h, hm, hx => by
    rw [linesP] at h
    cases pre with
    | nil =>
      obtain ⟨t, ht⟩ := h
      simp only [List.nil_append, List.cons_append, List.cons.injEq] at ht
      obtain ⟨rfl, _⟩ := ht
      rw [readA, hx]
    | cons y pre =>
      obtain ⟨t, ht⟩ := h
      simp only [List.cons_append, List.cons.injEq] at ht
      obtain ⟨rfl, ht⟩ := ht
      cases ps with
      | nil => simp at hm
      | cons p ps =>
        simp only [List.map_cons, List.cons.injEq] at hm
        rw [readA, hm.1]
        exact linesP_bad (d :: cs) (no + 1) (acc ++ [p]) ps pre x ⟨t, by simpa using ht⟩ hm.2 hx
end Go.Proofs.YtodjeidofgbdlaaGreatDoor
