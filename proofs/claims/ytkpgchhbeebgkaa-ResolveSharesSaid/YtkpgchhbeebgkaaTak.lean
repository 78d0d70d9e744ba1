/- What is known of an address behind what is told of it. -/
import Derived.Test.YtkpgchhbeebgkaaFair
namespace Go.Proofs.Ytkpgchhbeebgkaa
open Go.ChangeShapes Go.WideShapes Go.ChangeAt Go.RowKit
set_option linter.unusedVariables false
set_option linter.unusedSimpArgs false

/-- What is known of an address, but its number. -/
structure Lz where
  b : Int
  c : ByteArray
  u : Int
  k : Int
  t : Int
  z : Int
  v : Int
def Lz.val (la : Int) (l : Lz) : Value := .agg #[.int .u32 la, .int .i64 l.b, .string l.c, .int .i64 l.u, .int .i64 l.k, .int .i64 l.t, .int .i64 l.z, .int .i64 l.v]
def bareL (b v : Int) : Lz := ⟨b, { data := #[] }, 0, 0, 0, 0, v⟩
/-- What is told Active. -/
def actV (l : Lz) (mc : ByteArray) (p v : Int) (r o : Bool) : Lz × Bool :=
  if l.b = 5 then (l, false)
  else if l.b = 2 ∧ l.c = mc then (⟨l.b, l.c, l.u, l.k, max l.t p, l.z, max l.v v⟩, true)
  else if (v < l.v ∧ r = false) ∨ (l.b = 2 ∧ (r = false ∨ o = false)) then (l, false)
  else (⟨2, mc, 0, 0, p, 0, max l.v v⟩, true)
/-- What is told Expired or Released. -/
def endV (l : Lz) (mb : Int) (mc : ByteArray) (mt v : Int) (y : Bool) : Lz × Bool :=
  if l.b = 5 then (l, true)
  else if v < l.v then (l, false)
  else if l.b = 2 then (if l.c ≠ mc ∨ y = false then (l, false) else (⟨mb, l.c, l.u, l.k, l.t, l.z, v⟩, true))
  else if (l.b = 3 ∨ l.b = 4) ∧ l.v = v then (l, true)
  else (⟨mb, mc, 0, 0, 0, if mb = 4 then clkAdd mt 0 else 0, v⟩, true)
/-- What is told Free or Backup. -/
def freeV (l : Lz) (mb mt : Int) (r o : Bool) : Lz × Bool :=
  if l.b = 5 ∨ (l.b = 2 ∧ (r = false ∨ o = false)) then (l, false)
  else if l.v < mt then (bareL mb mt, true) else (l, decide (l.b ≠ 2))
def recV (st : Int) : Bool := decide (st = 6 ∨ st = 7 ∨ st = 8)
/-- What is known behind what is told, and whether that is so. -/
def takeV (la : Int) (l : Lz) (m0 ma mb : Int) (mc : ByteArray) (mp mt st now gd : Int) : Lz × Bool :=
  if FairP la l.b l.c l.u l.k l.t l.z l.v m0 ma mb mc mp mt then
    if mb = 2 then actV l mc (clkAdd mp 0) mt (recV st) (clkPast now l.u 0)
    else if mb = 3 then endV l 3 mc mt mp (clkPast now l.u 0)
    else if mb = 4 then endV l 4 mc mt mp (decide (l.z = 0) || clkPast mt l.z gd)
    else if mb = 5 then (bareL 5 l.v, true)
    else freeV l mb mt (recV st) (clkPast now l.u 0)
  else (l, false)
theorem str_eqb {a c : ByteArray} (h : a = c) : (a.toList == c.toList) = true := by rw [h]; exact beq_self_eq_true _
theorem str_ne {a c : ByteArray} (h : a ≠ c) : (a.toList == c.toList) = false := by
  rw [beq_eq_false_iff_ne]
  intro e
  rw [Lib.toList_data, Lib.toList_data] at e
  exact h (by rw [← Lib.mk_data a, e, Lib.mk_data])
theorem str_ne' {a c : ByteArray} (h : a ≠ c) : (a.toList != c.toList) = true := by
  unfold bne
  rw [str_ne h]
  rfl
theorem str_eqb' {a c : ByteArray} (h : a = c) : (a.toList != c.toList) = false := by
  unfold bne
  rw [str_eqb h]
  rfl
theorem ret_by {P : Program} {fn : Func} {R : Ending → World → Prop} {a : Act} {w : World} (hd : a.defers = []) (h : ∃ v, (results fn a.tmps).run P w = .ok v w ∧ R (.returned v) w) : bodyPost P fn R .ret a w := by
  obtain ⟨v, h1, h2⟩ := h
  exact bodyPost_ret h1 hd h2
theorem below_set {B : Nat} {a w : World} (h : Below B a w) {g i : Nat} (hp : B ≤ g) (u : Value) : Below B a (w.setCell ⟨g, i, none⟩ u) := h.setCell hp u
theorem ret_pair {a a' : Value} {b b' : Bool} (h : a = a') (k : b = b') : Ending.returned (.tuple #[a, .bool b]) = .returned (.tuple #[a', .bool b']) := by rw [h, k]

set_option maxRecDepth 100000 in
set_option maxHeartbeats 4000000 in
theorem active_any (la lb : Int) (lc : ByteArray) (lu lk lt lz lv : Int) (m0 m1 m2 m3 m4 ma mb : Int) (mc : ByteArray) (mp mt : Int) (mo : Bool) (r o : Bool) (w : World) : Calls Try.prog 20 #[.agg #[.int .u32 la, .int .i64 lb, .string lc, .int .i64 lu, .int .i64 lk, .int .i64 lt, .int .i64 lz, .int .i64 lv], .agg #[.int .i64 m0, .int .i64 m1, .int .i64 m2, .int .i64 m3, .int .i64 m4, .int .u32 ma, .int .i64 mb, .string mc, .int .i64 mp, .int .i64 mt, .bool mo], .bool r, .bool o] w fun e w' => e = .returned (.tuple #[(actV ⟨lb, lc, lu, lk, lt, lz, lv⟩ mc (clkAdd mp 0) (verV mb mp mt) r o).1.val la, .bool (actV ⟨lb, lc, lu, lk, lt, lz, lv⟩ mc (clkAdd mp 0) (verV mb mp mt) r o).2]) ∧ Below w.heap.size w w' := by
  have H0 := Lib.hid ((((HeldB.nil (lowA (lowA (low0 w (.cells #[.int .u32 la, .int .i64 lb, .string lc, .int .i64 lu, .int .i64 lk, .int .i64 lt, .int .i64 lz, .int .i64 lv] 25)) (.cells #[.int .i64 m0, .int .i64 m1, .int .i64 m2, .int .i64 m3, .int .i64 m4, .int .u32 ma, .int .i64 mb, .string mc, .int .i64 mp, .int .i64 mt, .bool mo] 27)) (.cells #[.int .u32 0, .int .i64 0, .string { data := #[] }, .int .i64 0, .int .i64 0, .int .i64 0, .int .i64 0, .int .i64 0] 25))).cons ((Blk.new2' w #[.int .u32 la, .int .i64 lb, .string lc, .int .i64 lu, .int .i64 lk, .int .i64 lt, .int .i64 lz, .int .i64 lv] 25 (.cells #[.int .i64 m0, .int .i64 m1, .int .i64 m2, .int .i64 m3, .int .i64 m4, .int .u32 ma, .int .i64 mb, .string mc, .int .i64 mp, .int .i64 mt, .bool mo] 27)).alloc (.cells #[.int .u32 0, .int .i64 0, .string { data := #[] }, .int .i64 0, .int .i64 0, .int .i64 0, .int .i64 0, .int .i64 0] 25))).cons ((Blk.new2 w (.cells #[.int .u32 la, .int .i64 lb, .string lc, .int .i64 lu, .int .i64 lk, .int .i64 lt, .int .i64 lz, .int .i64 lv] 25) #[.int .i64 m0, .int .i64 m1, .int .i64 m2, .int .i64 m3, .int .i64 m4, .int .u32 ma, .int .i64 mb, .string mc, .int .i64 mp, .int .i64 mt, .bool mo] 27).alloc (.cells #[.int .u32 0, .int .i64 0, .string { data := #[] }, .int .i64 0, .int .i64 0, .int .i64 0, .int .i64 0, .int .i64 0] 25))).cons (Blk.new3 w (.cells #[.int .u32 la, .int .i64 lb, .string lc, .int .i64 lu, .int .i64 lk, .int .i64 lt, .int .i64 lz, .int .i64 lv] 25) (.cells #[.int .i64 m0, .int .i64 m1, .int .i64 m2, .int .i64 m3, .int .i64 m4, .int .u32 ma, .int .i64 mb, .string mc, .int .i64 mp, .int .i64 mt, .bool mo] 27) #[.int .u32 0, .int .i64 0, .string { data := #[] }, .int .i64 0, .int .i64 0, .int .i64 0, .int .i64 0, .int .i64 0] 25))
  generalize hvv : verV mb mp mt = vv
  have HVV := Lib.hid hvv
  clear hvv
  by_cases h5 : lb = 5
  · have k5 : (lb == 5) = true := beq_iff_eq.2 h5
    have HV := Lib.hid (show actV ⟨lb, lc, lu, lk, lt, lz, lv⟩ mc (clkAdd mp 0) vv r o = (⟨lb, lc, lu, lk, lt, lz, lv⟩, false) from by simp [actV, h5])
    clear h5
    go_enter Try.func20, Try.ntmps20
    go_wp2_with (first | (go_at_call 30; with_reducible refine (radd_any _ _ _).mono ?_; rintro e w1 ⟨rfl, rfl⟩) | (go_at_call 28; ((with_reducible refine (rver_any _ _ _ _ _ _ _ _ _ _ _ _).mono ?_)); rintro e w2 ⟨he, hx⟩; rw [HVV.out] at he; subst he; have H1 := Lib.hid (H0.out.keep hx); clear hx; obtain ⟨p0_0, p0_1, p0_2, p0_3, p0_4, p0_5, p0_6, p0_7⟩ := (H1.out).b0.cells8; have pf0 := (H1.out).b0.free; obtain ⟨p1_0, p1_1, p1_2, p1_3, p1_4, p1_5, p1_6, p1_7, p1_8, p1_9, p1_10⟩ := (H1.out).tl.b0.cells11; have pf1 := (H1.out).tl.b0.free; obtain ⟨p2_0, p2_1, p2_2, p2_3, p2_4, p2_5, p2_6, p2_7⟩ := (H1.out).tl.tl.b0.cells8; have pf2 := (H1.out).tl.tl.b0.free; have HB := Lib.hid H1.out.2))
    all_goals
      refine ret_by rfl ?_
      apply Exists.intro
      apply And.intro
      focus (simp [results, Try.results20, go_sem, p0_0, p0_1, p0_2, p0_3, p0_4, p0_5, p0_6, p0_7]; exact rfl)
      refine ⟨?_, ?_⟩
      · rw [HV.out]
        first | rfl | exact ret_pair (by simp only [Lz.val]; congr <;> omega) rfl
      · repeat (with_reducible refine below_set ?_ (by omega) _)
        exact HB.out
  · have k5 : (lb == 5) = false := beq_eq_false_iff_ne.2 h5
    by_cases h2 : lb = 2
    · have k2 : (lb == 2) = true := beq_iff_eq.2 h2
      by_cases hc : lc = mc
      · have kc := str_eqb hc
        have HV := Lib.hid (show actV ⟨lb, lc, lu, lk, lt, lz, lv⟩ mc (clkAdd mp 0) vv r o = (⟨lb, lc, lu, lk, max lt (clkAdd mp 0), lz, max lv vv⟩, true) from by simp [actV, h5, h2, hc])
        clear h5 h2 hc
        go_enter Try.func20, Try.ntmps20
        go_wp2_with (first | (go_at_call 30; with_reducible refine (radd_any _ _ _).mono ?_; rintro e w1 ⟨rfl, rfl⟩) | (go_at_call 28; ((with_reducible refine (rver_any _ _ _ _ _ _ _ _ _ _ _ _).mono ?_)); rintro e w2 ⟨he, hx⟩; rw [HVV.out] at he; subst he; have H1 := Lib.hid (H0.out.keep hx); clear hx; obtain ⟨p0_0, p0_1, p0_2, p0_3, p0_4, p0_5, p0_6, p0_7⟩ := (H1.out).b0.cells8; have pf0 := (H1.out).b0.free; obtain ⟨p1_0, p1_1, p1_2, p1_3, p1_4, p1_5, p1_6, p1_7, p1_8, p1_9, p1_10⟩ := (H1.out).tl.b0.cells11; have pf1 := (H1.out).tl.b0.free; obtain ⟨p2_0, p2_1, p2_2, p2_3, p2_4, p2_5, p2_6, p2_7⟩ := (H1.out).tl.tl.b0.cells8; have pf2 := (H1.out).tl.tl.b0.free; have HB := Lib.hid H1.out.2))
        all_goals
          refine ret_by rfl ?_
          apply Exists.intro
          apply And.intro
          focus (simp [results, Try.results20, go_sem, p0_0, p0_1, p0_2, p0_3, p0_4, p0_5, p0_6, p0_7]; exact rfl)
          refine ⟨?_, ?_⟩
          · rw [HV.out]
            first | rfl | exact ret_pair (by simp only [Lz.val]; congr <;> omega) rfl
          · repeat (with_reducible refine below_set ?_ (by omega) _)
            exact HB.out
      · have kc := str_ne hc
        by_cases hl : vv < lv
        · have kl : decide (vv < lv) = true := decide_eq_true hl
          cases r <;> cases o
          · have HV := Lib.hid (show actV ⟨lb, lc, lu, lk, lt, lz, lv⟩ mc (clkAdd mp 0) vv false false = (⟨lb, lc, lu, lk, lt, lz, lv⟩, false) from by simp [actV, h5, h2, hc, hl])
            clear h5 h2 hc hl
            go_enter Try.func20, Try.ntmps20
            go_wp2_with (first | (go_at_call 30; with_reducible refine (radd_any _ _ _).mono ?_; rintro e w1 ⟨rfl, rfl⟩) | (go_at_call 28; ((with_reducible refine (rver_any _ _ _ _ _ _ _ _ _ _ _ _).mono ?_)); rintro e w2 ⟨he, hx⟩; rw [HVV.out] at he; subst he; have H1 := Lib.hid (H0.out.keep hx); clear hx; obtain ⟨p0_0, p0_1, p0_2, p0_3, p0_4, p0_5, p0_6, p0_7⟩ := (H1.out).b0.cells8; have pf0 := (H1.out).b0.free; obtain ⟨p1_0, p1_1, p1_2, p1_3, p1_4, p1_5, p1_6, p1_7, p1_8, p1_9, p1_10⟩ := (H1.out).tl.b0.cells11; have pf1 := (H1.out).tl.b0.free; obtain ⟨p2_0, p2_1, p2_2, p2_3, p2_4, p2_5, p2_6, p2_7⟩ := (H1.out).tl.tl.b0.cells8; have pf2 := (H1.out).tl.tl.b0.free; have HB := Lib.hid H1.out.2))
            all_goals
              refine ret_by rfl ?_
              apply Exists.intro
              apply And.intro
              focus (simp [results, Try.results20, go_sem, p0_0, p0_1, p0_2, p0_3, p0_4, p0_5, p0_6, p0_7]; exact rfl)
              refine ⟨?_, ?_⟩
              · rw [HV.out]
                first | rfl | exact ret_pair (by simp only [Lz.val]; congr <;> omega) rfl
              · repeat (with_reducible refine below_set ?_ (by omega) _)
                exact HB.out
          · have HV := Lib.hid (show actV ⟨lb, lc, lu, lk, lt, lz, lv⟩ mc (clkAdd mp 0) vv false true = (⟨lb, lc, lu, lk, lt, lz, lv⟩, false) from by simp [actV, h5, h2, hc, hl])
            clear h5 h2 hc hl
            go_enter Try.func20, Try.ntmps20
            go_wp2_with (first | (go_at_call 30; with_reducible refine (radd_any _ _ _).mono ?_; rintro e w1 ⟨rfl, rfl⟩) | (go_at_call 28; ((with_reducible refine (rver_any _ _ _ _ _ _ _ _ _ _ _ _).mono ?_)); rintro e w2 ⟨he, hx⟩; rw [HVV.out] at he; subst he; have H1 := Lib.hid (H0.out.keep hx); clear hx; obtain ⟨p0_0, p0_1, p0_2, p0_3, p0_4, p0_5, p0_6, p0_7⟩ := (H1.out).b0.cells8; have pf0 := (H1.out).b0.free; obtain ⟨p1_0, p1_1, p1_2, p1_3, p1_4, p1_5, p1_6, p1_7, p1_8, p1_9, p1_10⟩ := (H1.out).tl.b0.cells11; have pf1 := (H1.out).tl.b0.free; obtain ⟨p2_0, p2_1, p2_2, p2_3, p2_4, p2_5, p2_6, p2_7⟩ := (H1.out).tl.tl.b0.cells8; have pf2 := (H1.out).tl.tl.b0.free; have HB := Lib.hid H1.out.2))
            all_goals
              refine ret_by rfl ?_
              apply Exists.intro
              apply And.intro
              focus (simp [results, Try.results20, go_sem, p0_0, p0_1, p0_2, p0_3, p0_4, p0_5, p0_6, p0_7]; exact rfl)
              refine ⟨?_, ?_⟩
              · rw [HV.out]
                first | rfl | exact ret_pair (by simp only [Lz.val]; congr <;> omega) rfl
              · repeat (with_reducible refine below_set ?_ (by omega) _)
                exact HB.out
          · have HV := Lib.hid (show actV ⟨lb, lc, lu, lk, lt, lz, lv⟩ mc (clkAdd mp 0) vv true false = (⟨lb, lc, lu, lk, lt, lz, lv⟩, false) from by simp [actV, h5, h2, hc, hl])
            clear h5 h2 hc hl
            go_enter Try.func20, Try.ntmps20
            go_wp2_with (first | (go_at_call 30; with_reducible refine (radd_any _ _ _).mono ?_; rintro e w1 ⟨rfl, rfl⟩) | (go_at_call 28; ((with_reducible refine (rver_any _ _ _ _ _ _ _ _ _ _ _ _).mono ?_)); rintro e w2 ⟨he, hx⟩; rw [HVV.out] at he; subst he; have H1 := Lib.hid (H0.out.keep hx); clear hx; obtain ⟨p0_0, p0_1, p0_2, p0_3, p0_4, p0_5, p0_6, p0_7⟩ := (H1.out).b0.cells8; have pf0 := (H1.out).b0.free; obtain ⟨p1_0, p1_1, p1_2, p1_3, p1_4, p1_5, p1_6, p1_7, p1_8, p1_9, p1_10⟩ := (H1.out).tl.b0.cells11; have pf1 := (H1.out).tl.b0.free; obtain ⟨p2_0, p2_1, p2_2, p2_3, p2_4, p2_5, p2_6, p2_7⟩ := (H1.out).tl.tl.b0.cells8; have pf2 := (H1.out).tl.tl.b0.free; have HB := Lib.hid H1.out.2))
            all_goals
              refine ret_by rfl ?_
              apply Exists.intro
              apply And.intro
              focus (simp [results, Try.results20, go_sem, p0_0, p0_1, p0_2, p0_3, p0_4, p0_5, p0_6, p0_7]; exact rfl)
              refine ⟨?_, ?_⟩
              · rw [HV.out]
                first | rfl | exact ret_pair (by simp only [Lz.val]; congr <;> omega) rfl
              · repeat (with_reducible refine below_set ?_ (by omega) _)
                exact HB.out
          · have HV := Lib.hid (show actV ⟨lb, lc, lu, lk, lt, lz, lv⟩ mc (clkAdd mp 0) vv true true = (⟨2, mc, 0, 0, clkAdd mp 0, 0, max lv vv⟩, true) from by simp [actV, h5, h2, hc, hl])
            clear h5 h2 hc hl
            go_enter Try.func20, Try.ntmps20
            go_wp2_with (first | (go_at_call 30; with_reducible refine (radd_any _ _ _).mono ?_; rintro e w1 ⟨rfl, rfl⟩) | (go_at_call 28; ((with_reducible refine (rver_any _ _ _ _ _ _ _ _ _ _ _ _).mono ?_)); rintro e w2 ⟨he, hx⟩; rw [HVV.out] at he; subst he; have H1 := Lib.hid (H0.out.keep hx); clear hx; obtain ⟨p0_0, p0_1, p0_2, p0_3, p0_4, p0_5, p0_6, p0_7⟩ := (H1.out).b0.cells8; have pf0 := (H1.out).b0.free; obtain ⟨p1_0, p1_1, p1_2, p1_3, p1_4, p1_5, p1_6, p1_7, p1_8, p1_9, p1_10⟩ := (H1.out).tl.b0.cells11; have pf1 := (H1.out).tl.b0.free; obtain ⟨p2_0, p2_1, p2_2, p2_3, p2_4, p2_5, p2_6, p2_7⟩ := (H1.out).tl.tl.b0.cells8; have pf2 := (H1.out).tl.tl.b0.free; have HB := Lib.hid H1.out.2))
            all_goals
              refine ret_by rfl ?_
              apply Exists.intro
              apply And.intro
              focus (simp [results, Try.results20, go_sem, p0_0, p0_1, p0_2, p0_3, p0_4, p0_5, p0_6, p0_7]; exact rfl)
              refine ⟨?_, ?_⟩
              · rw [HV.out]
                first | rfl | exact ret_pair (by simp only [Lz.val]; congr <;> omega) rfl
              · repeat (with_reducible refine below_set ?_ (by omega) _)
                exact HB.out
        · have kl : decide (vv < lv) = false := decide_eq_false hl
          cases r <;> cases o
          · have HV := Lib.hid (show actV ⟨lb, lc, lu, lk, lt, lz, lv⟩ mc (clkAdd mp 0) vv false false = (⟨lb, lc, lu, lk, lt, lz, lv⟩, false) from by simp [actV, h5, h2, hc, hl])
            clear h5 h2 hc hl
            go_enter Try.func20, Try.ntmps20
            go_wp2_with (first | (go_at_call 30; with_reducible refine (radd_any _ _ _).mono ?_; rintro e w1 ⟨rfl, rfl⟩) | (go_at_call 28; ((with_reducible refine (rver_any _ _ _ _ _ _ _ _ _ _ _ _).mono ?_)); rintro e w2 ⟨he, hx⟩; rw [HVV.out] at he; subst he; have H1 := Lib.hid (H0.out.keep hx); clear hx; obtain ⟨p0_0, p0_1, p0_2, p0_3, p0_4, p0_5, p0_6, p0_7⟩ := (H1.out).b0.cells8; have pf0 := (H1.out).b0.free; obtain ⟨p1_0, p1_1, p1_2, p1_3, p1_4, p1_5, p1_6, p1_7, p1_8, p1_9, p1_10⟩ := (H1.out).tl.b0.cells11; have pf1 := (H1.out).tl.b0.free; obtain ⟨p2_0, p2_1, p2_2, p2_3, p2_4, p2_5, p2_6, p2_7⟩ := (H1.out).tl.tl.b0.cells8; have pf2 := (H1.out).tl.tl.b0.free; have HB := Lib.hid H1.out.2))
            all_goals
              refine ret_by rfl ?_
              apply Exists.intro
              apply And.intro
              focus (simp [results, Try.results20, go_sem, p0_0, p0_1, p0_2, p0_3, p0_4, p0_5, p0_6, p0_7]; exact rfl)
              refine ⟨?_, ?_⟩
              · rw [HV.out]
                first | rfl | exact ret_pair (by simp only [Lz.val]; congr <;> omega) rfl
              · repeat (with_reducible refine below_set ?_ (by omega) _)
                exact HB.out
          · have HV := Lib.hid (show actV ⟨lb, lc, lu, lk, lt, lz, lv⟩ mc (clkAdd mp 0) vv false true = (⟨lb, lc, lu, lk, lt, lz, lv⟩, false) from by simp [actV, h5, h2, hc, hl])
            clear h5 h2 hc hl
            go_enter Try.func20, Try.ntmps20
            go_wp2_with (first | (go_at_call 30; with_reducible refine (radd_any _ _ _).mono ?_; rintro e w1 ⟨rfl, rfl⟩) | (go_at_call 28; ((with_reducible refine (rver_any _ _ _ _ _ _ _ _ _ _ _ _).mono ?_)); rintro e w2 ⟨he, hx⟩; rw [HVV.out] at he; subst he; have H1 := Lib.hid (H0.out.keep hx); clear hx; obtain ⟨p0_0, p0_1, p0_2, p0_3, p0_4, p0_5, p0_6, p0_7⟩ := (H1.out).b0.cells8; have pf0 := (H1.out).b0.free; obtain ⟨p1_0, p1_1, p1_2, p1_3, p1_4, p1_5, p1_6, p1_7, p1_8, p1_9, p1_10⟩ := (H1.out).tl.b0.cells11; have pf1 := (H1.out).tl.b0.free; obtain ⟨p2_0, p2_1, p2_2, p2_3, p2_4, p2_5, p2_6, p2_7⟩ := (H1.out).tl.tl.b0.cells8; have pf2 := (H1.out).tl.tl.b0.free; have HB := Lib.hid H1.out.2))
            all_goals
              refine ret_by rfl ?_
              apply Exists.intro
              apply And.intro
              focus (simp [results, Try.results20, go_sem, p0_0, p0_1, p0_2, p0_3, p0_4, p0_5, p0_6, p0_7]; exact rfl)
              refine ⟨?_, ?_⟩
              · rw [HV.out]
                first | rfl | exact ret_pair (by simp only [Lz.val]; congr <;> omega) rfl
              · repeat (with_reducible refine below_set ?_ (by omega) _)
                exact HB.out
          · have HV := Lib.hid (show actV ⟨lb, lc, lu, lk, lt, lz, lv⟩ mc (clkAdd mp 0) vv true false = (⟨lb, lc, lu, lk, lt, lz, lv⟩, false) from by simp [actV, h5, h2, hc, hl])
            clear h5 h2 hc hl
            go_enter Try.func20, Try.ntmps20
            go_wp2_with (first | (go_at_call 30; with_reducible refine (radd_any _ _ _).mono ?_; rintro e w1 ⟨rfl, rfl⟩) | (go_at_call 28; ((with_reducible refine (rver_any _ _ _ _ _ _ _ _ _ _ _ _).mono ?_)); rintro e w2 ⟨he, hx⟩; rw [HVV.out] at he; subst he; have H1 := Lib.hid (H0.out.keep hx); clear hx; obtain ⟨p0_0, p0_1, p0_2, p0_3, p0_4, p0_5, p0_6, p0_7⟩ := (H1.out).b0.cells8; have pf0 := (H1.out).b0.free; obtain ⟨p1_0, p1_1, p1_2, p1_3, p1_4, p1_5, p1_6, p1_7, p1_8, p1_9, p1_10⟩ := (H1.out).tl.b0.cells11; have pf1 := (H1.out).tl.b0.free; obtain ⟨p2_0, p2_1, p2_2, p2_3, p2_4, p2_5, p2_6, p2_7⟩ := (H1.out).tl.tl.b0.cells8; have pf2 := (H1.out).tl.tl.b0.free; have HB := Lib.hid H1.out.2))
            all_goals
              refine ret_by rfl ?_
              apply Exists.intro
              apply And.intro
              focus (simp [results, Try.results20, go_sem, p0_0, p0_1, p0_2, p0_3, p0_4, p0_5, p0_6, p0_7]; exact rfl)
              refine ⟨?_, ?_⟩
              · rw [HV.out]
                first | rfl | exact ret_pair (by simp only [Lz.val]; congr <;> omega) rfl
              · repeat (with_reducible refine below_set ?_ (by omega) _)
                exact HB.out
          · have HV := Lib.hid (show actV ⟨lb, lc, lu, lk, lt, lz, lv⟩ mc (clkAdd mp 0) vv true true = (⟨2, mc, 0, 0, clkAdd mp 0, 0, max lv vv⟩, true) from by simp [actV, h5, h2, hc, hl])
            clear h5 h2 hc hl
            go_enter Try.func20, Try.ntmps20
            go_wp2_with (first | (go_at_call 30; with_reducible refine (radd_any _ _ _).mono ?_; rintro e w1 ⟨rfl, rfl⟩) | (go_at_call 28; ((with_reducible refine (rver_any _ _ _ _ _ _ _ _ _ _ _ _).mono ?_)); rintro e w2 ⟨he, hx⟩; rw [HVV.out] at he; subst he; have H1 := Lib.hid (H0.out.keep hx); clear hx; obtain ⟨p0_0, p0_1, p0_2, p0_3, p0_4, p0_5, p0_6, p0_7⟩ := (H1.out).b0.cells8; have pf0 := (H1.out).b0.free; obtain ⟨p1_0, p1_1, p1_2, p1_3, p1_4, p1_5, p1_6, p1_7, p1_8, p1_9, p1_10⟩ := (H1.out).tl.b0.cells11; have pf1 := (H1.out).tl.b0.free; obtain ⟨p2_0, p2_1, p2_2, p2_3, p2_4, p2_5, p2_6, p2_7⟩ := (H1.out).tl.tl.b0.cells8; have pf2 := (H1.out).tl.tl.b0.free; have HB := Lib.hid H1.out.2))
            all_goals
              refine ret_by rfl ?_
              apply Exists.intro
              apply And.intro
              focus (simp [results, Try.results20, go_sem, p0_0, p0_1, p0_2, p0_3, p0_4, p0_5, p0_6, p0_7]; exact rfl)
              refine ⟨?_, ?_⟩
              · rw [HV.out]
                first | rfl | exact ret_pair (by simp only [Lz.val]; congr <;> omega) rfl
              · repeat (with_reducible refine below_set ?_ (by omega) _)
                exact HB.out
    · have k2 : (lb == 2) = false := beq_eq_false_iff_ne.2 h2
      by_cases hl : vv < lv
      · have kl : decide (vv < lv) = true := decide_eq_true hl
        cases r
        · have HV := Lib.hid (show actV ⟨lb, lc, lu, lk, lt, lz, lv⟩ mc (clkAdd mp 0) vv false o = (⟨lb, lc, lu, lk, lt, lz, lv⟩, false) from by simp [actV, h5, h2, hl])
          clear h5 h2 hl
          go_enter Try.func20, Try.ntmps20
          go_wp2_with (first | (go_at_call 30; with_reducible refine (radd_any _ _ _).mono ?_; rintro e w1 ⟨rfl, rfl⟩) | (go_at_call 28; ((with_reducible refine (rver_any _ _ _ _ _ _ _ _ _ _ _ _).mono ?_)); rintro e w2 ⟨he, hx⟩; rw [HVV.out] at he; subst he; have H1 := Lib.hid (H0.out.keep hx); clear hx; obtain ⟨p0_0, p0_1, p0_2, p0_3, p0_4, p0_5, p0_6, p0_7⟩ := (H1.out).b0.cells8; have pf0 := (H1.out).b0.free; obtain ⟨p1_0, p1_1, p1_2, p1_3, p1_4, p1_5, p1_6, p1_7, p1_8, p1_9, p1_10⟩ := (H1.out).tl.b0.cells11; have pf1 := (H1.out).tl.b0.free; obtain ⟨p2_0, p2_1, p2_2, p2_3, p2_4, p2_5, p2_6, p2_7⟩ := (H1.out).tl.tl.b0.cells8; have pf2 := (H1.out).tl.tl.b0.free; have HB := Lib.hid H1.out.2))
          all_goals
            refine ret_by rfl ?_
            apply Exists.intro
            apply And.intro
            focus (simp [results, Try.results20, go_sem, p0_0, p0_1, p0_2, p0_3, p0_4, p0_5, p0_6, p0_7]; exact rfl)
            refine ⟨?_, ?_⟩
            · rw [HV.out]
              first | rfl | exact ret_pair (by simp only [Lz.val]; congr <;> omega) rfl
            · repeat (with_reducible refine below_set ?_ (by omega) _)
              exact HB.out
        · have HV := Lib.hid (show actV ⟨lb, lc, lu, lk, lt, lz, lv⟩ mc (clkAdd mp 0) vv true o = (⟨2, mc, 0, 0, clkAdd mp 0, 0, max lv vv⟩, true) from by simp [actV, h5, h2, hl])
          clear h5 h2 hl
          go_enter Try.func20, Try.ntmps20
          go_wp2_with (first | (go_at_call 30; with_reducible refine (radd_any _ _ _).mono ?_; rintro e w1 ⟨rfl, rfl⟩) | (go_at_call 28; ((with_reducible refine (rver_any _ _ _ _ _ _ _ _ _ _ _ _).mono ?_)); rintro e w2 ⟨he, hx⟩; rw [HVV.out] at he; subst he; have H1 := Lib.hid (H0.out.keep hx); clear hx; obtain ⟨p0_0, p0_1, p0_2, p0_3, p0_4, p0_5, p0_6, p0_7⟩ := (H1.out).b0.cells8; have pf0 := (H1.out).b0.free; obtain ⟨p1_0, p1_1, p1_2, p1_3, p1_4, p1_5, p1_6, p1_7, p1_8, p1_9, p1_10⟩ := (H1.out).tl.b0.cells11; have pf1 := (H1.out).tl.b0.free; obtain ⟨p2_0, p2_1, p2_2, p2_3, p2_4, p2_5, p2_6, p2_7⟩ := (H1.out).tl.tl.b0.cells8; have pf2 := (H1.out).tl.tl.b0.free; have HB := Lib.hid H1.out.2))
          all_goals
            refine ret_by rfl ?_
            apply Exists.intro
            apply And.intro
            focus (simp [results, Try.results20, go_sem, p0_0, p0_1, p0_2, p0_3, p0_4, p0_5, p0_6, p0_7]; exact rfl)
            refine ⟨?_, ?_⟩
            · rw [HV.out]
              first | rfl | exact ret_pair (by simp only [Lz.val]; congr <;> omega) rfl
            · repeat (with_reducible refine below_set ?_ (by omega) _)
              exact HB.out
      · have kl : decide (vv < lv) = false := decide_eq_false hl
        have HV := Lib.hid (show actV ⟨lb, lc, lu, lk, lt, lz, lv⟩ mc (clkAdd mp 0) vv r o = (⟨2, mc, 0, 0, clkAdd mp 0, 0, max lv vv⟩, true) from by simp [actV, h5, h2, hl])
        clear h5 h2 hl
        go_enter Try.func20, Try.ntmps20
        go_wp2_with (first | (go_at_call 30; with_reducible refine (radd_any _ _ _).mono ?_; rintro e w1 ⟨rfl, rfl⟩) | (go_at_call 28; ((with_reducible refine (rver_any _ _ _ _ _ _ _ _ _ _ _ _).mono ?_)); rintro e w2 ⟨he, hx⟩; rw [HVV.out] at he; subst he; have H1 := Lib.hid (H0.out.keep hx); clear hx; obtain ⟨p0_0, p0_1, p0_2, p0_3, p0_4, p0_5, p0_6, p0_7⟩ := (H1.out).b0.cells8; have pf0 := (H1.out).b0.free; obtain ⟨p1_0, p1_1, p1_2, p1_3, p1_4, p1_5, p1_6, p1_7, p1_8, p1_9, p1_10⟩ := (H1.out).tl.b0.cells11; have pf1 := (H1.out).tl.b0.free; obtain ⟨p2_0, p2_1, p2_2, p2_3, p2_4, p2_5, p2_6, p2_7⟩ := (H1.out).tl.tl.b0.cells8; have pf2 := (H1.out).tl.tl.b0.free; have HB := Lib.hid H1.out.2))
        all_goals
          refine ret_by rfl ?_
          apply Exists.intro
          apply And.intro
          focus (simp [results, Try.results20, go_sem, p0_0, p0_1, p0_2, p0_3, p0_4, p0_5, p0_6, p0_7]; exact rfl)
          refine ⟨?_, ?_⟩
          · rw [HV.out]
            first | rfl | exact ret_pair (by simp only [Lz.val]; congr <;> omega) rfl
          · repeat (with_reducible refine below_set ?_ (by omega) _)
            exact HB.out

end Go.Proofs.Ytkpgchhbeebgkaa
