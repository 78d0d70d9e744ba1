/- What was promised, looked over: the first clash. -/
import Derived.Test.YtodjeidofgbdlaaGreatDoorAud
import Derived.Test.YtodjeidofgbdlaaGreatDoorTxt
namespace Go.Proofs.YtodjeidofgbdlaaGreatDoor
open Go.ChangeShapes Go.WideShapes Go.ChangeAt Go.RowKit
set_option linter.unusedVariables false
set_option linter.unusedSimpArgs false
theorem clash_any (p q : Pr) (w : World) : Calls Tryz.prog 17 #[p.val, q.val] w fun e w' => e = .returned (.bool (decide (clashP p q))) ∧ Below w.heap.size w w' := by
  obtain ⟨ps, pa, pc, pf, pu⟩ := p
  obtain ⟨qs, qa, qc, qf, qu⟩ := q
  by_cases h1 : pa = qa
  · subst h1
    by_cases h2 : pc = qc
    · subst h2
      exact clash_yn ps pa pc pf pu qs qf qu w
    · by_cases hr : rightPr ⟨ps, pa, pc, pf, pu⟩
      · by_cases hq : rightPr ⟨qs, pa, qc, qf, qu⟩
        · exact clash_yyyy ps pa pc pf pu qs qc qf qu h2 hr hq w
        · exact clash_yyyn ps pa pc pf pu qs qc qf qu h2 hr hq w
      · exact clash_yyn ps pa pc pf pu qs qc qf qu h2 hr w
  · exact clash_n ps pa pc pf pu qs qa qc qf qu h1 w
set_option maxRecDepth 100000 in
set_option maxHeartbeats 1000000 in
theorem cl1_any (B : Nat) (ps pa : Int) (pc : ByteArray) (pf pu : Int) (qs qa : Int) (qc : ByteArray) (qf qu : Int) (w : World) (hB : Blk w B #[.int .i64 qs, .int .u32 qa, .string qc, .int .i64 qf, .int .i64 qu] 29) :
    Calls Tryz.prog 16 #[.agg #[.int .i64 ps, .int .u32 pa, .string pc, .int .i64 pf, .int .i64 pu], .pointer (some ⟨B, 0, none⟩)] w fun e w' => e = .returned (.bool (decide (clashP ⟨ps, pa, pc, pf, pu⟩ ⟨qs, qa, qc, qf, qu⟩))) ∧ Below w.heap.size w w' := by
  have HC := Lib.hid (fun w => clash_any ⟨ps, pa, pc, pf, pu⟩ ⟨qs, qa, qc, qf, qu⟩ w)
  have hBA := hB.alloc (.cells #[.int .i64 ps, .int .u32 pa, .string pc, .int .i64 pf, .int .i64 pu] 29)
  obtain ⟨p0, p1, p2, p3, p4⟩ := hBA.cells5
  have HL := Lib.hid (low0 w (.cells #[.int .i64 ps, .int .u32 pa, .string pc, .int .i64 pf, .int .i64 pu] 29))
  clear hB hBA
  obtain ⟨t, ht⟩ : ∃ t, t = decide (clashP ⟨ps, pa, pc, pf, pu⟩ ⟨qs, qa, qc, qf, qu⟩) := ⟨_, rfl⟩
  rw [← ht]
  have HT := Lib.hid ht
  clear ht
  go_enter Tryz.func16, Tryz.ntmps16
  go_wp2_with (go_at_call 17; refine (HC.out _).mono ?_; rintro e w1 ⟨he, hx⟩; rw [← HT.out] at he; subst he)
  go_ret
  exact ⟨rfl, low HL.out hx⟩
/-- The first of some that clashes. -/
def firstP (q : Pr) (l : List Pr) : Int := match l.findIdx? (fun p => decide (clashP p q)) with
  | some i => (i : Int)
  | none => -1
theorem firstP_at {q : Pr} {l : List Pr} {k : Nat} {p : Pr} (hp : l[k]? = some p) (hc : clashP p q) (hb : ∀ x ∈ l.take k, ¬ clashP x q) : firstP q l = k := by
  have hk := (List.getElem?_eq_some_iff.1 hp)
  obtain ⟨hlt, he⟩ := hk
  have h : l.findIdx? (fun p => decide (clashP p q)) = some k := by
    rw [List.findIdx?_eq_some_iff_getElem]
    refine ⟨hlt, by rw [he]; exact decide_eq_true hc, fun j hj => ?_⟩
    have := hb l[j] (List.mem_take_iff_getElem.2 ⟨j, by omega, rfl⟩)
    simpa using this
  unfold firstP
  rw [h]
theorem firstP_none {q : Pr} {l : List Pr} (hb : ∀ x ∈ l, ¬ clashP x q) : firstP q l = -1 := by
  have h : l.findIdx? (fun p => decide (clashP p q)) = none := by
    rw [List.findIdx?_eq_none_iff]
    intro x hx
    exact decide_eq_false (hb x hx)
  unfold firstP
  rw [h]
theorem PrsIn.take {w : World} {a : Option Addr} {n c : Nat} {ps : List Pr} (h : PrsIn w a n c ps) {k : Nat} (hk : k ≤ n) : PrsIn w a k c (ps.take k) := by
  obtain ⟨h1, h2, h3, h4, h5⟩ := h
  refine ⟨by rw [List.length_take]; omega, fun p hp => h2 p (List.mem_of_mem_take hp), by omega, h4, fun h0 => ?_⟩
  obtain ⟨g, o, rfl, hg, hc⟩ := h5 (by omega)
  refine ⟨g, o, rfl, hg, fun j p hp i v hv => hc j p ?_ i v hv⟩
  rw [List.getElem?_take] at hp
  split at hp
  · exact hp
  · cases hp
set_option maxRecDepth 100000 in
set_option maxHeartbeats 1000000 in
theorem ixf_any (a : Option Addr) (n c : Nat) (ps : List Pr) (B : Nat) (q : Pr) (w : World) (hin : PrsIn w a n c ps) (hn : n ≤ 100) (hB : Blk w B #[.int .i64 q.srv, .int .u32 q.adr, .string q.cli, .int .i64 q.frm, .int .i64 q.unt] 29) :
    Calls Tryz.prog 15 #[.slice a n c, .func (.func 16) #[] #[.pointer (some ⟨B, 0, none⟩)]] w fun e w' => e = .returned (.int .i64 (firstP q ps)) ∧ Below w.heap.size w w' := by
  have HIN := Lib.hid hin
  have HLEN := Lib.hid hin.1
  have HB0 := Lib.hid hB
  clear hin hB
  go_enter Tryz.func15, Tryz.ntmps15
  go_wp2
  go_loopw [8] (fun i wr => ∃ k : Nat, k ≤ n ∧ i = .int .i64 k ∧ (∀ x ∈ ps.take k, ¬ clashP x q) ∧ Below w.heap.size w wr) (fun i _ => n - (intOf i).toNat)
  case atStart => exact ⟨0, by omega, rfl, by simp, Below.refl _ _⟩
  case round =>
    obtain ⟨k, hk, rfl, hr, hb⟩ := hrel
    have HB := Lib.hid hb
    have HR := Lib.hid hr
    clear hb hr
    by_cases hlt : k < n
    · obtain ⟨p, hp⟩ : ∃ p, ps[k]? = some p := ⟨ps[k]'(by rw [HLEN.out]; exact hlt), List.getElem?_eq_getElem _⟩
      obtain ⟨g, o, rfl, z0, z1, z2, z3, z4⟩ := (HIN.out.keep HB.out).at hp
      have HP := Lib.hid hp
      clear hp
      have HCL := Lib.hid (cl1_any B p.srv p.adr p.cli p.frm p.unt q.srv q.adr q.cli q.frm q.unt wr (HB0.out.keep HB.out))
      by_cases hc : clashP p q
      · have HT := Lib.hid (show decide (clashP ⟨p.srv, p.adr, p.cli, p.frm, p.unt⟩ ⟨q.srv, q.adr, q.cli, q.frm, q.unt⟩) = true from decide_eq_true hc)
        have HC := Lib.hid hc
        clear hc
        go_wp2_with (go_at_call 16; refine (HCL.out).mono ?_; rintro e w1 ⟨he, hx⟩; rw [HT.out] at he; subst he)
        go_ret
        exact ⟨by rw [firstP_at HP.out HC.out HR.out]; rfl, low HB.out hx⟩
      · have HT := Lib.hid (show decide (clashP ⟨p.srv, p.adr, p.cli, p.frm, p.unt⟩ ⟨q.srv, q.adr, q.cli, q.frm, q.unt⟩) = false from decide_eq_false hc)
        have HC := Lib.hid hc
        clear hc
        go_wp2_with (go_at_call 16; refine (HCL.out).mono ?_; rintro e w1 ⟨he, hx⟩; rw [HT.out] at he; subst he)
        go_roundw
        case rel =>
          refine ⟨k + 1, by omega, by go_num, fun x hx' => ?_, low HB.out hx⟩
          rw [List.take_add_one, HP.out] at hx'
          rcases List.mem_append.1 hx' with h | h
          · exact HR.out x h
          · simp only [Option.toList_some, List.mem_singleton] at h
            rw [h]
            exact HC.out
        case measure => simp [intOf]; omega
    · go_wp2
      go_ret
      refine ⟨?_, HB.out⟩
      have hr := HR.out
      rw [List.take_of_length_le (by rw [HLEN.out]; omega)] at hr
      rw [firstP_none hr]
      rfl
end Go.Proofs.YtodjeidofgbdlaaGreatDoor
