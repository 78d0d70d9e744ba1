/- Promises as a text, by the reference; few of them; the same ones. -/
import Derived.Test.YtodjeidofgbdlaaDoorTxt
namespace Go.Proofs.YtodjeidofgbdlaaDoor
open Go.ChangeShapes Go.WideShapes Go.ChangeAt Go.RowKit
set_option linter.unusedVariables false
set_option linter.unusedSimpArgs false

set_option maxRecDepth 100000 in
set_option maxHeartbeats 1000000 in
theorem rtext2_any (a : Option Addr) (n c : Nat) (ps : List Pr) (w : World) (hin : PrsIn w a n c ps) (hn : n ≤ 100) :
    Calls Tryd.prog 16 #[.slice a n c] w fun e w' => e = .returned (.tuple #[.string (textR ps).1, .int .i64 (textR ps).2]) ∧ Below w.heap.size w w' := by
  have HIN := Lib.hid hin
  have HLEN := Lib.hid hin.1
  clear hin
  go_enter Tryd.func16, Tryd.ntmps16
  go_wp2
  go_loopw [4, 5] (fun out i wr => ∃ k : Nat, k ≤ n ∧ i = .int .i64 k ∧ (∀ q ∈ ps.take k, rightPr q) ∧ out = .string (bl (textL (ps.take k))) ∧ Below w.heap.size w wr) (fun _ i _ => n - (intOf i).toNat)
  case atStart => exact ⟨0, by omega, rfl, by simp, rfl, Below.refl _ _⟩
  case round =>
    obtain ⟨k, hk, rfl, hr, rfl, hb⟩ := hrel
    have HR := Lib.hid hr
    have HB := Lib.hid hb
    clear hr hb
    have z6 : (bl (textL (ps.take k))).size ≤ 131 * 100 := by
      rw [bl_size]
      refine Nat.le_trans (textL_len _ HR.out (fun q hq => HIN.out.2.1 q (List.mem_of_mem_take hq))) ?_
      rw [List.length_take]
      omega
    by_cases hlt : k < n
    · obtain ⟨p, hp⟩ : ∃ p, ps[k]? = some p := ⟨ps[k]'(by rw [HLEN.out]; exact hlt), List.getElem?_eq_getElem _⟩
      have HFIT := Lib.hid (HIN.out.fit hp)
      obtain ⟨g, o, rfl, z0, z1, z2, z3, z4⟩ := (HIN.out.keep HB.out).at hp
      have HP := Lib.hid hp
      clear hp
      obtain ⟨ps0, pa, pc, pf, pu⟩ := p
      simp only at z0 z1 z2 z3 z4 HFIT
      by_cases hrp : rightPr ⟨ps0, pa, pc, pf, pu⟩
      · have HL := Lib.hid (show ∀ w, Calls Tryd.prog 9 #[.agg #[.int .i64 ps0, .int .u32 pa, .string pc, .int .i64 pf, .int .i64 pu]] w fun e w' => e = .returned (.tuple #[.string (lineB ⟨ps0, pa, pc, pf, pu⟩), .int .i64 0]) ∧ Below w.heap.size w w' from fun w => by
          have h := rline_any ps0 pa pc pf pu HFIT.out w
          unfold lineR at h
          rw [if_pos hrp] at h
          exact h)
        have HR2 := Lib.hid (right_more HP.out HR.out hrp)
        have z5 : (lineB ⟨ps0, pa, pc, pf, pu⟩).size ≤ 130 := by
          have h := lineL_len hrp (by have := HFIT.out; simp only; omega)
          unfold lineB
          simp [ByteArray.size]
          exact h
        have z7 : ({ data := #[10] } : ByteArray).size = 1 := rfl
        have HT := Lib.hid (show bl (textL (ps.take k)) ++ lineB ⟨ps0, pa, pc, pf, pu⟩ ++ { data := #[10] } = bl (textL (ps.take (k + 1))) from by
          apply ba_eq
          rw [app_data, app_data, bl_data, bl_data, ptake_more HP.out, textL_snoc, List.append_assoc]
          unfold lineB
          simp)
        obtain ⟨ln, hln⟩ : ∃ x, lineB ⟨ps0, pa, pc, pf, pu⟩ = x := ⟨_, rfl⟩
        rw [hln] at HL HT z5
        obtain ⟨bs, hbs⟩ : ∃ x, bl (textL (ps.take k)) = x := ⟨_, rfl⟩
        rw [hbs] at HT z6
        rw [hbs]
        have z8 : (bs ++ ln).size ≤ 131 * 101 := by rw [ByteArray.size_append]; omega
        clear hrp hln hbs
        go_wp2_with (go_at_call 9; (with_reducible refine (HL.out _).mono ?_); rintro e w1 ⟨rfl, hx⟩; have HB1 := Lib.hid (low HB.out hx); clear hx)
        all_goals
          first
            | exact ⟨⟨k + 1, by omega, by go_num, HR2.out, by rw [HT.out], HB1.out⟩, by simp [intOf]; omega⟩
            | (exfalso; omega)
      · have HL := Lib.hid (show ∀ w, Calls Tryd.prog 9 #[.agg #[.int .i64 ps0, .int .u32 pa, .string pc, .int .i64 pf, .int .i64 pu]] w fun e w' => e = .returned (.tuple #[.string { data := #[] }, .int .i64 1]) ∧ Below w.heap.size w w' from fun w => by
          have h := rline_any ps0 pa pc pf pu HFIT.out w
          unfold lineR at h
          rw [if_neg hrp] at h
          exact h)
        have HT := Lib.hid (textR_no HP.out hrp)
        clear hrp
        go_wp2_with (go_at_call 9; (with_reducible refine (HL.out _).mono ?_); rintro e w1 ⟨rfl, hx⟩; have HB1 := Lib.hid (low HB.out hx); clear hx)
        go_ret2
        exact ⟨by rw [HT.out]; rfl, HB1.out⟩
    · obtain rfl : k = n := by omega
      have HT := Lib.hid (textR_yes HLEN.out HR.out)
      go_wp2
      go_ret2
      exact ⟨by rw [HT.out]; rfl, HB.out⟩

/-- No more than a test should have. -/
def fewP (ps : List Pr) : Prop := (∀ p ∈ ps, p.cli.size ≤ 100) ∧ ps.length ≤ 60
set_option maxRecDepth 100000 in
set_option maxHeartbeats 1000000 in
theorem few_any (a : Option Addr) (n c : Nat) (ps : List Pr) (w : World) (hin : PrsIn w a n c ps) (hz : n ≤ 140737488351232) :
    Calls Tryd.prog 14 #[.slice a n c] w fun e w' => ∃ r : Bool, e = .returned (.bool r) ∧ (r = true ↔ fewP ps) ∧ w = w' := by
  have HIN := Lib.hid hin
  have HLEN := Lib.hid hin.1
  clear hin
  go_enter Tryd.func14, Tryd.ntmps14
  go_wp2
  go_loopw [3] (fun i wr => ∃ k : Nat, k ≤ n ∧ i = .int .i64 k ∧ (∀ q ∈ ps.take k, q.cli.size ≤ 100) ∧ w = wr) (fun i _ => n - (intOf i).toNat)
  case atStart => exact ⟨0, by omega, rfl, by simp, rfl⟩
  case round =>
    obtain ⟨k, hk, rfl, hr, rfl⟩ := hrel
    have HR := Lib.hid hr
    clear hr
    by_cases hlt : k < n
    · obtain ⟨p, hp⟩ : ∃ p, ps[k]? = some p := ⟨ps[k]'(by rw [HLEN.out]; exact hlt), List.getElem?_eq_getElem _⟩
      obtain ⟨g, o, rfl, z0, z1, z2, z3, z4⟩ := HIN.out.at hp
      have HP := Lib.hid hp
      clear hp z0 z1 z3 z4
      obtain ⟨pc, hpc⟩ : ∃ x, p.cli = x := ⟨_, rfl⟩
      rw [hpc] at z2
      have HPC := Lib.hid hpc
      clear hpc
      by_cases h100 : pc.size ≤ 100
      · have q1 : decide ((100 : Int) < pc.size) = false := decide_eq_false (by omega)
        have HR2 := Lib.hid (show ∀ q ∈ ps.take (k + 1), q.cli.size ≤ 100 from by
          intro q hq
          rw [ptake_more HP.out] at hq
          rcases List.mem_append.1 hq with h1 | h1
          · exact HR.out q h1
          · rw [List.mem_singleton.1 h1, HPC.out]; exact h100)
        go_wp2
        exact ⟨⟨k + 1, by omega, by go_num, HR2.out, trivial⟩, by simp [intOf]; omega⟩
      · have q1 : decide ((100 : Int) < pc.size) = true := decide_eq_true (by omega)
        have HN := Lib.hid (show ¬ fewP ps from fun h => h100 (by rw [← HPC.out]; exact h.1 p (List.mem_of_getElem? HP.out)))
        go_wp2
        go_ret
        exact ⟨false, rfl, ⟨(fun h => by cases h), fun h => absurd h HN.out⟩, rfl⟩
    · obtain rfl : k = n := by omega
      have HA := Lib.hid (show ∀ q ∈ ps, q.cli.size ≤ 100 from by have h := HR.out; rw [← HLEN.out, List.take_length] at h; exact h)
      by_cases h60 : k ≤ 60
      · have q1 : decide ((k : Int) ≤ 60) = true := decide_eq_true (by omega)
        go_wp2
        go_ret
        exact ⟨true, rfl, ⟨fun _ => ⟨HA.out, by rw [HLEN.out]; exact h60⟩, fun _ => rfl⟩, rfl⟩
      · have q1 : decide ((k : Int) ≤ 60) = false := decide_eq_false (by omega)
        go_wp2
        go_ret
        exact ⟨false, rfl, ⟨(fun h => by cases h), fun h => absurd h.2 (by rw [HLEN.out]; exact h60)⟩, rfl⟩

set_option maxRecDepth 100000 in
set_option maxHeartbeats 1000000 in
theorem same_any (a a2 : Option Addr) (n n2 c c2 : Nat) (ps : List Pr) (w : World) (hin : PrsIn w a n c ps) (hin2 : PrsIn w a2 n2 c2 ps) (hz : n ≤ 140737488351232) :
    Calls Tryd.prog 19 #[.slice a n c, .slice a2 n2 c2] w fun e w' => e = .returned (.bool true) ∧ Below w.heap.size w w' := by
  obtain rfl : n2 = n := hin2.1.symm.trans hin.1
  have HIN := Lib.hid hin
  have HIN2 := Lib.hid hin2
  have HLEN := Lib.hid hin.1
  clear hin hin2
  go_enter Tryd.func19, Tryd.ntmps19
  go_wp2
  go_loopw [5] (fun i wr => ∃ k : Nat, k ≤ n2 ∧ i = .int .i64 k ∧ Below w.heap.size w wr) (fun i _ => n2 - (intOf i).toNat)
  case atStart => exact ⟨0, by omega, rfl, Below.refl _ _⟩
  case round =>
    obtain ⟨k, hk, rfl, hb⟩ := hrel
    have HB := Lib.hid hb
    clear hb
    by_cases hlt : k < n2
    · obtain ⟨p, hp⟩ : ∃ p, ps[k]? = some p := ⟨ps[k]'(by rw [HLEN.out]; exact hlt), List.getElem?_eq_getElem _⟩
      have HC1 := Lib.hid (fun (w' : World) (hb : Below w.heap.size w w') => (HIN.out.keep hb).at hp)
      have HC2 := Lib.hid (fun (w' : World) (hb : Below w.heap.size w w') => (HIN2.out.keep hb).at hp)
      obtain ⟨g, o, rfl, _⟩ := HC1.out _ HB.out
      obtain ⟨g2, o2, rfl, _⟩ := HC2.out _ HB.out
      clear hp
      obtain ⟨ps0, pa, pc, pf, pu⟩ := p
      simp only at HC1 HC2
      go_upto_region 6 with (fail)
      refine wp_region_seq (S := fun wS => Hid (Below w.heap.size w wS)) 9 (by kernel_rfl) (by kernel_rfl) (Lib.hid HB.out.drew) ?_
      simp only [List.take_succ_cons, List.take_zero, List.drop_succ_cons, List.drop_zero]
      refine wpHeld_val (v := ?vs0) (by rfl) ?ys0 ?rs0
      case ys0 => (intro wS hSw; go_simp; try (with_reducible rfl))
      try simp only [Act.put, List.setIfInBounds_toArray, List.set_cons_zero, List.set_cons_succ]
      refine wpHeld_val (v := ?vs1) (by rfl) ?ys1 ?rs1
      case ys1 => (intro wS hSw; go_simp; try (with_reducible rfl))
      try simp only [Act.put, List.setIfInBounds_toArray, List.set_cons_zero, List.set_cons_succ]
      refine wpHeld_val (v := ?vs2) (by rfl) ?ys2 ?rs2
      case ys2 => (intro wS hSw; go_simp; try (with_reducible rfl))
      try simp only [Act.put, List.setIfInBounds_toArray, List.set_cons_zero, List.set_cons_succ]
      refine wpHeld_val (v := .agg #[.int .i64 ps0, .int .u32 pa, .string pc, .int .i64 pf, .int .i64 pu]) (by rfl) ?ys3 ?rs3
      case ys3 => (intro wS hSw; obtain ⟨_, _, e1, z0, z1, z2, z3, z4⟩ := HC1.out _ hSw.out; cases e1; go_simp; try (first | with_reducible rfl | (split <;> omega)))
      try simp only [Act.put, List.setIfInBounds_toArray, List.set_cons_zero, List.set_cons_succ]
      refine wpHeld_val (v := ?vs4) (by rfl) ?ys4 ?rs4
      case ys4 => (intro wS hSw; go_simp; try (with_reducible rfl))
      try simp only [Act.put, List.setIfInBounds_toArray, List.set_cons_zero, List.set_cons_succ]
      refine wpHeld_val (v := ?vs5) (by rfl) ?ys5 ?rs5
      case ys5 => (intro wS hSw; go_simp; try (with_reducible rfl))
      try simp only [Act.put, List.setIfInBounds_toArray, List.set_cons_zero, List.set_cons_succ]
      refine wpHeld_val (v := ?vs6) (by rfl) ?ys6 ?rs6
      case ys6 => (intro wS hSw; go_simp; try (with_reducible rfl))
      try simp only [Act.put, List.setIfInBounds_toArray, List.set_cons_zero, List.set_cons_succ]
      refine wpHeld_val (v := .agg #[.int .i64 ps0, .int .u32 pa, .string pc, .int .i64 pf, .int .i64 pu]) (by rfl) ?ys7 ?rs7
      case ys7 => (intro wS hSw; obtain ⟨_, _, e1, z0, z1, z2, z3, z4⟩ := HC2.out _ hSw.out; cases e1; go_simp; try (first | with_reducible rfl | (split <;> omega)))
      try simp only [Act.put, List.setIfInBounds_toArray, List.set_cons_zero, List.set_cons_succ]
      refine wpHeld_val (v := .bool false) (by rfl) ?ys8 ?rs8
      case ys8 => (intro wS hSw; go_simp; try (first | with_reducible rfl | (split <;> omega)))
      try simp only [Act.put, List.setIfInBounds_toArray, List.set_cons_zero, List.set_cons_succ]
      refine wpHeld_nil ?_
      intro wS hSw
      have hb := Lib.hid hSw.out
      clear hSw
      go_wp2
      exact ⟨⟨k + 1, by omega, by go_num, hb.out⟩, by simp [intOf]; omega⟩
    · go_wp2
      go_ret
      exact ⟨rfl, HB.out⟩

end Go.Proofs.YtodjeidofgbdlaaDoor
