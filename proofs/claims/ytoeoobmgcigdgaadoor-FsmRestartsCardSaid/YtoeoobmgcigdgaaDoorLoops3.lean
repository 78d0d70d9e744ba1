/- The walk of FsmRestarts. -/
import Derived.Test.YtoeoobmgcigdgaaDoorLoops
namespace Go.Proofs.YtoeoobmgcigdgaaDoor
open Go.ChangeShapes Go.WideShapes Go.ChangeAt Go.RowKit
set_option linter.unusedVariables false

theorem cl_in {x : Int} (h0 : 0 ≤ x) (h1 : x ≤ 8) : cl x = x := by unfold cl; rw [if_pos ⟨h0, h1⟩]
theorem start_fin : ∀ b, b < 10 → ∀ c, c < 10 → b ≠ 0 → b ≠ 2 → (nextO 0 ((b : Nat) : Int) ((c : Nat) : Int) 19 0).getD 0 = 0 := by decide +kernel
theorem start_stays {e o : Int} (h0 : e ≠ 0) (h2 : e ≠ 2) : nextV 0 e o = 0 := by
  unfold nextV
  rw [nextFrom_eq, ← nextO_cl]
  obtain ⟨b, hb, eb⟩ := cl_range e
  obtain ⟨c, hc, ec⟩ := cl_range o
  have k0 := cl_iff e (c := 0) (by omega) (by omega)
  have k2 := cl_iff e (c := 2) (by omega) (by omega)
  rw [eb] at k0 k2
  rw [cl_in (by omega) (by omega), eb, ec]
  exact start_fin b hb c hc (by omega) (by omega)
def recOK (a b c : Nat) : Bool := match (nextO (a : Int) (b : Int) (c : Int) 19 0).getD a with
  | v => (decide (4 ≤ v) && decide (v ≤ 8)) || decide (v = 3) || (decide (v = 1) && (decide (b = 3) || (decide (b = 0) && decide (c = 1))))
theorem rec_all : ∀ a, a < 9 → ∀ b, b < 10 → ∀ c, c < 10 → (decide (a < 4) || recOK a b c) = true := by decide +kernel
theorem rec_fin (a : Nat) (ha : a < 9) (h4 : 4 ≤ a) (b : Nat) (hb : b < 10) (c : Nat) (hc : c < 10) :
    (4 ≤ (nextO (a : Int) (b : Int) (c : Int) 19 0).getD a ∧ (nextO (a : Int) (b : Int) (c : Int) 19 0).getD a ≤ 8) ∨ (nextO (a : Int) (b : Int) (c : Int) 19 0).getD a = 3 ∨
    ((nextO (a : Int) (b : Int) (c : Int) 19 0).getD a = 1 ∧ (b = 3 ∨ (b = 0 ∧ c = 1))) := by
  have h := rec_all a ha b hb c hc
  have e : decide (a < 4) = false := by rw [decide_eq_false_iff_not]; omega
  rw [e, Bool.false_or] at h
  unfold recOK at h
  simp only at h
  generalize (nextO (a : Int) (b : Int) (c : Int) 19 0).getD a = v at *
  simp only [Bool.or_eq_true, Bool.and_eq_true, decide_eq_true_eq] at h
  omega
theorem rec_ways {s e o : Int} (h0 : 4 ≤ s) (h1 : s ≤ 8) : (4 ≤ nextV s e o ∧ nextV s e o ≤ 8) ∨ nextV s e o = 3 ∨ (nextV s e o = 1 ∧ (e = 3 ∨ (e = 0 ∧ o = 1))) := by
  unfold nextV
  rw [nextFrom_eq, ← nextO_cl]
  obtain ⟨a, rfl⟩ := Int.eq_ofNat_of_zero_le (show 0 ≤ s by omega)
  obtain ⟨b, hb, eb⟩ := cl_range e
  obtain ⟨c, hc, ec⟩ := cl_range o
  have k0 := cl_iff e (c := 0) (by omega) (by omega)
  have k3 := cl_iff e (c := 3) (by omega) (by omega)
  have l1 := cl_iff o (c := 1) (by omega) (by omega)
  rw [eb] at k0 k3
  rw [ec] at l1
  rw [cl_in (by omega) (by omega), eb, ec]
  rcases rec_fin a (by omega) (by omega) b hb c hc with h | h | ⟨h, k⟩
  · exact .inl h
  · exact .inr (.inl h)
  · exact .inr (.inr ⟨h, by omega⟩)
theorem serves_no {v : Int} (h : v = 0 ∨ 4 ≤ v) : inV v 14 = false := by
  rw [serves_eq]
  have h2 : decide (v = 1) = false := by rw [decide_eq_false_iff_not]; omega
  have h3 : decide (v = 2) = false := by rw [decide_eq_false_iff_not]; omega
  have h4 : decide (v = 3) = false := by rw [decide_eq_false_iff_not]; omega
  rw [h2, h3, h4]
  rfl

set_option maxRecDepth 100000 in
set_option maxHeartbeats 2000000 in
theorem walk_FsmRestarts (a0 : Int) (a1 : Option Addr) (n1 : Nat) (c1 : Nat) (x1 : List (List Value)) (W : World) (w0 : (Lit.int .i64 a0).wf = true) (r1 : SliceIn W [.int .i64, .int .i64] a1 n1 c1 x1) (z1 : n1 * 16 ≤ 140737488351232) (hR : Ready W) :
    Calls Tryd.prog 7 #[.int .i64 a0, .slice a1 n1 c1] W fun e w' => e = .returned (.bool true) ∧ Below W.heap.size W w' := by
  have h0 := Ext.refl hR
  have hn : n1 ≤ 8796093022207 := by omega
  by_cases g : ((0 ≤ a0 ∧ a0 ≤ 8) ∧ a0 ≠ 3) ∧ n1 ≤ 300
  · obtain ⟨⟨⟨g1, g2⟩, g4⟩, g3⟩ := g
    have G4 : (a0 == 3) = false := beq_eq_false_iff_ne.2 g4
    have G5 : (if a0 = 3 then (3 : Int) else 0) = 0 := if_neg g4
    go_enter Tryd.func7, Tryd.ntmps7
    go_wp2_with (first | (go_at_call 8; refine (awake_call (by repeat (first | assumption | refine Ext.drew ?_ | refine Ext.alloc ?_ _ | refine Ext.setCell ?_ (by simp) _))).mono ?_; rintro e' w' ⟨rfl, hx⟩) | (go_at_call 14; refine (restart_any _ _).mono ?_; rintro e w' ⟨rfl, rfl⟩))
    have hW := hx
    clear hx h0 G5
    have HR := Lib.hid r1
    clear r1
    go_loopw [6, 7, 8, 9] (fun s hh rr i wr => ∃ (k : Nat) (st : Int) (h r : Bool), k ≤ n1 ∧ i = .int .i64 k ∧ s = .int .i64 st ∧ hh = .bool h ∧ rr = .bool r ∧ 0 ≤ st ∧ st ≤ 8 ∧ (h = false → st = 0) ∧ (r = true → 4 ≤ st ∧ st ≤ 8) ∧ Ext W wr) (fun _ _ _ i _ => n1 - (intOf i).toNat)
    case atStart => exact ⟨0, 0, false, false, by omega, rfl, rfl, rfl, rfl, by omega, by omega, fun _ => rfl, fun h => (by cases h), hW⟩
    case round =>
      obtain ⟨k, st, h, r, hk, rfl, rfl, rfl, rfl, s1, s2, p1, p2, hE⟩ := hrel
      by_cases hlt : k < n1
      · obtain ⟨b, o, rfl, hb, hc⟩ := pair_at HR.out (by omega)
        obtain ⟨z0, z1, e0, e1, v0, v1⟩ := hc k hlt
        have c0 := (hE.1.cell (p := ⟨b, o + k * 2, none⟩) hb).trans e0
        have c1 := (hE.1.cell (p := ⟨b, o + k * 2 + 1, none⟩) hb).trans e1
        have E0 := Lib.hid e0
        have E1 := Lib.hid e1
        clear hc e0 e1
        obtain ⟨f1, f2, _⟩ := next_order z0 z1 s1 s2
        obtain ⟨v, hv⟩ : ∃ v, nextV st z0 z1 = v := ⟨_, rfl⟩
        rw [hv] at f1 f2
        have HV := Lib.hid hv
        clear hv
        cases h
        · have hst := p1 rfl
          subst hst
          clear p1
          by_cases x0 : z0 = 0
          · subst x0
            obtain rfl : r = false := by
              cases r
              · rfl
              · have := p2 rfl; omega
            by_cases v6 : v = 6
            · subst v6
              have HS := serves_no (v := 6) (.inr (by omega))
              go_wp2_with fail; go_still_tail 11, (by kernel_rfl); go_wp2_with (first | (go_at_call 9; refine (next_is (W := W) HV.out (by repeat (first | assumption | refine Ext.drew ?_ | refine Ext.alloc ?_ _ | refine Ext.setCell ?_ (by simp) _))).mono ?_; rintro e' w' ⟨rfl, hx⟩; have c2 := (hx.1.cell (p := ⟨b, o + k * 2, none⟩) hb).trans E0.out; have c3 := (hx.1.cell (p := ⟨b, o + k * 2 + 1, none⟩) hb).trans E1.out) | (go_at_call 12; refine (serves_any _ _).mono ?_; rintro e w' ⟨rfl, rfl⟩))
              all_goals exact ⟨⟨k + 1, 6, true, true, by omega, by go_num, rfl, rfl, rfl, f1, f2, by simp, (fun _ => ⟨by omega, by omega⟩), by assumption⟩, by simp [intOf]; omega⟩
            · have b6 : (v == 6) = false := beq_eq_false_iff_ne.2 v6
              clear v6
              go_wp2_with fail; go_still_tail 11, (by kernel_rfl); go_wp2_with (first | (go_at_call 9; refine (next_is (W := W) HV.out (by repeat (first | assumption | refine Ext.drew ?_ | refine Ext.alloc ?_ _ | refine Ext.setCell ?_ (by simp) _))).mono ?_; rintro e' w' ⟨rfl, hx⟩; have c2 := (hx.1.cell (p := ⟨b, o + k * 2, none⟩) hb).trans E0.out; have c3 := (hx.1.cell (p := ⟨b, o + k * 2 + 1, none⟩) hb).trans E1.out) | (go_at_call 12; refine (serves_any _ _).mono ?_; rintro e w' ⟨rfl, rfl⟩))
              all_goals exact ⟨⟨k + 1, v, true, false, by omega, by go_num, rfl, rfl, rfl, f1, f2, by simp, (fun h => by cases h), by assumption⟩, by simp [intOf]; omega⟩
          · have y0 : (z0 == 0) = false := beq_eq_false_iff_ne.2 x0
            obtain rfl : r = false := by
              cases r
              · rfl
              · have := p2 rfl; omega
            by_cases x2 : z0 = 2
            · subst x2
              clear x0
              by_cases v6 : v = 6
              · subst v6
                have HS := serves_no (v := 6) (.inr (by omega))
                go_wp2_with fail; go_still_tail 11, (by kernel_rfl); go_wp2_with (first | (go_at_call 9; refine (next_is (W := W) HV.out (by repeat (first | assumption | refine Ext.drew ?_ | refine Ext.alloc ?_ _ | refine Ext.setCell ?_ (by simp) _))).mono ?_; rintro e' w' ⟨rfl, hx⟩; have c2 := (hx.1.cell (p := ⟨b, o + k * 2, none⟩) hb).trans E0.out; have c3 := (hx.1.cell (p := ⟨b, o + k * 2 + 1, none⟩) hb).trans E1.out) | (go_at_call 12; refine (serves_any _ _).mono ?_; rintro e w' ⟨rfl, rfl⟩))
                all_goals exact ⟨⟨k + 1, 6, true, true, by omega, by go_num, rfl, rfl, rfl, f1, f2, by simp, (fun _ => ⟨by omega, by omega⟩), by assumption⟩, by simp [intOf]; omega⟩
              · have b6 : (v == 6) = false := beq_eq_false_iff_ne.2 v6
                clear v6
                go_wp2_with fail; go_still_tail 11, (by kernel_rfl); go_wp2_with (first | (go_at_call 9; refine (next_is (W := W) HV.out (by repeat (first | assumption | refine Ext.drew ?_ | refine Ext.alloc ?_ _ | refine Ext.setCell ?_ (by simp) _))).mono ?_; rintro e' w' ⟨rfl, hx⟩; have c2 := (hx.1.cell (p := ⟨b, o + k * 2, none⟩) hb).trans E0.out; have c3 := (hx.1.cell (p := ⟨b, o + k * 2 + 1, none⟩) hb).trans E1.out) | (go_at_call 12; refine (serves_any _ _).mono ?_; rintro e w' ⟨rfl, rfl⟩))
                all_goals exact ⟨⟨k + 1, v, true, false, by omega, by go_num, rfl, rfl, rfl, f1, f2, by simp, (fun h => by cases h), by assumption⟩, by simp [intOf]; omega⟩
            · have y2 : (z0 == 2) = false := beq_eq_false_iff_ne.2 x2
              have hv0 := start_stays (o := z1) x0 x2
              obtain rfl : v = 0 := HV.out.symm.trans hv0
              clear x0 x2 hv0
              have HS := serves_no (v := 0) (.inl rfl)
              have b6 : ((0 : Int) == 6) = false := by decide
              go_wp2_with fail; go_still_tail 11, (by kernel_rfl); go_wp2_with (first | (go_at_call 9; refine (next_is (W := W) HV.out (by repeat (first | assumption | refine Ext.drew ?_ | refine Ext.alloc ?_ _ | refine Ext.setCell ?_ (by simp) _))).mono ?_; rintro e' w' ⟨rfl, hx⟩; have c2 := (hx.1.cell (p := ⟨b, o + k * 2, none⟩) hb).trans E0.out; have c3 := (hx.1.cell (p := ⟨b, o + k * 2 + 1, none⟩) hb).trans E1.out) | (go_at_call 12; refine (serves_any _ _).mono ?_; rintro e w' ⟨rfl, rfl⟩))
              all_goals exact ⟨⟨k + 1, 0, false, false, by omega, by go_num, rfl, rfl, rfl, f1, f2, (fun _ => rfl), (fun h => by cases h), by assumption⟩, by simp [intOf]; omega⟩
        · cases r
          · by_cases v6 : v = 6
            · subst v6
              have HS := serves_no (v := 6) (.inr (by omega))
              go_wp2_with fail; go_still_tail 11, (by kernel_rfl); go_wp2_with (first | (go_at_call 9; refine (next_is (W := W) HV.out (by repeat (first | assumption | refine Ext.drew ?_ | refine Ext.alloc ?_ _ | refine Ext.setCell ?_ (by simp) _))).mono ?_; rintro e' w' ⟨rfl, hx⟩; have c2 := (hx.1.cell (p := ⟨b, o + k * 2, none⟩) hb).trans E0.out; have c3 := (hx.1.cell (p := ⟨b, o + k * 2 + 1, none⟩) hb).trans E1.out) | (go_at_call 12; refine (serves_any _ _).mono ?_; rintro e w' ⟨rfl, rfl⟩))
              all_goals exact ⟨⟨k + 1, 6, true, true, by omega, by go_num, rfl, rfl, rfl, f1, f2, by simp, (fun _ => ⟨by omega, by omega⟩), by assumption⟩, by simp [intOf]; omega⟩
            · have b6 : (v == 6) = false := beq_eq_false_iff_ne.2 v6
              clear v6
              go_wp2_with fail; go_still_tail 11, (by kernel_rfl); go_wp2_with (first | (go_at_call 9; refine (next_is (W := W) HV.out (by repeat (first | assumption | refine Ext.drew ?_ | refine Ext.alloc ?_ _ | refine Ext.setCell ?_ (by simp) _))).mono ?_; rintro e' w' ⟨rfl, hx⟩; have c2 := (hx.1.cell (p := ⟨b, o + k * 2, none⟩) hb).trans E0.out; have c3 := (hx.1.cell (p := ⟨b, o + k * 2 + 1, none⟩) hb).trans E1.out) | (go_at_call 12; refine (serves_any _ _).mono ?_; rintro e w' ⟨rfl, rfl⟩))
              all_goals exact ⟨⟨k + 1, v, true, false, by omega, by go_num, rfl, rfl, rfl, f1, f2, by simp, (fun h => by cases h), by assumption⟩, by simp [intOf]; omega⟩
          · obtain ⟨g1, g2⟩ := p2 rfl
            have HW := rec_ways (s := st) (e := z0) (o := z1) g1 g2
            rw [HV.out] at HW
            rcases HW with ⟨u1, u2⟩ | rfl | ⟨rfl, u1⟩
            · have HS := serves_no (v := v) (.inr u1)
              go_wp2_with fail; go_still_tail 11, (by kernel_rfl); go_wp2_with (first | (go_at_call 9; refine (next_is (W := W) HV.out (by repeat (first | assumption | refine Ext.drew ?_ | refine Ext.alloc ?_ _ | refine Ext.setCell ?_ (by simp) _))).mono ?_; rintro e' w' ⟨rfl, hx⟩; have c2 := (hx.1.cell (p := ⟨b, o + k * 2, none⟩) hb).trans E0.out; have c3 := (hx.1.cell (p := ⟨b, o + k * 2 + 1, none⟩) hb).trans E1.out) | (go_at_call 12; refine (serves_any _ _).mono ?_; rintro e w' ⟨rfl, rfl⟩))
              all_goals exact ⟨⟨k + 1, v, true, true, by omega, by go_num, rfl, rfl, rfl, f1, f2, by simp, (fun _ => ⟨u1, u2⟩), by assumption⟩, by simp [intOf]; omega⟩
            · have HS : inV 3 14 = true := by decide
              go_wp2_with fail; go_still_tail 11, (by kernel_rfl); go_wp2_with (first | (go_at_call 9; refine (next_is (W := W) HV.out (by repeat (first | assumption | refine Ext.drew ?_ | refine Ext.alloc ?_ _ | refine Ext.setCell ?_ (by simp) _))).mono ?_; rintro e' w' ⟨rfl, hx⟩; have c2 := (hx.1.cell (p := ⟨b, o + k * 2, none⟩) hb).trans E0.out; have c3 := (hx.1.cell (p := ⟨b, o + k * 2 + 1, none⟩) hb).trans E1.out) | (go_at_call 12; refine (serves_any _ _).mono ?_; rintro e w' ⟨rfl, rfl⟩))
              all_goals
                go_ret
                exact ⟨rfl, hx.1⟩
            · have HS : inV 1 14 = true := by decide
              rcases u1 with u1 | ⟨u1, u3⟩
              · subst u1
                go_wp2_with fail; go_still_tail 11, (by kernel_rfl); go_wp2_with (first | (go_at_call 9; refine (next_is (W := W) HV.out (by repeat (first | assumption | refine Ext.drew ?_ | refine Ext.alloc ?_ _ | refine Ext.setCell ?_ (by simp) _))).mono ?_; rintro e' w' ⟨rfl, hx⟩; have c2 := (hx.1.cell (p := ⟨b, o + k * 2, none⟩) hb).trans E0.out; have c3 := (hx.1.cell (p := ⟨b, o + k * 2 + 1, none⟩) hb).trans E1.out) | (go_at_call 12; refine (serves_any _ _).mono ?_; rintro e w' ⟨rfl, rfl⟩))
                all_goals
                  go_ret
                  exact ⟨rfl, hx.1⟩
              · subst u1
                subst u3
                go_wp2_with fail; go_still_tail 11, (by kernel_rfl); go_wp2_with (first | (go_at_call 9; refine (next_is (W := W) HV.out (by repeat (first | assumption | refine Ext.drew ?_ | refine Ext.alloc ?_ _ | refine Ext.setCell ?_ (by simp) _))).mono ?_; rintro e' w' ⟨rfl, hx⟩; have c2 := (hx.1.cell (p := ⟨b, o + k * 2, none⟩) hb).trans E0.out; have c3 := (hx.1.cell (p := ⟨b, o + k * 2 + 1, none⟩) hb).trans E1.out) | (go_at_call 12; refine (serves_any _ _).mono ?_; rintro e w' ⟨rfl, rfl⟩))
                all_goals
                  go_ret
                  exact ⟨rfl, hx.1⟩
      · go_wp2_with (first | (go_at_call 8; refine (awake_call (by repeat (first | assumption | refine Ext.drew ?_ | refine Ext.alloc ?_ _ | refine Ext.setCell ?_ (by simp) _))).mono ?_; rintro e' w' ⟨rfl, hx⟩) | (go_at_call 14; refine (restart_any _ _).mono ?_; rintro e w' ⟨rfl, rfl⟩))
        go_ret
        exact ⟨rfl, hE.1⟩
  · go_enter Tryd.func7, Tryd.ntmps7
    go_wp2_with (first | (go_at_call 8; refine (awake_call (by repeat (first | assumption | refine Ext.drew ?_ | refine Ext.alloc ?_ _ | refine Ext.setCell ?_ (by simp) _))).mono ?_; rintro e' w' ⟨rfl, hx⟩) | (go_at_call 14; refine (restart_any _ _).mono ?_; rintro e w' ⟨rfl, rfl⟩))
    all_goals
      go_ret
      exact ⟨rfl, hx.1⟩

end Go.Proofs.YtoeoobmgcigdgaaDoor
