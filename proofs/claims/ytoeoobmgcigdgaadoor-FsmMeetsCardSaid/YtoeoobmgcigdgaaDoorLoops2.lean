/- The walks of the laws of fsm with loops, continued. -/
import Derived.Test.YtoeoobmgcigdgaaDoorLoops
import Derived.Lib.SmallJoins
namespace Go.Proofs.YtoeoobmgcigdgaaDoor
open Go.ChangeShapes Go.WideShapes Go.ChangeAt Go.RowKit
set_option linter.unusedVariables false

theorem calm_next {a b : Int} (a0 : 0 ≤ a) (a1 : a ≤ 2) (b0 : 0 ≤ b) (b1 : b ≤ 2) : nextV a 0 b = 1 := by
  have ha : a = 0 ∨ a = 1 ∨ a = 2 := by omega
  have hb : b = 0 ∨ b = 1 ∨ b = 2 := by omega
  rcases ha with rfl | rfl | rfl <;> rcases hb with rfl | rfl | rfl <;> decide +kernel
theorem next_two {W w : World} {s e o v : Int} (hv : nextV s e o = v) (h : Ext W w) : Calls Tryd.prog 9 #[.int .i64 s, .int .i64 e, .int .i64 o] w fun e' w' => e' = .returned (.int .i64 v) ∧ Ext W w' ∧ Below w.heap.size w w' := by
  subst hv
  obtain ⟨⟨t, fr, hg⟩, _⟩ := h.ready
  exact (next_any s e o w t fr hg).mono fun _ _ ⟨a, b⟩ => ⟨a, h.step b, b⟩
/-- The two counters' block. -/
def Two (w : World) (n : Nat) (c d : Int) : Prop := ∃ t, w.heap[n]? = some (.cells #[.int .i64 c, .int .i64 d] t (0, 0))
theorem Two.cells {w : World} {n : Nat} {c d : Int} (h : Two w n c d) : w.cell? ⟨n, 0, none⟩ = some (.int .i64 c) ∧ w.cell? ⟨n, 1, none⟩ = some (.int .i64 d) ∧ w.frozen? ⟨n, 0, none⟩ = false ∧ w.frozen? ⟨n, 1, none⟩ = false ∧ n < w.heap.size := by
  obtain ⟨t, h⟩ := h
  refine ⟨by simp [World.cell?, h], by simp [World.cell?, h], by simp [World.frozen?, h], by simp [World.frozen?, h], ?_⟩
  rcases Nat.lt_or_ge n w.heap.size with hl | hl
  · exact hl
  · rw [Array.getElem?_eq_none hl] at h; cases h
theorem Two.below {w w' : World} {n : Nat} {c d : Int} (h : Two w n c d) (hb : Below w.heap.size w w') : Two w' n c d := by
  have := h.cells.2.2.2.2
  obtain ⟨t, h⟩ := h
  exact ⟨t, (hb.block n this).trans h⟩
theorem Two.set0 {w : World} {n : Nat} {c d : Int} (h : Two w n c d) (x : Int) : Two (w.setCell ⟨n, 0, none⟩ (.int .i64 x)) n x d := by
  obtain ⟨t, h⟩ := h
  exact ⟨t, by simpa using Go.Joins.block_setCell (i := 0) h (.int .i64 x)⟩
theorem Two.set1 {w : World} {n : Nat} {c d : Int} (h : Two w n c d) (x : Int) : Two (w.setCell ⟨n, 1, none⟩ (.int .i64 x)) n c x := by
  obtain ⟨t, h⟩ := h
  exact ⟨t, by simpa using Go.Joins.block_setCell (i := 1) h (.int .i64 x)⟩
theorem Two.new (w : World) (t : TypeId) : Two (w.alloc (.cells #[.int .i64 0, .int .i64 0] t)) w.heap.size 0 0 := ⟨t, (MapKept.heap_alloc w _).1⟩

theorem walk_FsmMeets (a0 : Int) (a1 : Int) (a2 : Option Addr) (n2 : Nat) (c2 : Nat) (x2 : List (List Value)) (W : World) (w0 : (Lit.int .i64 a0).wf = true) (w1 : (Lit.int .i64 a1).wf = true) (r2 : SliceIn W [.bool] a2 n2 c2 x2) (z2 : n2 * 1 ≤ 140737488351232) (hR : Ready W) :
    Calls Tryd.prog 5 #[.int .i64 a0, .int .i64 a1, .slice a2 n2 c2] W fun e w' => e = .returned (.bool true) ∧ Below W.heap.size W w' := by
  have h0 := Ext.refl hR
  have hn : n2 ≤ 140737488351232 := by omega
  cases ca : (decide (a0 = 0) || decide (a0 = 1) || decide (a0 = 2))
  · go_enter Tryd.func5, Tryd.ntmps5
    go_wp2_with (first | (go_at_call 8; refine (awake_call (by repeat (first | assumption | refine Ext.drew ?_ | refine Ext.alloc ?_ _ | refine Ext.setCell ?_ (by simp) _))).mono ?_; rintro e' w' ⟨rfl, hx⟩) | (go_at_call 11; refine (lcalm_any _ _).mono ?_; rintro e w' ⟨rfl, rfl⟩))
    all_goals
      go_ret
      exact ⟨rfl, hx.1⟩
  · cases cb : (decide (a1 = 0) || decide (a1 = 1) || decide (a1 = 2))
    · go_enter Tryd.func5, Tryd.ntmps5
      go_wp2_with (first | (go_at_call 8; refine (awake_call (by repeat (first | assumption | refine Ext.drew ?_ | refine Ext.alloc ?_ _ | refine Ext.setCell ?_ (by simp) _))).mono ?_; rintro e' w' ⟨rfl, hx⟩) | (go_at_call 11; refine (lcalm_any _ _).mono ?_; rintro e w' ⟨rfl, rfl⟩))
      all_goals
        go_ret
        exact ⟨rfl, hx.1⟩
    · by_cases g : n2 ≤ 100
      · have ra : 0 ≤ a0 ∧ a0 ≤ 2 := by simp at ca; omega
        have rb : 0 ≤ a1 ∧ a1 ≤ 2 := by simp at cb; omega
        have HR := Lib.hid r2
        clear r2 w0 w1
        go_enter Tryd.func5, Tryd.ntmps5
        go_wp2_with (first | (go_at_call 8; refine (awake_call (by repeat (first | assumption | refine Ext.drew ?_ | refine Ext.alloc ?_ _ | refine Ext.setCell ?_ (by simp) _))).mono ?_; rintro e' w' ⟨rfl, hx⟩) | (go_at_call 11; refine (lcalm_any _ _).mono ?_; rintro e w' ⟨rfl, rfl⟩))
        have hW := hx
        clear hx h0
        obtain ⟨wa, rfl⟩ : ∃ wa, wa = w' := ⟨_, rfl⟩
        go_loopw [0, 1, 9] (fun x y i wr => ∃ (k : Nat) (a b c d : Int), k ≤ n2 ∧ i = .int .i64 k ∧ x = .int .i64 a ∧ y = .int .i64 b ∧ 0 ≤ a ∧ a ≤ 2 ∧ 0 ≤ b ∧ b ≤ 2 ∧ 0 ≤ c ∧ c ≤ k ∧ 0 ≤ d ∧ d ≤ k ∧ (c ≤ 0 ∨ a = 1) ∧ (d ≤ 0 ∨ b = 1) ∧ Two wr wa.heap.size c d ∧ Ext W wr) (fun _ _ i _ => n2 - (intOf i).toNat)
        case atStart => exact ⟨0, a0, a1, 0, 0, by omega, rfl, rfl, rfl, ra.1, ra.2, rb.1, rb.2, by omega, by omega, by omega, by omega, .inl (by omega), .inl (by omega), Two.new _ _, hW.alloc _⟩
        case round =>
          obtain ⟨k, a, b, c, d, hk, rfl, rfl, rfl, p1, p2, p3, p4, p5, p6, p7, p8, p9, p10, hT, hE⟩ := hrel
          by_cases hlt : k < n2
          · obtain ⟨bb, o, rfl, hb, hc⟩ := bool_at HR.out (by omega)
            obtain ⟨z, e0⟩ := hc k hlt
            have c0 := (hE.1.cell (p := ⟨bb, o + k, none⟩) hb).trans e0
            have HT := Lib.hid hT
            have HS := Lib.hid hW.1.size
            clear hc e0 hT
            generalize wa.heap.size = m at *
            cases z
            · have HV := Lib.hid (calm_next p3 p4 p1 p2)
              rcases p9 with q | rfl
              · go_wp2_with (go_at_call 9; refine (next_two (W := W) HV.out (by repeat (first | assumption | refine Ext.drew ?_ | refine Ext.alloc ?_ _ | refine Ext.setCell ?_ (by simp) _))).mono ?_; rintro e' w' ⟨rfl, hx, hb⟩; have hT := HT.out.below hb; obtain ⟨t0, t1, t2, t3, t4⟩ := hT.cells; have HT' := Lib.hid hT; clear hT hb)
                all_goals exact ⟨⟨k + 1, a, 1, c, d + 1, by omega, by go_num, rfl, rfl, by omega, by omega, by omega, by omega, by omega, by omega, by omega, by omega, .inl q, .inr rfl, HT'.out.set1 _, hx.setCell (by have := HS.out; simpa using this) _⟩, by simp [intOf]; omega⟩
              · go_wp2_with (go_at_call 9; refine (next_two (W := W) HV.out (by repeat (first | assumption | refine Ext.drew ?_ | refine Ext.alloc ?_ _ | refine Ext.setCell ?_ (by simp) _))).mono ?_; rintro e' w' ⟨rfl, hx, hb⟩; have hT := HT.out.below hb; obtain ⟨t0, t1, t2, t3, t4⟩ := hT.cells; have HT' := Lib.hid hT; clear hT hb)
                all_goals exact ⟨⟨k + 1, 1, 1, c, d + 1, by omega, by go_num, rfl, rfl, by omega, by omega, by omega, by omega, by omega, by omega, by omega, by omega, .inr rfl, .inr rfl, HT'.out.set1 _, hx.setCell (by have := HS.out; simpa using this) _⟩, by simp [intOf]; omega⟩
            · have HV := Lib.hid (calm_next p1 p2 p3 p4)
              rcases p10 with q | rfl
              · go_wp2_with (go_at_call 9; refine (next_two (W := W) HV.out (by repeat (first | assumption | refine Ext.drew ?_ | refine Ext.alloc ?_ _ | refine Ext.setCell ?_ (by simp) _))).mono ?_; rintro e' w' ⟨rfl, hx, hb⟩; have hT := HT.out.below hb; obtain ⟨t0, t1, t2, t3, t4⟩ := hT.cells; have HT' := Lib.hid hT; clear hT hb)
                all_goals exact ⟨⟨k + 1, 1, b, c + 1, d, by omega, by go_num, rfl, rfl, by omega, by omega, by omega, by omega, by omega, by omega, by omega, by omega, .inr rfl, .inl q, HT'.out.set0 _, hx.setCell (by have := HS.out; simpa using this) _⟩, by simp [intOf]; omega⟩
              · go_wp2_with (go_at_call 9; refine (next_two (W := W) HV.out (by repeat (first | assumption | refine Ext.drew ?_ | refine Ext.alloc ?_ _ | refine Ext.setCell ?_ (by simp) _))).mono ?_; rintro e' w' ⟨rfl, hx, hb⟩; have hT := HT.out.below hb; obtain ⟨t0, t1, t2, t3, t4⟩ := hT.cells; have HT' := Lib.hid hT; clear hT hb)
                all_goals exact ⟨⟨k + 1, 1, 1, c + 1, d, by omega, by go_num, rfl, rfl, by omega, by omega, by omega, by omega, by omega, by omega, by omega, by omega, .inr rfl, .inr rfl, HT'.out.set0 _, hx.setCell (by have := HS.out; simpa using this) _⟩, by simp [intOf]; omega⟩
          · go_wp2_with (first | (go_at_call 8; refine (awake_call (by repeat (first | assumption | refine Ext.drew ?_ | refine Ext.alloc ?_ _ | refine Ext.setCell ?_ (by simp) _))).mono ?_; rintro e' w' ⟨rfl, hx⟩) | (go_at_call 11; refine (lcalm_any _ _).mono ?_; rintro e w' ⟨rfl, rfl⟩))
            go_ret
            exact ⟨rfl, hE.1⟩
      · go_enter Tryd.func5, Tryd.ntmps5
        go_wp2_with (first | (go_at_call 8; refine (awake_call (by repeat (first | assumption | refine Ext.drew ?_ | refine Ext.alloc ?_ _ | refine Ext.setCell ?_ (by simp) _))).mono ?_; rintro e' w' ⟨rfl, hx⟩) | (go_at_call 11; refine (lcalm_any _ _).mono ?_; rintro e w' ⟨rfl, rfl⟩))
        all_goals
          go_ret
          exact ⟨rfl, hx.1⟩

end Go.Proofs.YtoeoobmgcigdgaaDoor
