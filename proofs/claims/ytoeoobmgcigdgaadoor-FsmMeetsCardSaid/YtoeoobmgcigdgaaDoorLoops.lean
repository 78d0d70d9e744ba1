/- The walks of the laws of fsm with loops. -/
import Derived.Test.YtoeoobmgcigdgaaDoorLaws
import Derived.Test.YtoeoobmgcigdgaaDoorOpen
import Derived.StillTailTactics
namespace Go.Proofs.YtoeoobmgcigdgaaDoor
open Go.ChangeShapes Go.WideShapes Go.ChangeAt Go.RowKit
set_option linter.unusedVariables false

/-- One pair of a slice of pairs of numbers. -/
theorem pair_at {W : World} {a : Option Addr} {n c : Nat} {xs : List (List Value)} (h : SliceIn W [.int .i64, .int .i64] a n c xs) (h0 : 0 < n) :
    ∃ b o, a = some ⟨b, o, none⟩ ∧ b < W.heap.size ∧ ∀ i, i < n → ∃ z0 z1 : Int, W.cell? ⟨b, o + i * 2, none⟩ = some (.int .i64 z0) ∧ W.cell? ⟨b, o + i * 2 + 1, none⟩ = some (.int .i64 z1) ∧ (Lit.int .i64 z0).wf = true ∧ (Lit.int .i64 z1).wf = true := by
  obtain ⟨q1, q2, q3, q4, q5, q6⟩ := h
  obtain ⟨b, o, ha, hb, hc⟩ := q6 h0
  refine ⟨b, o, ha, hb, fun i hi => ?_⟩
  have hm : xs.getD i [] ∈ xs := by
    rw [List.getD_eq_getElem?_getD, List.getElem?_eq_getElem (by omega)]
    exact List.getElem_mem _
  obtain ⟨_, _, e, ⟨z0, rfl, w0⟩, _, _, rfl, ⟨z1, rfl, w1⟩, rfl⟩ := q2 _ hm
  have h1 := hc i 0 hi (by decide)
  have h2 := hc i 1 hi (by decide)
  rw [e] at h1 h2
  exact ⟨z0, z1, h1, h2, w0, w1⟩
/-- One bool of a slice of bools. -/
theorem bool_at {W : World} {a : Option Addr} {n c : Nat} {xs : List (List Value)} (h : SliceIn W [.bool] a n c xs) (h0 : 0 < n) :
    ∃ b o, a = some ⟨b, o, none⟩ ∧ b < W.heap.size ∧ ∀ i, i < n → ∃ z : Bool, W.cell? ⟨b, o + i, none⟩ = some (.bool z) := by
  obtain ⟨q1, q2, q3, q4, q5, q6⟩ := h
  obtain ⟨b, o, ha, hb, hc⟩ := q6 h0
  refine ⟨b, o, ha, hb, fun i hi => ?_⟩
  have hm : xs.getD i [] ∈ xs := by
    rw [List.getD_eq_getElem?_getD, List.getElem?_eq_getElem (by omega)]
    exact List.getElem_mem _
  obtain ⟨_, _, e, ⟨z0, rfl⟩, rfl⟩ := q2 _ hm
  have h1 := hc i 0 hi (by decide)
  rw [e] at h1
  simp only [List.length_cons, List.length_nil, Nat.zero_add, Nat.mul_one, Nat.add_zero] at h1
  exact ⟨z0, h1⟩
theorem row_d (k : Nat) (hk : k < 19) : 0 ≤ rowD k ∧ rowD k ≤ 8 ∧ (rowD k = 3 → rowB k = 2) := by
  have : k = 0 ∨ k = 1 ∨ k = 2 ∨ k = 3 ∨ k = 4 ∨ k = 5 ∨ k = 6 ∨ k = 7 ∨ k = 8 ∨ k = 9 ∨ k = 10 ∨ k = 11 ∨ k = 12 ∨ k = 13 ∨ k = 14 ∨ k = 15 ∨ k = 16 ∨ k = 17 ∨ k = 18 := by omega
  rcases this with rfl | rfl | rfl | rfl | rfl | rfl | rfl | rfl | rfl | rfl | rfl | rfl | rfl | rfl | rfl | rfl | rfl | rfl | rfl <;> decide
theorem from_order {s : Int} (e o : Int) (h0 : 0 ≤ s) (h1 : s ≤ 8) : ∀ m k, k + m ≤ 19 → 0 ≤ nextFrom s e o m k ∧ nextFrom s e o m k ≤ 8 ∧ (nextFrom s e o m k = 3 → s = 3 ∨ e = 2)
  | 0, k, _ => ⟨h0, h1, fun h => .inl h⟩
  | m + 1, k, hk => by
    unfold nextFrom
    split
    · next hf =>
      obtain ⟨d1, d2, d3⟩ := row_d k (by omega)
      refine ⟨d1, d2, fun h => .inr ?_⟩
      unfold fits at hf
      simp only [Bool.and_eq_true, decide_eq_true_eq] at hf
      have := d3 h
      omega
    · exact from_order e o h0 h1 m (k + 1) (by omega)
/-- Nothing but an order leads to PartnerDown. -/
theorem next_order {s : Int} (e o : Int) (h0 : 0 ≤ s) (h1 : s ≤ 8) : 0 ≤ nextV s e o ∧ nextV s e o ≤ 8 ∧ ((nextV s e o == 3) = false ∨ ((nextV s e o == 3) = true ∧ (s != nextV s e o) = false) ∨ ((nextV s e o == 3) = true ∧ (e != 2) = false)) := by
  obtain ⟨a, b, c⟩ := from_order e o h0 h1 19 0 (by omega)
  refine ⟨a, b, ?_⟩
  unfold nextV at *
  by_cases h : nextFrom s e o 19 0 = 3
  · rcases c h with h2 | h2
    · exact .inr (.inl ⟨beq_iff_eq.2 h, by rw [h, h2]; rfl⟩)
    · exact .inr (.inr ⟨beq_iff_eq.2 h, by rw [h2]; rfl⟩)
  · exact .inl (beq_eq_false_iff_ne.2 h)
theorem next_is {W w : World} {s e o v : Int} (hv : nextV s e o = v) (h : Ext W w) : Calls Tryd.prog 9 #[.int .i64 s, .int .i64 e, .int .i64 o] w fun e' w' => e' = .returned (.int .i64 v) ∧ Ext W w' := by
  subst hv
  exact next_call h s e o

theorem walk_FsmOrders (a0 : Int) (a1 : Option Addr) (n1 : Nat) (c1 : Nat) (x1 : List (List Value)) (W : World) (w0 : (Lit.int .i64 a0).wf = true) (r1 : SliceIn W [.int .i64, .int .i64] a1 n1 c1 x1) (z1 : n1 * 16 ≤ 140737488351232) (hR : Ready W) :
    Calls Tryd.prog 4 #[.int .i64 a0, .slice a1 n1 c1] W fun e w' => e = .returned (.bool true) ∧ Below W.heap.size W w' := by
  have h0 := Ext.refl hR
  have hn : n1 ≤ 8796093022207 := by omega
  by_cases g : (0 ≤ a0 ∧ a0 ≤ 8) ∧ n1 ≤ 300
  · obtain ⟨⟨g1, g2⟩, g3⟩ := g
    go_enter Tryd.func4, Tryd.ntmps4
    go_wp2_with (go_at_call 8; refine (awake_call (by repeat (first | assumption | refine Ext.drew ?_ | refine Ext.alloc ?_ _ | refine Ext.setCell ?_ (by simp) _))).mono ?_; rintro e' w' ⟨rfl, hx⟩)
    have hW := hx
    clear hx h0
    have HR := Lib.hid r1
    clear r1
    go_loopw [0, 6] (fun s i wr => ∃ (k : Nat) (st : Int), k ≤ n1 ∧ i = .int .i64 k ∧ s = .int .i64 st ∧ 0 ≤ st ∧ st ≤ 8 ∧ Ext W wr) (fun _ i _ => n1 - (intOf i).toNat)
    case atStart => exact ⟨0, a0, by omega, rfl, rfl, g1, g2, hW⟩
    case round =>
      obtain ⟨k, st, hk, rfl, rfl, s1, s2, hE⟩ := hrel
      by_cases hlt : k < n1
      · obtain ⟨b, o, rfl, hb, hc⟩ := pair_at HR.out (by omega)
        obtain ⟨z0, z1, e0, e1, v0, v1⟩ := hc k hlt
        have c0 := (hE.1.cell (p := ⟨b, o + k * 2, none⟩) hb).trans e0
        have c1 := (hE.1.cell (p := ⟨b, o + k * 2 + 1, none⟩) hb).trans e1
        have E0 := Lib.hid e0
        clear hc e0 e1
        obtain ⟨f1, f2, f3⟩ := next_order z0 z1 s1 s2
        obtain ⟨v, hv⟩ : ∃ v, nextV st z0 z1 = v := ⟨_, rfl⟩
        rw [hv] at f1 f2 f3
        have HV := Lib.hid hv
        clear hv
        go_wp2_with fail
        go_still_tail 11, (by kernel_rfl)
        rcases f3 with f3 | ⟨f3, f4⟩ | ⟨f3, f4⟩
        all_goals
          go_wp2_with (go_at_call 9; refine (next_is (W := W) HV.out (by repeat (first | assumption | refine Ext.drew ?_ | refine Ext.alloc ?_ _ | refine Ext.setCell ?_ (by simp) _))).mono ?_; rintro e' w' ⟨rfl, hx⟩; have c2 := (hx.1.cell (p := ⟨b, o + k * 2, none⟩) hb).trans E0.out)
          all_goals exact ⟨⟨k + 1, v, by omega, by go_num, rfl, f1, f2, by assumption⟩, by simp [intOf]; omega⟩
      · go_wp2_with (go_at_call 8; refine (awake_call (by repeat (first | assumption | refine Ext.drew ?_ | refine Ext.alloc ?_ _ | refine Ext.setCell ?_ (by simp) _))).mono ?_; rintro e' w' ⟨rfl, hx⟩)
        go_ret
        exact ⟨rfl, hE.1⟩
  · go_enter Tryd.func4, Tryd.ntmps4
    go_wp2_with (go_at_call 8; refine (awake_call (by repeat (first | assumption | refine Ext.drew ?_ | refine Ext.alloc ?_ _ | refine Ext.setCell ?_ (by simp) _))).mono ?_; rintro e' w' ⟨rfl, hx⟩)
    all_goals
      go_ret
      exact ⟨rfl, hx.1⟩

end Go.Proofs.YtoeoobmgcigdgaaDoor
