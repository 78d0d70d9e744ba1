/- The keys of a map of addresses, sorted: so many. -/
import Derived.Test.YtodjeidofgbdlaaGreatDoorAps
import Derived.Test.YtodjeidofgbdlaaGreatDoorSrh
namespace Go.Proofs.YtodjeidofgbdlaaGreatDoor
open Go.ChangeShapes Go.WideShapes Go.ChangeAt Go.RowKit Go.Maps
set_option linter.unusedVariables false
set_option linter.unusedSimpArgs false
theorem acollect_any (Bs b nn N : Nat) (D0 : DataW Unit) (w : World) (R : Value → Option (DataW Unit × List MemPlace)) (hBw : Bs < w.heap.size) (hc : w.cell? ⟨Bs, 0, none⟩ = some (.map (some b))) (hown : w.ownsMap Tryz.prog 27 R b nn D0) (hN : (keysU D0).length < N) (hN2 : N ≤ 100000) (hb : b < Bs) :
    Calls Tryz.prog 37 #[.func (.func 39) #[] #[.pointer (some ⟨Bs, 0, none⟩)]] w fun e w' => ∃ (v : Value) (xs : List Int), e = .returned v ∧ xs.Perm (keysU D0) ∧ w'.ownsRow w.heap.size 27 1 v xs.length (xs.map (Value.int .u32)) ∧ Below w.heap.size w w' := by
  have HA := Lib.hid (aappend_any Bs b nn N D0 w R hBw hc hown hN hN2 hb)
  clear hc hown hN hb
  go_enter Tryz.func37, Tryz.ntmps37
  go_wp2_with (go_at_call 60; refine (HA.out).mono ?_; rintro e w1 ⟨v, xs, rfl, hp, hr, hbb⟩)
  go_ret
  exact ⟨v, xs, rfl, hp, hr, hbb⟩
theorem sort_own {base n : Nat} {v : Value} {xs : List Int} {w : World} (h : w.ownsRow base 27 1 v n (xs.map (Value.int .u32))) (hl : xs.length = n) (hn : n ≤ 1000000) :
    Calls Tryz.prog 38 #[v] w fun e w' => e = .returned (.tuple #[]) ∧ w.grownBy w' v.ownBlock := by
  rcases h.2 with ⟨rfl, h0⟩ | ⟨g, cap, cur, rfl, hb, hgb, hrest⟩
  · refine (sortU_nil 0 w).mono ?_
    rintro e w' ⟨rfl, rfl⟩
    exact ⟨rfl, ⟨rfl, rfl, rfl, Nat.le_refl _, fun _ _ _ => rfl⟩⟩
  · have hrow : RowU w g xs.toArray := by
      intro j hj
      have hj' : j < xs.length := by simpa using hj
      refine ⟨?_, frozen_of_row w g j cur _ hgb⟩
      rw [cell_of_row w g j cur _ _ hgb]
      have h1 := congrArg (fun l => l[j]?) hrest.2.2.2
      simp only [Nat.mul_one] at h1
      rw [List.getElem?_take_of_lt (by omega), List.getElem?_map] at h1
      rw [← Array.getElem?_toList, h1, List.getElem?_eq_getElem hj']
      simp [hj']
    refine (sortU_any g n cap xs.toArray (by simpa using hl) hn w hrow (Array.getElem?_eq_some_iff.1 hgb).1).mono ?_
    rintro e w' ⟨rfl, d', hs⟩
    exact ⟨rfl, hs.grown⟩
theorem asorted_any (Bs b nn N : Nat) (D0 : DataW Unit) (w : World) (R : Value → Option (DataW Unit × List MemPlace)) (hBw : Bs < w.heap.size) (hc : w.cell? ⟨Bs, 0, none⟩ = some (.map (some b))) (hown : w.ownsMap Tryz.prog 27 R b nn D0) (hN : (keysU D0).length < N) (hN2 : N ≤ 100000) (hb : b < Bs) :
    Calls Tryz.prog 21 #[.func (.func 39) #[] #[.pointer (some ⟨Bs, 0, none⟩)]] w fun e w' => ∃ a c, e = .returned (.slice a (keysU D0).length c) ∧ Below w.heap.size w w' := by
  have HA := Lib.hid (acollect_any Bs b nn N D0 w R hBw hc hown hN hN2 hb)
  have HN := Lib.hid hN
  clear hc hown hN hb
  go_enter Tryz.func21, Tryz.ntmps21
  go_wp2_with (first | (go_at_call 37; refine (HA.out).mono ?_; rintro e w1 ⟨v, xs, rfl, hp, hr, hbb⟩) | (go_at_call 38; refine (sort_own hr rfl (by have := hp.length_eq; have := HN.out; omega)).mono ?_; rintro e w2 ⟨rfl, hg⟩))
  go_ret
  have hle := hp.length_eq
  rcases hr.2 with ⟨rfl, h0⟩ | ⟨g, cap, cur, rfl, hbase, _⟩
  · exact ⟨none, 0, by rw [← hle, h0]; rfl, hbb.grown hg hbb.size (fun k e => by cases e)⟩
  · exact ⟨_, cap, by rw [← hle]; rfl, hbb.grown hg hbb.size (fun k e => by simp [Value.ownBlock] at e; omega)⟩
end Go.Proofs.YtodjeidofgbdlaaGreatDoor
