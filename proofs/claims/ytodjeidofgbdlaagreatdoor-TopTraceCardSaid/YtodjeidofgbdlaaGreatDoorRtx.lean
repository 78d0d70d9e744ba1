/- Promises as a text, by the reference; few of them; the same ones. -/
import Derived.Test.YtodjeidofgbdlaaGreatDoorTxt
namespace Go.Proofs.YtodjeidofgbdlaaGreatDoor
open Go.ChangeShapes Go.WideShapes Go.ChangeAt Go.RowKit
set_option linter.unusedVariables false
set_option linter.unusedSimpArgs false

/-- No more than a test should have. -/
def fewP (ps : List Pr) : Prop := (∀ p ∈ ps, p.cli.size ≤ 100) ∧ ps.length ≤ 60
set_option maxRecDepth 100000 in
set_option maxHeartbeats 1000000 in
theorem few_any (a : Option Addr) (n c : Nat) (ps : List Pr) (w : World) (hin : PrsIn w a n c ps) (hz : n ≤ 140737488351232) :
    Calls Tryz.prog 5 #[.slice a n c] w fun e w' => ∃ r : Bool, e = .returned (.bool r) ∧ (r = true ↔ fewP ps) ∧ w = w' := by
  have HIN := Lib.hid hin
  have HLEN := Lib.hid hin.1
  clear hin
  go_enter Tryz.func5, Tryz.ntmps5
  go_wp2
  go_loopw [3] (fun i wr => ∃ k : Nat, k ≤ n ∧ i = .int .i64 k ∧ (∀ q ∈ ps.take k, q.cli.size ≤ 100) ∧ w = wr) (fun i _ => n - (intOf i).toNat)
  case atStart => exact ⟨0, by omega, rfl, by simp, rfl⟩
  case round =>
    obtain ⟨k, hk, rfl, hr, rfl⟩ := hrel
    have HR := Lib.hid hr
    clear hr
    by_cases hlt : k < n
    · obtain ⟨p, hp⟩ : ∃ p, ps[k]? = some p := ⟨ps[k]'(by rw [HLEN.out]; exact hlt), List.getElem?_eq_getElem _⟩
      obtain ⟨g, o, rfl, z0, z1, z2, z3, z4⟩ := HIN.out.at hp
      have HP := Lib.hid hp
      clear hp z0 z1 z3 z4
      obtain ⟨pc, hpc⟩ : ∃ x, p.cli = x := ⟨_, rfl⟩
      rw [hpc] at z2
      have HPC := Lib.hid hpc
      clear hpc
      by_cases h100 : pc.size ≤ 100
      · have q1 : decide ((100 : Int) < pc.size) = false := decide_eq_false (by omega)
        have HR2 := Lib.hid (show ∀ q ∈ ps.take (k + 1), q.cli.size ≤ 100 from by
          intro q hq
          rw [ptake_more HP.out] at hq
          rcases List.mem_append.1 hq with h1 | h1
          · exact HR.out q h1
          · rw [List.mem_singleton.1 h1, HPC.out]; exact h100)
        go_wp2
        exact ⟨⟨k + 1, by omega, by go_num, HR2.out, trivial⟩, by simp [intOf]; omega⟩
      · have q1 : decide ((100 : Int) < pc.size) = true := decide_eq_true (by omega)
        have HN := Lib.hid (show ¬ fewP ps from fun h => h100 (by rw [← HPC.out]; exact h.1 p (List.mem_of_getElem? HP.out)))
        go_wp2
        go_ret
        exact ⟨false, rfl, ⟨(fun h => by cases h), fun h => absurd h HN.out⟩, rfl⟩
    · obtain rfl : k = n := by omega
      have HA := Lib.hid (show ∀ q ∈ ps, q.cli.size ≤ 100 from by have h := HR.out; rw [← HLEN.out, List.take_length] at h; exact h)
      by_cases h60 : k ≤ 60
      · have q1 : decide ((k : Int) ≤ 60) = true := decide_eq_true (by omega)
        go_wp2
        go_ret
        exact ⟨true, rfl, ⟨fun _ => ⟨HA.out, by rw [HLEN.out]; exact h60⟩, fun _ => rfl⟩, rfl⟩
      · have q1 : decide ((k : Int) ≤ 60) = false := decide_eq_false (by omega)
        go_wp2
        go_ret
        exact ⟨false, rfl, ⟨(fun h => by cases h), fun h => absurd h.2 (by rw [HLEN.out]; exact h60)⟩, rfl⟩

end Go.Proofs.YtodjeidofgbdlaaGreatDoor
