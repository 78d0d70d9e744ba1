/- What was promised, looked over: the first clash, whole. -/
import Derived.Test.YtodjeidofgbdlaaGreatDoorAue
namespace Go.Proofs.YtodjeidofgbdlaaGreatDoor
open Go.ChangeShapes Go.WideShapes Go.ChangeAt Go.RowKit
set_option linter.unusedVariables false
set_option linter.unusedSimpArgs false
def clashFrom (ps : List Pr) : Nat → Nat → Int × Int
  | 0, _ => (-1, -1)
  | f + 1, k => match ps[k]? with
    | none => (-1, -1)
    | some q => if 0 ≤ firstP q (ps.take k) then (firstP q (ps.take k), (k : Int)) else clashFrom ps f (k + 1)
def clashF (ps : List Pr) : Int × Int := clashFrom ps ps.length 0
set_option maxRecDepth 100000 in
set_option maxHeartbeats 1000000 in
theorem tclash_any (a : Option Addr) (n c : Nat) (ps : List Pr) (w : World) (hin : PrsIn w a n c ps) (hn : n ≤ 100) :
    Calls Tryz.prog 7 #[.slice a n c] w fun e w' => e = .returned (.tuple #[.int .i64 (clashF ps).1, .int .i64 (clashF ps).2]) ∧ Below w.heap.size w w' := by
  have HIN := Lib.hid hin
  have HLEN := Lib.hid hin.1
  have hnc := hin.2.2.1
  have hcm := hin.2.2.2.1
  clear hin
  obtain ⟨R, hR⟩ : ∃ R, R = clashF ps := ⟨_, rfl⟩
  rw [← hR]
  have HRE := Lib.hid hR
  clear hR
  go_enter Tryz.func7, Tryz.ntmps7
  go_wp2
  go_loopw [9] (fun i wr => ∃ k : Nat, k ≤ n ∧ i = .int .i64 k ∧ Hid (clashFrom ps (n - k) k = R) ∧ Below w.heap.size w wr) (fun i _ => n - (intOf i).toNat)
  case atStart => exact ⟨0, by omega, rfl, Lib.hid (by rw [HRE.out]; unfold clashF; rw [HLEN.out]; rfl), Below.refl _ _⟩
  case round =>
    obtain ⟨k, hk, rfl, HF, hb⟩ := hrel
    have HB := Lib.hid hb
    clear hb
    by_cases hlt : k < n
    · obtain ⟨p, hp⟩ : ∃ p, ps[k]? = some p := ⟨ps[k]'(by rw [HLEN.out]; exact hlt), List.getElem?_eq_getElem _⟩
      obtain ⟨g, o, rfl, z0, z1, z2, z3, z4⟩ := (HIN.out.keep HB.out).at hp
      have HP := Lib.hid hp
      clear hp
      obtain ⟨I, hI⟩ : ∃ I, I = firstP p (ps.take k) := ⟨_, rfl⟩
      have hstep : clashFrom ps (n - k) k = if 0 ≤ I then (I, (k : Int)) else clashFrom ps (n - (k + 1)) (k + 1) := by
        rw [show n - k = (n - (k + 1)) + 1 by omega, clashFrom, HP.out, hI]
      have HI := Lib.hid hI
      have HS := Lib.hid hstep
      clear hI hstep
      obtain ⟨W2, hW2⟩ : ∃ W2 : World, W2 = wr.alloc (.cells #[.int .i64 p.srv, .int .u32 p.adr, .string p.cli, .int .i64 p.frm, .int .i64 p.unt] 29) := ⟨_, rfl⟩
      have hbW : Below w.heap.size w W2 := by rw [hW2]; exact lowA HB.out _
      have hix := ixf_any _ k c (ps.take k) wr.heap.size p W2 ((HIN.out.keep hbW).take hk) (by omega) (by rw [hW2]; exact Blk.new wr _ _)
      rw [← HI.out] at hix
      rw [hW2] at hix hbW
      have HIX := Lib.hid hix
      have HBW := Lib.hid hbW
      clear hix hbW hW2
      have hkc : k ≤ c := by omega
      go_wp2_with (go_at_call 15; refine (HIX.out).mono ?_; rintro e w1 ⟨rfl, hx⟩)
      · rename_i hI0
        have e := HS.out
        rw [if_pos hI0, HF.out] at e
        go_ret2
        exact ⟨by rw [e]; rfl, low HBW.out hx⟩
      · rename_i hI0
        have e := HS.out
        rw [if_neg (by omega), HF.out] at e
        go_roundw
        case rel => exact ⟨k + 1, by omega, by go_num, Lib.hid e.symm, low HBW.out hx⟩
        case measure => simp [intOf]; omega
    · have e := HF.out
      rw [show n - k = 0 by omega] at e
      unfold clashFrom at e
      have HEE := Lib.hid e
      clear e
      go_wp2
      go_ret2
      exact ⟨by rw [← HEE.out]; rfl, HB.out⟩
end Go.Proofs.YtodjeidofgbdlaaGreatDoor
