/- Numerals, by the program and by the reference. -/
import Derived.Test.YtodjeidofgbdlaaGreatDoorPl
import Derived.Test.YtodjeidofgbdlaaGreatDoorChecked
import Derived.Test.YtodjeidofgbdlaaGreatDoorOwn
import Derived.WalkKit
import Derived.ProofKit
import Derived.Lib.Hide
import Derived.WalkLawsBesides
import Derived.WalkSpells
import Derived.Lib.Strings
import Derived.Deep.DeepCutAuto
namespace Go.Proofs.YtodjeidofgbdlaaGreatDoor
open Go.ChangeShapes Go.WideShapes Go.ChangeAt Go.RowKit
set_option linter.unusedVariables false
set_option linter.unusedSimpArgs false

theorem ret_int {k : IntKind} {a b : Int} (h : a = b) : Ending.returned (.int k a) = .returned (.int k b) := by rw [h]
theorem ret_bool {a b : Bool} (h : a = b) : Ending.returned (.bool a) = .returned (.bool b) := by rw [h]
theorem ret_str {a b : ByteArray} (h : a = b) : Ending.returned (.string a) = .returned (.string b) := by rw [h]
def bl (l : List UInt8) : ByteArray := ⟨l.toArray⟩
theorem bl_data (l : List UInt8) : (bl l).data.toList = l := by unfold bl; simp
theorem bl_size (l : List UInt8) : (bl l).size = l.length := by unfold bl; simp [ByteArray.size]
theorem bl_of (s : ByteArray) : bl s.data.toList = s := by cases s; unfold bl; simp
theorem ba_eq {a c : ByteArray} (h : a.data.toList = c.data.toList) : a = c := by rw [← bl_of a, ← bl_of c, h]
theorem app_data (a c : ByteArray) : (a ++ c).data.toList = a.data.toList ++ c.data.toList := by
  rw [ByteArray.data_append]
  simp
theorem bl_append (a c : List UInt8) : bl a ++ bl c = bl (a ++ c) := by
  apply ba_eq
  rw [app_data]
  simp [bl_data]
theorem figs_size : ({ data := #[48, 49, 50, 51, 52, 53, 54, 55, 56, 57] } : ByteArray).size = 10 := rfl
/-- A number as figures. -/
def decB (u : Nat) : ByteArray := bl (Lib.decDigits u)
theorem decB_size {u : Nat} (h : u ≤ 1099511627776) : (decB u).size ≤ 13 := by unfold decB; rw [bl_size]; exact dec_len13 h
theorem figs_at (n : Nat) (h : n < 10) : ({ data := #[48, 49, 50, 51, 52, 53, 54, 55, 56, 57] } : ByteArray).extract n (n + 1) = decB n := by
  unfold decB
  rw [dec_small h]
  have : n = 0 ∨ n = 1 ∨ n = 2 ∨ n = 3 ∨ n = 4 ∨ n = 5 ∨ n = 6 ∨ n = 7 ∨ n = 8 ∨ n = 9 := by omega
  rcases this with rfl | rfl | rfl | rfl | rfl | rfl | rfl | rfl | rfl | rfl <;> rfl
theorem decB_big {n : Nat} (h : ¬ n < 10) : decB n = decB (n / 10) ++ decB (n % 10) := by
  unfold decB
  rw [bl_append, dec_big h, dec_small (show n % 10 < 10 by omega)]

set_option maxRecDepth 100000 in
theorem digits_any (n : Nat) : n ≤ 1099511627776 → ∀ w : World, Calls Tryz.prog 41 #[.int .i64 n] w fun e w' => e = .returned (.string (decB n)) ∧ Below w.heap.size w w' := by
  induction n using Nat.strongRecOn with
  | _ n ih =>
    intro hn w
    by_cases h : n < 10
    · clear ih
      have HF := Lib.hid (figs_at n h)
      have hz := figs_size
      go_enter Tryz.func41, Tryz.ntmps41
      go_wp2
      go_ret
      exact ⟨ret_str HF.out, Below.refl _ _⟩
    · have HD := Lib.hid (decB_big h)
      have hs1 := decB_size (u := n / 10) (by omega)
      have hs2 := decB_size (u := n % 10) (by omega)
      have ih1 : ∀ w : World, Calls Tryz.prog 41 #[.int .i64 ((n : Int) / 10)] w fun e w' => e = .returned (.string (decB (n / 10))) ∧ Below w.heap.size w w' := by
        have e : ((n : Int) / 10) = ((n / 10 : Nat) : Int) := by omega
        rw [e]
        exact ih (n / 10) (by omega) (by omega)
      have ih2 : ∀ w : World, Calls Tryz.prog 41 #[.int .i64 ((n : Int) % 10)] w fun e w' => e = .returned (.string (decB (n % 10))) ∧ Below w.heap.size w w' := by
        have e : ((n : Int) % 10) = ((n % 10 : Nat) : Int) := by omega
        rw [e]
        exact ih (n % 10) (by omega) (by omega)
      have IH1 := Lib.hid ih1
      have IH2 := Lib.hid ih2
      clear ih ih1 ih2
      go_enter Tryz.func41, Tryz.ntmps41
      go_wp2_with (first | (go_at_call 41; (with_reducible refine (IH1.out _).mono ?_); rintro e w1 ⟨rfl, hx⟩; have H1 := Lib.hid hx; clear hx) | (go_at_call 41; (with_reducible refine (IH2.out _).mono ?_); rintro e w2 ⟨rfl, hx⟩; have H2 := Lib.hid hx; clear hx))
      go_ret
      exact ⟨ret_str HD.out.symm, low H1.out H2.out⟩

theorem conv1 (n : Nat) (h : n < 10) (w : World) : (convert 39 9 (.slice (some ⟨w.heap.size, 0, none⟩) 1 1)).run Tryz.prog (w.alloc (.cells #[.int .u8 (48 + (n : Int))] 5)) = .ok (.string (decB n)) (w.alloc (.cells #[.int .u8 (48 + (n : Int))] 5)) := by
  have hc := (Blk.new w #[.int .u8 (48 + (n : Int))] 5).cells1
  have h1 := run_convert_bytes_back (P := Tryz.prog) (w.alloc (.cells #[.int .u8 (48 + (n : Int))] 5)) 39 9 5 ⟨w.heap.size, 0, none⟩ 1 [UInt8.ofNat (48 + n)] Tryz.underlying39 Tryz.underlying5 Tryz.underlying9 (fun j hj => by
    obtain rfl : j = 0 := by simpa using hj
    rw [add_spot0, Nat.zero_add, hc]
    simp only [List.getElem_cons_zero]
    rw [dig_toNat h]
    norm_cast)
  unfold decB
  rw [dec_small h]
  exact h1

end Go.Proofs.YtodjeidofgbdlaaGreatDoor
