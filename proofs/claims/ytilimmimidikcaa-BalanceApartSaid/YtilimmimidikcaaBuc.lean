/- Contracts of balance.Bucket and of the reference's. -/
import Derived.Test.YtilimmimidikcaaChecked
import Derived.WalkKit
import Derived.ProofKit
import Derived.WalkLawsBesides
import Derived.Outline
import Derived.Lib.Hide
import Derived.LoopTactic
import Derived.Laws.BitsAllLaws
namespace Go.Proofs.Ytilimmimidikcaa
open Go.ChangeShapes Go.WideShapes Go.ChangeAt Go.RowKit
set_option linter.unusedVariables false

theorem ret_int {k : IntKind} {a b : Int} (h : a = b) : Ending.returned (.int k a) = .returned (.int k b) := by rw [h]
theorem ret_bool {a b : Bool} (h : a = b) : Ending.returned (.bool a) = .returned (.bool b) := by rw [h]
def tabN (n : Nat) : Nat := (167 * n + 13) % 256
theorem tabN_lt (n : Nat) : tabN n < 256 := Nat.mod_lt _ (by decide)
/-- What is reckoned of a client's last bytes. -/
def acc (z : Nat) : List UInt8 → Nat
  | [] => z
  | c :: l => tabN (acc z l ^^^ c.toNat)
def bucketV (l : List UInt8) : Nat := acc (l.length % 256) l
theorem acc_lt {z : Nat} (hz : z < 256) : ∀ l, acc z l < 256
  | [] => hz
  | _ :: _ => tabN_lt _
theorem bucket_lt (l : List UInt8) : bucketV l < 256 := acc_lt (Nat.mod_lt _ (by decide)) l
theorem xor_lt {a b : Nat} (ha : a < 256) (hb : b < 256) : a ^^^ b < 256 := Nat.xor_lt_two_pow (n := 8) ha hb
theorem acc_step {z : Nat} {s : ByteArray} {j : Nat} (h : j < s.size) : acc z (s.data.toList.drop j) = tabN (acc z (s.data.toList.drop (j + 1)) ^^^ s[j].toNat) := by
  have h' : j < s.data.toList.length := by simpa using h
  rw [List.drop_eq_getElem_cons h']
  rfl
theorem i64_xor_small {a b : Nat} (ha : a < 256) (hb : b < 256) : bits .xor .i64 (a : Int) (b : Int) = ((a ^^^ b : Nat) : Int) := by
  have hx := xor_lt ha hb
  show IntKind.i64.wrap ((BitVec.ofInt 64 (a : Int) ^^^ BitVec.ofInt 64 (b : Int)).toNat : Int) = _
  have e1 : ∀ x : Nat, x < 256 → (BitVec.ofInt 64 (x : Int)).toNat = x := fun x hx => by simp; omega
  rw [BitVec.toNat_xor, e1 a ha, e1 b hb]
  exact IntWalk.i64_in _ (by omega)

theorem table_any (n : Nat) (w : World) (h : n < 256) : Calls Try.prog 20 #[.int .u8 n] w fun e w' => e = .returned (.int .u8 (tabN n : Nat)) ∧ w = w' := by
  go_enter Try.func20, Try.ntmps20
  go_wp2
  go_ret
  exact ⟨ret_int (by unfold tabN; simp; omega), rfl⟩
theorem rtable_any (n : Nat) (w : World) (h : n < 256) : Calls Try.prog 21 #[.int .i64 n] w fun e w' => e = .returned (.int .i64 (tabN n : Nat)) ∧ w = w' := by
  go_enter Try.func21, Try.ntmps21
  go_wp2
  go_ret
  exact ⟨ret_int (by unfold tabN; omega), rfl⟩

theorem bucket_any (s : ByteArray) (w : World) (hs : s.size ≤ 140737488351232) : Calls Try.prog 10 #[.string s] w fun e w' => e = .returned (.int .i64 (bucketV s.data.toList : Nat)) ∧ w = w' := by
  obtain ⟨z, hz⟩ : ∃ z, s.data.toList.length % 256 = z := ⟨_, rfl⟩
  have hz2 : z < 256 := by omega
  have hZ : Hid (bucketV s.data.toList = acc z s.data.toList) := by show _ = _; unfold bucketV; rw [hz]
  have hZ2 : Hid (s.size % 256 = z) := by show _ = _; rw [← hz]; simp
  clear hz
  go_enter Try.func10, Try.ntmps10
  go_wp2
  go_loop [3, 4] (fun n i => ∃ k : Nat, k ≤ s.size ∧ i = .int .i64 ((k : Int) - 1) ∧ n = .int .u8 (acc z (s.data.toList.drop k) : Nat)) (fun _ i => (intOf i + 1).toNat)
  case atStart =>
    refine ⟨s.size, Nat.le_refl _, rfl, ?_⟩
    have e : s.data.toList.drop s.size = [] := List.drop_of_length_le (by simp)
    rw [e]
    have h1 := hZ2.out
    show _ = Value.int _ (z : Int)
    rw [← h1]
    first | rfl | (congr 1; simp [IntKind.wrap_u8])
  case round =>
    obtain ⟨k, hk, rfl, rfl⟩ := hrel
    by_cases h0 : k = 0
    · subst h0
      have ha := acc_lt hz2 s.data.toList
      rw [List.drop_zero]
      go_wp2
      go_ret
      exact ⟨ret_int (by rw [hZ.out]), rfl⟩
    · obtain ⟨j, rfl⟩ : ∃ j, k = j + 1 := ⟨k - 1, by omega⟩
      have hst := Lib.hid (acc_step (z := z) (s := s) (j := j) (by omega))
      have ha := acc_lt hz2 (s.data.toList.drop (j + 1))
      rw [show ((j + 1 : Nat) : Int) - 1 = (j : Int) from by omega]
      generalize acc z (s.data.toList.drop (j + 1)) = a at *
      have hj : j < s.size := by omega
      have hc : s[j].toNat < 256 := s[j].toNat_lt
      have X := u8_xor_nat a s[j].toNat ha hc
      have hx := xor_lt ha hc
      generalize a ^^^ s[j].toNat = x at *
      go_wp2_with (go_at_call 20; refine (table_any _ _ (by assumption)).mono ?_; rintro e w' ⟨rfl, rfl⟩)
      go_round
      case rel => exact ⟨j, by omega, rfl, by rw [hst.out]⟩
      case measure => simp [intOf] <;> omega

theorem rbucket_any (s : ByteArray) (w : World) (hs : s.size ≤ 140737488351232) : Calls Try.prog 11 #[.string s] w fun e w' => e = .returned (.int .i64 (bucketV s.data.toList : Nat)) ∧ w = w' := by
  obtain ⟨z, hz⟩ : ∃ z, s.data.toList.length % 256 = z := ⟨_, rfl⟩
  have hz2 : z < 256 := by omega
  have hZ : Hid (bucketV s.data.toList = acc z s.data.toList) := by show _ = _; unfold bucketV; rw [hz]
  have hZ2 : Hid (s.size % 256 = z) := by show _ = _; rw [← hz]; simp
  clear hz
  go_enter Try.func11, Try.ntmps11
  go_wp2
  go_loop [3, 4] (fun n i => ∃ k : Nat, k ≤ s.size ∧ i = .int .i64 ((k : Int) - 1) ∧ n = .int .i64 (acc z (s.data.toList.drop k) : Nat)) (fun _ i => (intOf i + 1).toNat)
  case atStart =>
    refine ⟨s.size, Nat.le_refl _, rfl, ?_⟩
    have e : s.data.toList.drop s.size = [] := List.drop_of_length_le (by simp)
    rw [e]
    have h1 := hZ2.out
    show _ = Value.int _ (z : Int)
    rw [← h1]
    first | rfl | (congr 1; simp [IntKind.wrap_u8])
  case round =>
    obtain ⟨k, hk, rfl, rfl⟩ := hrel
    by_cases h0 : k = 0
    · subst h0
      have ha := acc_lt hz2 s.data.toList
      rw [List.drop_zero]
      go_wp2
      go_ret
      exact ⟨ret_int (by rw [hZ.out]), rfl⟩
    · obtain ⟨j, rfl⟩ : ∃ j, k = j + 1 := ⟨k - 1, by omega⟩
      have hst := Lib.hid (acc_step (z := z) (s := s) (j := j) (by omega))
      have ha := acc_lt hz2 (s.data.toList.drop (j + 1))
      rw [show ((j + 1 : Nat) : Int) - 1 = (j : Int) from by omega]
      generalize acc z (s.data.toList.drop (j + 1)) = a at *
      have hj : j < s.size := by omega
      have hc : s[j].toNat < 256 := s[j].toNat_lt
      have X := i64_xor_small ha hc
      have hx := xor_lt ha hc
      generalize a ^^^ s[j].toNat = x at *
      go_wp2_with (go_at_call 21; refine (rtable_any _ _ (by assumption)).mono ?_; rintro e w' ⟨rfl, rfl⟩)
      go_round
      case rel => exact ⟨j, by omega, rfl, by rw [hst.out]⟩
      case measure => simp [intOf] <;> omega

end Go.Proofs.Ytilimmimidikcaa
