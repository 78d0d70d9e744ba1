/- Bytes out of figures of 16, by the reference. -/
import Derived.Test.YtodjeidofgbdlaaGreatDoorWds
namespace Go.Proofs.YtodjeidofgbdlaaGreatDoor
open Go.ChangeShapes Go.WideShapes Go.ChangeAt Go.RowKit
set_option linter.unusedVariables false
set_option linter.unusedSimpArgs false

/-- The last one of some numbers whose figures of 16 are two given ones; 0: there is none. -/
def lk : Nat → UInt8 → UInt8 → Nat
  | 0, _, _ => 0
  | K + 1, a, c => if fig (K / 16) = a ∧ fig (K % 16) = c then K else lk K a c
theorem lk_lt : ∀ (K : Nat) (a c : UInt8), lk K a c ≤ K
  | 0, _, _ => Nat.le_refl _
  | K + 1, a, c => by
    have := lk_lt K a c
    unfold lk
    split <;> omega
theorem lk_fig (b : Nat) (hb : b < 256) : ∀ K, b < K → K ≤ 256 → lk K (fig (b / 16)) (fig (b % 16)) = b
  | 0, h, _ => by omega
  | K + 1, h, h2 => by
    unfold lk
    by_cases e : K = b
    · subst e
      rw [if_pos ⟨rfl, rfl⟩]
    · rw [if_neg (fun hh => e (by
        have h1 := fig_inj (by omega) (by omega) hh.1
        have h3 := fig_inj (by omega) (by omega) hh.2
        omega))]
      exact lk_fig b hb K (by omega) (by omega)
def bytesL : List UInt8 → List UInt8
  | a :: c :: l => UInt8.ofNat (lk 256 a c) :: bytesL l
  | _ => []
theorem bytes_hex (l : List UInt8) : bytesL (hexL l) = l := by
  induction l with
  | nil => rfl
  | cons b l ih =>
    have hb := b.toNat_lt
    rw [hexL_cons, bytesL, ih, lk_fig b.toNat (by omega) 256 (by omega) (Nat.le_refl _), UInt8.ofNat_toNat]
theorem drop_two (s : ByteArray) (k : Nat) (h : k + 1 < s.size) : s.data.toList.drop k = s[k] :: s[k + 1] :: s.data.toList.drop (k + 2) := by
  rw [drop_get s k (by omega), drop_get s (k + 1) h]
theorem bytes_end {s : ByteArray} {k : Nat} (h : s.size ≤ k + 1) : bytesL (s.data.toList.drop k) = [] := by
  have hl : (s.data.toList.drop k).length = s.size - k := by rw [List.length_drop, Array.length_toList]; rfl
  generalize s.data.toList.drop k = l at *
  match l with
  | [] => rfl
  | [_] => rfl
  | _ :: _ :: _ => simp at hl; omega
theorem toNat_beq {a c : UInt8} : (((a.toNat : Int)) == (c.toNat : Int)) = decide (a = c) := by
  rw [Bool.eq_iff_iff, beq_iff_eq, decide_eq_true_eq]
  constructor
  · intro h; exact UInt8.toNat_inj.1 (by omega)
  · intro h; rw [h]
end Go.Proofs.YtodjeidofgbdlaaGreatDoor
