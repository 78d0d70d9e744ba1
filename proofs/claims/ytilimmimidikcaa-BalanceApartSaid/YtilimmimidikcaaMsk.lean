/- Plain facts on masks. -/
import Derived.Test.YtilimmimidikcaaCnt
namespace Go.Proofs.Ytilimmimidikcaa
open Go.ChangeShapes Go.WideShapes Go.ChangeAt Go.RowKit
set_option linter.unusedVariables false

/-- A mask's byte, of the buckets below k of which f is true. -/
def byteF (f : Nat → Bool) (i k : Nat) : Int := (if 8 * i + 0 < k ∧ f (8 * i + 0) = true then 1 else 0) + (if 8 * i + 1 < k ∧ f (8 * i + 1) = true then 2 else 0) + (if 8 * i + 2 < k ∧ f (8 * i + 2) = true then 4 else 0) + (if 8 * i + 3 < k ∧ f (8 * i + 3) = true then 8 else 0) + (if 8 * i + 4 < k ∧ f (8 * i + 4) = true then 16 else 0) + (if 8 * i + 5 < k ∧ f (8 * i + 5) = true then 32 else 0) + (if 8 * i + 6 < k ∧ f (8 * i + 6) = true then 64 else 0) + (if 8 * i + 7 < k ∧ f (8 * i + 7) = true then 128 else 0)
def maskTo (f : Nat → Bool) (k : Nat) : List Int := (List.range 32).map fun i => byteF f i k
theorem bit_le (c : Prop) [Decidable c] (v : Int) (h : 0 ≤ v) : 0 ≤ (if c then v else 0) ∧ (if c then v else 0) ≤ v := by split <;> omega
theorem byteF_range (f : Nat → Bool) (i k : Nat) : 0 ≤ byteF f i k ∧ byteF f i k < 256 := by
  unfold byteF
  have b0 := bit_le (8 * i + 0 < k ∧ f (8 * i + 0) = true) 1 (by omega)
  have b1 := bit_le (8 * i + 1 < k ∧ f (8 * i + 1) = true) 2 (by omega)
  have b2 := bit_le (8 * i + 2 < k ∧ f (8 * i + 2) = true) 4 (by omega)
  have b3 := bit_le (8 * i + 3 < k ∧ f (8 * i + 3) = true) 8 (by omega)
  have b4 := bit_le (8 * i + 4 < k ∧ f (8 * i + 4) = true) 16 (by omega)
  have b5 := bit_le (8 * i + 5 < k ∧ f (8 * i + 5) = true) 32 (by omega)
  have b6 := bit_le (8 * i + 6 < k ∧ f (8 * i + 6) = true) 64 (by omega)
  have b7 := bit_le (8 * i + 7 < k ∧ f (8 * i + 7) = true) 128 (by omega)
  omega
theorem maskTo_ok (f : Nat → Bool) (k : Nat) : okM (maskTo f k) := by
  refine ⟨by simp [maskTo], fun b hb => ?_⟩
  unfold maskTo at hb
  simp only [List.mem_map] at hb
  obtain ⟨i, _, rfl⟩ := hb
  exact byteF_range f i k
theorem maskTo_at (f : Nat → Bool) (k : Nat) {i : Nat} (hi : i < 32) : (maskTo f k).getD i 0 = byteF f i k := by
  unfold maskTo
  simp [hi]
theorem byteF_other (f : Nat → Bool) {i k : Nat} (h : i ≠ k / 8) : byteF f i (k + 1) = byteF f i k := by
  have e : ∀ j, j < 8 → ((8 * i + j < k + 1 ∧ f (8 * i + j) = true) ↔ (8 * i + j < k ∧ f (8 * i + j) = true)) := by
    intro j hj
    constructor
    · rintro ⟨a, c⟩; exact ⟨by omega, c⟩
    · rintro ⟨a, c⟩; exact ⟨by omega, c⟩
  unfold byteF
  simp only [e 0 (by omega), e 1 (by omega), e 2 (by omega), e 3 (by omega), e 4 (by omega), e 5 (by omega), e 6 (by omega), e 7 (by omega)]
def byteG (f : Nat → Bool) (i t : Nat) : Int := (if 0 < t ∧ f (8 * i + 0) = true then 1 else 0) + (if 1 < t ∧ f (8 * i + 1) = true then 2 else 0) + (if 2 < t ∧ f (8 * i + 2) = true then 4 else 0) + (if 3 < t ∧ f (8 * i + 3) = true then 8 else 0) + (if 4 < t ∧ f (8 * i + 4) = true then 16 else 0) + (if 5 < t ∧ f (8 * i + 5) = true then 32 else 0) + (if 6 < t ∧ f (8 * i + 6) = true then 64 else 0) + (if 7 < t ∧ f (8 * i + 7) = true then 128 else 0)
theorem byteF_G (f : Nat → Bool) (i t : Nat) : byteF f i (8 * i + t) = byteG f i t := by
  have e : ∀ j, (8 * i + j < 8 * i + t) ↔ j < t := fun j => by omega
  unfold byteF byteG
  simp only [e]
theorem byteF_step (f : Nat → Bool) (k : Nat) : byteF f (k / 8) (k + 1) = byteF f (k / 8) k + if f k = true then 2 ^ (k % 8) else 0 := by
  obtain ⟨i, t, ht, rfl⟩ : ∃ i t, t < 8 ∧ k = 8 * i + t := ⟨k / 8, k % 8, by omega, by omega⟩
  have e1 : (8 * i + t) / 8 = i := by omega
  have e2 : (8 * i + t) % 8 = t := by omega
  rw [e1, e2, byteF_G, Nat.add_assoc, byteF_G]
  unfold byteG
  have : t = 0 ∨ t = 1 ∨ t = 2 ∨ t = 3 ∨ t = 4 ∨ t = 5 ∨ t = 6 ∨ t = 7 := by omega
  rcases this with rfl | rfl | rfl | rfl | rfl | rfl | rfl | rfl <;> simp

theorem maskTo_step (f : Nat → Bool) {k : Nat} (hk : k < 256) : (maskTo f k).set (k / 8) (byteF f (k / 8) k + if f k = true then 2 ^ (k % 8) else 0) = maskTo f (k + 1) := by
  rw [← byteF_step]
  apply List.ext_getElem
  · simp [maskTo]
  · intro n h1 h2
    rw [List.getElem_set]
    split
    · next e => subst e; simp [maskTo]
    · next e =>
      simp only [maskTo, List.getElem_map, List.getElem_range]
      exact (byteF_other f (fun h => e h.symm)).symm
theorem maskTo_same (f : Nat → Bool) {k : Nat} (hk : k < 256) (hf : f k = false) : maskTo f k = maskTo f (k + 1) := by
  have h := maskTo_step f hk
  rw [hf, if_neg (by simp), Int.add_zero, ← maskTo_at f k (by omega)] at h
  rw [← h]
  apply List.ext_getElem
  · simp
  · intro n h1 h2
    rw [List.getElem_set]
    split
    · next e =>
      subst e
      rw [List.getD_eq_getElem?_getD, List.getElem?_eq_getElem h1]
      rfl
    · rfl
theorem byteF_zero (f : Nat → Bool) (i : Nat) : byteF f i 0 = 0 := by unfold byteF; simp
theorem maskTo_zero (f : Nat → Bool) : maskTo f 0 = List.replicate 32 0 := by
  unfold maskTo
  simp only [byteF_zero]
  decide
theorem byteF_true (i t : Nat) (ht : t < 8) : byteF (fun _ => true) i (8 * i + t) = 2 ^ t - 1 := by
  rw [byteF_G]
  unfold byteG
  have : t = 0 ∨ t = 1 ∨ t = 2 ∨ t = 3 ∨ t = 4 ∨ t = 5 ∨ t = 6 ∨ t = 7 := by omega
  rcases this with rfl | rfl | rfl | rfl | rfl | rfl | rfl | rfl <;> simp
theorem byteF_true' (k : Nat) : byteF (fun _ => true) (k / 8) k = 2 ^ (k % 8) - 1 := by
  have h := byteF_true (k / 8) (k % 8) (by omega)
  rw [show 8 * (k / 8) + k % 8 = k from by omega] at h
  exact h

def sum8 (b0 b1 b2 b3 b4 b5 b6 b7 : Bool) : Nat := b0.toNat + 2 * b1.toNat + 4 * b2.toNat + 8 * b3.toNat + 16 * b4.toNat + 32 * b5.toNat + 64 * b6.toNat + 128 * b7.toNat
theorem sum8_bit : ∀ b0 b1 b2 b3 b4 b5 b6 b7 : Bool, (sum8 b0 b1 b2 b3 b4 b5 b6 b7 / 2 ^ 0 % 2 = b0.toNat) ∧ (sum8 b0 b1 b2 b3 b4 b5 b6 b7 / 2 ^ 1 % 2 = b1.toNat) ∧ (sum8 b0 b1 b2 b3 b4 b5 b6 b7 / 2 ^ 2 % 2 = b2.toNat) ∧ (sum8 b0 b1 b2 b3 b4 b5 b6 b7 / 2 ^ 3 % 2 = b3.toNat) ∧
    (sum8 b0 b1 b2 b3 b4 b5 b6 b7 / 2 ^ 4 % 2 = b4.toNat) ∧ (sum8 b0 b1 b2 b3 b4 b5 b6 b7 / 2 ^ 5 % 2 = b5.toNat) ∧ (sum8 b0 b1 b2 b3 b4 b5 b6 b7 / 2 ^ 6 % 2 = b6.toNat) ∧ (sum8 b0 b1 b2 b3 b4 b5 b6 b7 / 2 ^ 7 % 2 = b7.toNat) := by decide +kernel
theorem byteF_sum (f : Nat → Bool) (i k : Nat) (hk : 8 * i + 8 ≤ k) : byteF f i k = (sum8 (f (8 * i + 0)) (f (8 * i + 1)) (f (8 * i + 2)) (f (8 * i + 3)) (f (8 * i + 4)) (f (8 * i + 5)) (f (8 * i + 6)) (f (8 * i + 7)) : Nat) := by
  have e : ∀ (j : Nat) (v : Int), j < 8 → (if 8 * i + j < k ∧ f (8 * i + j) = true then v else 0) = ((f (8 * i + j)).toNat : Int) * v := by
    intro j v hj
    cases f (8 * i + j)
    · simp
    · rw [if_pos ⟨by omega, rfl⟩]; simp
  unfold byteF sum8
  rw [e 0 _ (by omega), e 1 _ (by omega), e 2 _ (by omega), e 3 _ (by omega), e 4 _ (by omega), e 5 _ (by omega), e 6 _ (by omega), e 7 _ (by omega)]
  omega
theorem toNat_one (b : Bool) : decide ((b.toNat : Int) = 1) = b := by cases b <;> decide
theorem bit_full (f : Nat → Bool) {n : Nat} (hn : n < 256) : bitAt (maskTo f 256) n = f n := by
  unfold bitAt
  rw [maskTo_at f 256 (by omega), byteF_sum f (n / 8) 256 (by omega)]
  have hs := sum8_bit (f (8 * (n / 8) + 0)) (f (8 * (n / 8) + 1)) (f (8 * (n / 8) + 2)) (f (8 * (n / 8) + 3)) (f (8 * (n / 8) + 4)) (f (8 * (n / 8) + 5)) (f (8 * (n / 8) + 6)) (f (8 * (n / 8) + 7))
  obtain ⟨i, t, ht, rfl⟩ : ∃ i t, t < 8 ∧ n = 8 * i + t := ⟨n / 8, n % 8, by omega, by omega⟩
  have e1 : (8 * i + t) / 8 = i := by omega
  have e2 : (8 * i + t) % 8 = t := by omega
  rw [e1] at hs ⊢
  rw [e2]
  generalize sum8 (f (8 * i + 0)) (f (8 * i + 1)) (f (8 * i + 2)) (f (8 * i + 3)) (f (8 * i + 4)) (f (8 * i + 5)) (f (8 * i + 6)) (f (8 * i + 7)) = s at *
  obtain ⟨h0, h1, h2, h3, h4, h5, h6, h7⟩ := hs
  rw [← toNat_one (f (8 * i + t))]
  have c : ∀ j : Nat, ((s : Int) / 2 ^ j % 2) = ((s / 2 ^ j % 2 : Nat) : Int) := fun j => by simp
  rw [c t]
  have : t = 0 ∨ t = 1 ∨ t = 2 ∨ t = 3 ∨ t = 4 ∨ t = 5 ∨ t = 6 ∨ t = 7 := by omega
  rcases this with rfl | rfl | rfl | rfl | rfl | rfl | rfl | rfl
  · rw [h0]
  · rw [h1]
  · rw [h2]
  · rw [h3]
  · rw [h4]
  · rw [h5]
  · rw [h6]
  · rw [h7]

theorem byte_sum (u : Int) (h0 : 0 ≤ u) (h1 : u < 256) : u = u % 2 + 2 * (u / 2 % 2) + 4 * (u / 4 % 2) + 8 * (u / 8 % 2) + 16 * (u / 16 % 2) + 32 * (u / 32 % 2) + 64 * (u / 64 % 2) + 128 * (u / 128 % 2) := by omega
theorem par_eq {a b : Int} (h : a % 2 = 1 ↔ b % 2 = 1) : a % 2 = b % 2 := by omega
/-- Masks that have the same buckets are one. -/
theorem mask_ext {x y : List Int} (hx : okM x) (hy : okM y) (h : ∀ n, n < 256 → bitAt x n = bitAt y n) : x = y := by
  apply List.ext_getElem
  · rw [hx.1, hy.1]
  · intro i h1 h2
    have hi : i < 32 := by have := hx.1; omega
    have a := hx.at i
    have c := hy.at i
    have hb : ∀ t, t < 8 → (x.getD i 0 / 2 ^ t % 2 = 1 ↔ y.getD i 0 / 2 ^ t % 2 = 1) := by
      intro t ht
      have := h (8 * i + t) (by omega)
      unfold bitAt at this
      rw [show (8 * i + t) / 8 = i from by omega, show (8 * i + t) % 8 = t from by omega] at this
      exact decide_eq_decide.1 this
    have e1 : x.getD i 0 = x[i] := by rw [List.getD_eq_getElem?_getD, List.getElem?_eq_getElem h1]; rfl
    have e2 : y.getD i 0 = y[i] := by rw [List.getD_eq_getElem?_getD, List.getElem?_eq_getElem h2]; rfl
    rw [e1] at a hb
    rw [e2] at c hb
    generalize x[i] = u at *
    generalize y[i] = v at *
    have b0 := par_eq (hb 0 (by omega))
    have b1 := par_eq (hb 1 (by omega))
    have b2 := par_eq (hb 2 (by omega))
    have b3 := par_eq (hb 3 (by omega))
    have b4 := par_eq (hb 4 (by omega))
    have b5 := par_eq (hb 5 (by omega))
    have b6 := par_eq (hb 6 (by omega))
    have b7 := par_eq (hb 7 (by omega))
    simp only [Int.pow_zero, Int.reducePow, Int.ediv_one] at b0 b1 b2 b3 b4 b5 b6 b7
    rw [byte_sum u a.1 a.2, byte_sum v c.1 c.2, b0, b1, b2, b3, b4, b5, b6, b7]

end Go.Proofs.Ytilimmimidikcaa
