/- Plain facts on doubles: what a word stands for as a whole number of 2^-1074, that rounding is monotone and keeps what a double can tell. No Go here. -/
import Derived.Laws.FloatArith
namespace Go.Proofs.Ytmncpcchdhieoaa.Flo
open Ieee

/-- What a rung H INF stands for, in 2^-1074. -/
def fixv (H r : Nat) : Nat := if r < H then r else (H + r % H) * 2 ^ (r / H - 1)

theorem fixv_mono {H : Nat} (hH : 0 < H) {r s : Nat} (h : r ≤ s) : fixv H r ≤ fixv H s := by
  unfold fixv
  by_cases hs : s < H
  · rw [if_pos hs, if_pos (by omega)]; exact h
  · rw [if_neg hs]
    have p1 : 1 ≤ 2 ^ (s / H - 1) := Nat.one_le_two_pow
    have hs2 : 1 ≤ s / H := Nat.div_pos (by omega) hH
    by_cases hr : r < H
    · rw [if_pos hr]
      calc r ≤ (H + s % H) * 1 := by omega
        _ ≤ _ := Nat.mul_le_mul_left _ p1
    · rw [if_neg hr]
      have hr2 : 1 ≤ r / H := Nat.div_pos (by omega) hH
      have hq : r / H ≤ s / H := Nat.div_le_div_right h
      by_cases e : r / H = s / H
      · rw [e]
        refine Nat.mul_le_mul_right _ ?_
        have h1 := Nat.div_add_mod r H
        have h2 := Nat.div_add_mod s H
        rw [e] at h1
        omega
      · have hm : r % H < H := Nat.mod_lt _ hH
        generalize r / H = a at *
        generalize s / H = b at *
        have e2 : b - 1 = (a - 1) + (b - a - 1) + 1 := by omega
        calc (H + r % H) * 2 ^ (a - 1) ≤ (2 * H) * 2 ^ (a - 1) := Nat.mul_le_mul_right _ (by omega)
          _ ≤ (2 * H) * (2 ^ (a - 1) * 2 ^ (b - a - 1)) := Nat.mul_le_mul_left _ (Nat.le_mul_of_pos_right _ (Nat.two_pow_pos _))
          _ = H * 2 ^ (b - 1) := by rw [e2, Nat.pow_succ, Nat.pow_add]; rw [Nat.mul_comm (2 ^ (a - 1) * _) 2, Nat.mul_comm 2 H, Nat.mul_assoc]
          _ ≤ _ := Nat.mul_le_mul_right _ (by omega)

theorem fixv_at {H : Nat} (hH : 0 < H) (q t : Nat) (ht : t < H) : fixv H ((q + 1) * H + t) = (H + t) * 2 ^ q := by
  unfold fixv
  have h0 : H ≤ (q + 1) * H := Nat.le_mul_of_pos_left _ (by omega)
  rw [if_neg (by omega)]
  have h1 : ((q + 1) * H + t) / H = q + 1 := by rw [Nat.mul_comm, Nat.mul_add_div hH, Nat.div_eq_of_lt ht, Nat.add_zero]
  have h2 : ((q + 1) * H + t) % H = t := by rw [Nat.mul_comm, Nat.mul_add_mod, Nat.mod_eq_of_lt ht]
  rw [h1, h2]
  rfl

theorem fixv_low {H r : Nat} (h : r < H) : fixv H r = r := by unfold fixv; rw [if_pos h]

theorem fixv_small {H : Nat} (hH : 0 < H) {r : Nat} (h : r < 2 * H) : fixv H r = r := by
  by_cases hr : r < H
  · exact fixv_low hr
  · have := fixv_at hH 0 (r - H) (by omega)
    rw [Nat.zero_add, Nat.one_mul, Nat.pow_zero, Nat.mul_one, show H + (r - H) = r from by omega] at this
    exact this

/-- To the nearest multiple of 2^d, between two the even one. -/
def rnd (m d : Nat) : Nat := m / 2 ^ d + (decide (2 ^ d < 2 * (m % 2 ^ d)) || (2 ^ d == 2 * (m % 2 ^ d) && m / 2 ^ d % 2 == 1)).toNat

theorem rnd_le (m d : Nat) : rnd m d ≤ m / 2 ^ d + 1 := by
  unfold rnd
  have : ∀ b : Bool, b.toNat ≤ 1 := fun b => by cases b <;> decide
  have := this (decide (2 ^ d < 2 * (m % 2 ^ d)) || (2 ^ d == 2 * (m % 2 ^ d) && m / 2 ^ d % 2 == 1))
  omega
theorem le_rnd (m d : Nat) : m / 2 ^ d ≤ rnd m d := by unfold rnd; omega

theorem rnd_mono {m n : Nat} (h : m ≤ n) (d : Nat) : rnd m d ≤ rnd n d := by
  by_cases e : m / 2 ^ d = n / 2 ^ d
  · unfold rnd
    rw [e]
    have h1 := Nat.div_add_mod m (2 ^ d)
    have h2 := Nat.div_add_mod n (2 ^ d)
    rw [e] at h1
    have h3 : m % 2 ^ d ≤ n % 2 ^ d := by omega
    refine Nat.add_le_add_left ?_ _
    by_cases hb : (decide (2 ^ d < 2 * (m % 2 ^ d)) || (2 ^ d == 2 * (m % 2 ^ d) && n / 2 ^ d % 2 == 1)) = true
    · have : (decide (2 ^ d < 2 * (n % 2 ^ d)) || (2 ^ d == 2 * (n % 2 ^ d) && n / 2 ^ d % 2 == 1)) = true := by
        simp only [Bool.or_eq_true, decide_eq_true_eq, Bool.and_eq_true, beq_iff_eq] at hb ⊢
        omega
      rw [hb, this]
      exact Nat.le_refl _
    · rw [Bool.not_eq_true] at hb
      rw [hb]
      exact Nat.zero_le _
  · have h1 : m / 2 ^ d ≤ n / 2 ^ d := Nat.div_le_div_right h
    have := rnd_le m d
    have := le_rnd n d
    omega

theorem rnd_exact (k d : Nat) : rnd (k * 2 ^ d) d = k := by
  unfold rnd
  have h : 0 < 2 ^ d := Nat.two_pow_pos d
  rw [Nat.mul_div_cancel _ h, Nat.mul_mod_left]
  have h1 : decide (2 ^ d < 2 * 0) = false := by simp
  have h2 : (2 ^ d == 2 * 0) = false := by simp
  rw [h1, h2]
  rfl

theorem rnd_scale (m d k : Nat) : rnd (m * 2 ^ k) (d + k) = rnd m d := by
  unfold rnd
  have hk : 0 < 2 ^ k := Nat.two_pow_pos k
  have e1 : m * 2 ^ k / 2 ^ (d + k) = m / 2 ^ d := by rw [Nat.pow_add, Nat.mul_div_mul_right _ _ hk]
  have e2 : m * 2 ^ k % 2 ^ (d + k) = m % 2 ^ d * 2 ^ k := by rw [Nat.pow_add, Nat.mul_mod_mul_right]
  rw [e1, e2, Nat.pow_add]
  have e3 : decide (2 ^ d * 2 ^ k < 2 * (m % 2 ^ d * 2 ^ k)) = decide (2 ^ d < 2 * (m % 2 ^ d)) := by
    rw [← Nat.mul_assoc]
    exact decide_eq_decide.2 (Nat.mul_lt_mul_right hk)
  have e4 : (2 ^ d * 2 ^ k == 2 * (m % 2 ^ d * 2 ^ k)) = (2 ^ d == 2 * (m % 2 ^ d)) := by
    rw [← Nat.mul_assoc, Bool.eq_iff_iff, beq_iff_eq, beq_iff_eq]
    exact ⟨fun h => Nat.eq_of_mul_eq_mul_right hk h, fun h => congrArg (· * 2 ^ k) h⟩
  rw [e3, e4]

theorem log2_lt (m : Nat) : m < 2 ^ (m.log2 + 1) := Nat.lt_log2_self
theorem log2_le {m : Nat} (h : m ≠ 0) : 2 ^ m.log2 ≤ m := Nat.log2_self_le h

/-- The model's cut is 'rnd'. -/
theorem cut_even (neg : Bool) (m d : Nat) : Toward.even.cut neg m d = rnd m d := by
  unfold Toward.cut
  simp only [Nat.one_shiftLeft]
  by_cases h : d ≤ m.log2 + 2
  · rw [Nat.min_eq_left h]; rfl
  · rw [Nat.min_eq_right (by omega)]
    have h0 := log2_lt m
    have h1 : 2 * m < 2 ^ (m.log2 + 2) := by rw [Nat.pow_succ]; omega
    have h2 : 2 ^ (m.log2 + 2) ≤ 2 ^ d := Nat.pow_le_pow_right (by decide) (by omega)
    have h3 : m / 2 ^ (m.log2 + 2) = 0 := Nat.div_eq_of_lt (by omega)
    have h4 : m % 2 ^ (m.log2 + 2) = m := Nat.mod_eq_of_lt (by omega)
    have h5 : m / 2 ^ d = 0 := Nat.div_eq_of_lt (by omega)
    have h6 : m % 2 ^ d = m := Nat.mod_eq_of_lt (by omega)
    unfold rnd
    rw [h3, h4, h5, h6]
    have h7 : decide (2 ^ (m.log2 + 2) < 2 * m) = false := by simp; omega
    have h8 : decide (2 ^ d < 2 * m) = false := by simp; omega
    have h9 : (2 ^ (m.log2 + 2) == 2 * m) = false := by rw [beq_eq_false_iff_ne]; omega
    have h10 : (2 ^ d == 2 * m) = false := by rw [beq_eq_false_iff_ne]; omega
    rw [h7, h8, h9, h10]

theorem cut_zero (neg : Bool) (m d : Nat) : Toward.zero.cut neg m d = m / 2 ^ d := by
  unfold Toward.cut
  simp only [Nat.one_shiftLeft, Bool.toNat_false, Nat.add_zero]
  by_cases h : d ≤ m.log2 + 2
  · rw [Nat.min_eq_left h]
  · rw [Nat.min_eq_right (by omega)]
    have h0 := log2_lt m
    have h1 : m < 2 ^ (m.log2 + 2) := by rw [Nat.pow_succ]; omega
    have h2 : 2 ^ (m.log2 + 2) ≤ 2 ^ d := Nat.pow_le_pow_right (by decide) (by omega)
    rw [Nat.div_eq_of_lt h1, Nat.div_eq_of_lt (by omega)]

/-- The place, above 2^-(1074+K), of the last digit that is kept. -/
def lastd (K M : Nat) : Nat := max (M.log2 - 52) K
/-- The rung H INF to which M * 2^-(1074+K) is rounded. -/
def rung (H INF K M : Nat) : Nat := if M = 0 then 0 else min ((lastd K M - K) * H + rnd M (lastd K M)) INF

theorem log2_mono {m n : Nat} (h : m ≤ n) : m.log2 ≤ n.log2 := by
  by_cases h0 : m = 0
  · subst h0; simp
  · by_cases hc : m.log2 ≤ n.log2
    · exact hc
    · have h1 := log2_le h0
      have h2 := log2_lt n
      have h3 : 2 ^ (n.log2 + 1) ≤ 2 ^ m.log2 := Nat.pow_le_pow_right (by decide) (by omega)
      omega

theorem log2_scale {m : Nat} (h : m ≠ 0) (k : Nat) : (m * 2 ^ k).log2 = m.log2 + k := by
  have hk : 0 < 2 ^ k := Nat.two_pow_pos k
  have h1 := log2_le h
  have h2 := log2_lt m
  have h3 : 2 ^ (m.log2 + k) ≤ m * 2 ^ k := by rw [Nat.pow_add]; exact Nat.mul_le_mul_right _ h1
  have h4 : m * 2 ^ k < 2 ^ (m.log2 + k + 1) := by
    rw [show m.log2 + k + 1 = (m.log2 + 1) + k from by omega, Nat.pow_add]
    exact Nat.mul_lt_mul_of_pos_right h2 hk
  have h5 : m * 2 ^ k ≠ 0 := by omega
  exact (Nat.log2_eq_iff h5).2 ⟨h3, h4⟩

theorem div_lastd_lt {H : Nat} (hp : 2 ^ 52 = H) (K M : Nat) : M / 2 ^ lastd K M < 2 * H := by
  have h1 := log2_lt M
  have h2 : 2 ^ (M.log2 + 1) ≤ 2 ^ (53 + lastd K M) := Nat.pow_le_pow_right (by decide) (by unfold lastd; omega)
  rw [Nat.pow_add 2 53, show (2 : Nat) ^ 53 = 2 * H from by rw [← hp]] at h2
  refine Nat.div_lt_of_lt_mul ?_
  rw [Nat.mul_comm]
  omega

theorem le_div_lastd {H : Nat} (hp : 2 ^ 52 = H) {K M : Nat} (h : M ≠ 0) (hl : K < lastd K M) : H ≤ M / 2 ^ lastd K M := by
  have h1 := log2_le h
  have e : M.log2 = 52 + lastd K M := by unfold lastd at hl ⊢; omega
  rw [e, Nat.pow_add 2 52, hp] at h1
  exact (Nat.le_div_iff_mul_le (Nat.two_pow_pos _)).2 h1

theorem rung_mono {H : Nat} (hp : 2 ^ 52 = H) (INF K : Nat) {M N : Nat} (h : M ≤ N) : rung H INF K M ≤ rung H INF K N := by
  unfold rung
  by_cases hM : M = 0
  · rw [if_pos hM]; exact Nat.zero_le _
  · have hN : N ≠ 0 := by omega
    rw [if_neg hM, if_neg hN]
    have hl := log2_mono h
    have hL : lastd K M ≤ lastd K N := by unfold lastd; omega
    have hK : K ≤ lastd K M := by unfold lastd; omega
    suffices (lastd K M - K) * H + rnd M (lastd K M) ≤ (lastd K N - K) * H + rnd N (lastd K N) by omega
    by_cases e : lastd K M = lastd K N
    · rw [e]; exact Nat.add_le_add_left (rnd_mono h _) _
    · have h1 := div_lastd_lt hp K M
      have h2 := le_div_lastd hp (K := K) hN (by omega)
      have h3 := rnd_le M (lastd K M)
      have h4 := le_rnd N (lastd K N)
      have h5 : (lastd K M - K + 1) * H ≤ (lastd K N - K) * H := Nat.mul_le_mul_right _ (by omega)
      rw [Nat.add_mul] at h5
      omega

theorem rung_scale (H INF K M k : Nat) : rung H INF (K + k) (M * 2 ^ k) = rung H INF K M := by
  unfold rung
  have hk : 0 < 2 ^ k := Nat.two_pow_pos k
  by_cases h : M = 0
  · subst h; simp
  · have h' : M * 2 ^ k ≠ 0 := Nat.mul_ne_zero h (by omega)
    rw [if_neg h, if_neg h']
    have e : lastd (K + k) (M * 2 ^ k) = lastd K M + k := by unfold lastd; rw [log2_scale h]; omega
    rw [e, rnd_scale, show lastd K M + k - (K + k) = lastd K M - K from by omega]

theorem rung_le (H INF K M : Nat) : rung H INF K M ≤ INF := by
  unfold rung
  split
  · exact Nat.zero_le _
  · exact Nat.min_le_right _ _

/-- What is told without rounding stays as it is. -/
theorem fixv_rung {H : Nat} (hp : 2 ^ 52 = H) {INF K M k : Nat} (hM : M ≠ 0) (hk : M = k * 2 ^ lastd K M) (hi : (lastd K M - K) * H + k ≤ INF) : fixv H (rung H INF K M) * 2 ^ K = M := by
  have hH : 0 < H := by rw [← hp]; exact Nat.two_pow_pos _
  have hd := div_lastd_lt hp K M
  have hL : K ≤ lastd K M := by unfold lastd; omega
  have hpp : 0 < 2 ^ lastd K M := Nat.two_pow_pos _
  have hkd : M / 2 ^ lastd K M = k := by
    have := Nat.mul_div_cancel k hpp
    rw [← hk] at this
    exact this
  have hr : rnd M (lastd K M) = k := by
    have := rnd_exact k (lastd K M)
    rw [← hk] at this
    exact this
  have e : rung H INF K M = (lastd K M - K) * H + k := by
    unfold rung
    rw [if_neg hM, hr]
    omega
  rw [e]
  by_cases hl : lastd K M = K
  · rw [hl] at hk ⊢
    rw [Nat.sub_self, Nat.zero_mul, Nat.zero_add, fixv_small hH (by omega), ← hk]
  · have h1 := le_div_lastd hp hM (K := K) (by omega)
    rw [hkd] at h1 hd
    obtain ⟨t, rfl⟩ : ∃ t, k = H + t := ⟨k - H, by omega⟩
    rw [show (lastd K M - K) * H + (H + t) = (lastd K M - K + 1) * H + t from by rw [Nat.add_mul]; omega, fixv_at hH _ _ (by omega), Nat.mul_assoc, ← Nat.pow_add,
      show lastd K M - K + K = lastd K M from by omega, ← hk]

/-- The model's rounding, of a magnitude, is 'rung'. -/
theorem nearest_eq (neg : Bool) (mag : Nat) (place : Int) (K : Nat) (hp : 0 ≤ place + 1074 + K) {H INF : Nat} (hH : double.binade = H) (hI : double.infRung = INF) : double.nearest neg mag place = double.word neg (rung H INF K (mag * 2 ^ (place + 1074 + K).toNat)) := by
  unfold Format.nearest
  by_cases h : mag = 0
  · subst h; simp [rung]
  · rw [if_neg h]
    have hl : double.leastPlace = -1074 := by decide
    have hf : (double.fractionBits : Int) = 52 := rfl
    have hM : mag * 2 ^ (place + 1074 + K).toNat ≠ 0 := Nat.mul_ne_zero h (Nat.pos_iff_ne_zero.1 (Nat.two_pow_pos _))
    simp only [hl, hf, hH, hI, cut_even]
    unfold rung
    rw [if_neg hM]
    obtain ⟨j, hj⟩ : ∃ j : Nat, place + 1074 + K = j := ⟨_, (Int.toNat_of_nonneg hp).symm⟩
    have hjj : (place + 1074 + (K : Int)).toNat = j := by omega
    rw [hjj]
    have hL : lastd K (mag * 2 ^ j) = max (mag.log2 + j - 52) K := by unfold lastd; rw [log2_scale h]
    generalize lastd K (mag * 2 ^ j) = L at *
    obtain ⟨l, hll⟩ : ∃ l : Int, max (place + (mag.log2 : Int) - 52) (-1074) = l := ⟨_, rfl⟩
    rw [hll]
    have e1 : (l - -1074).toNat = L - K := by omega
    rw [e1]
    suffices rnd (mag <<< (place - l).toNat) (l - place).toNat = rnd (mag * 2 ^ j) L by rw [this]
    by_cases hc : place ≤ l
    · have e2 : (place - l).toNat = 0 := by omega
      obtain ⟨d, hd⟩ : ∃ d, (l - place).toNat = d := ⟨_, rfl⟩
      rw [e2, hd, Nat.shiftLeft_zero, show L = d + j from by omega, rnd_scale]
    · obtain ⟨u, hu⟩ : ∃ u, (place - l).toNat = u := ⟨_, rfl⟩
      have e2 : (l - place).toNat = 0 := by omega
      have e3 : j = u + L := by omega
      rw [e2, hu, Nat.shiftLeft_eq]
      have e4 : mag * 2 ^ j = mag * 2 ^ u * 2 ^ L := by rw [Nat.mul_assoc, ← Nat.pow_add, ← e3]
      have e5 := rnd_exact (mag * 2 ^ u) L
      rw [← e4] at e5
      have e6 := rnd_exact (mag * 2 ^ u) 0
      simp only [Nat.pow_zero, Nat.mul_one] at e6
      rw [e5, e6]
end Go.Proofs.Ytmncpcchdhieoaa.Flo
