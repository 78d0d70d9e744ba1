/- Plain facts on doubles, continued: quotients of whole numbers, differences, signs. No Go here. -/
import Derived.Test.YtmncpcchdhieoaaFlp
namespace Go.Proofs.Ytmncpcchdhieoaa.Flo
open Ieee Go
set_option linter.unusedVariables false

theorem read_mag {w : Nat} {s : Bool} {m : Nat} {i : Int} (h : double.read w = .number s m i) : m < 2 ^ 53 := by
  have hb : 2 ^ 53 = double.binade + double.binade := by decide
  have hlt : ∀ x : Nat, x % double.binade < double.binade := fun x => Nat.mod_lt _ BH_pos
  unfold Format.read at h
  simp only at h
  split at h
  · injection h with _ e _
    omega
  · split at h
    · injection h with _ e _
      have := hlt (w % double.signWeight)
      omega
    · split at h <;> cases h

theorem rung_lt {K M : Nat} (h : M < 2 ^ (K + 2000)) : rung double.binade double.infRung K M < double.infRung := by
  unfold rung
  by_cases h0 : M = 0
  · rw [if_pos h0]; decide
  · rw [if_neg h0]
    have hl : M.log2 < K + 2000 := (Nat.log2_lt h0).2 h
    have h1 := div_lastd_lt BH_pow K M
    have h2 := rnd_le M (lastd K M)
    have h3 : (lastd K M - K) * double.binade ≤ 1948 * double.binade := Nat.mul_le_mul_right _ (by unfold lastd; omega)
    have hI : double.infRung = 2047 * double.binade := rfl
    have hp := BH_pos
    rw [hI]
    have : (lastd K M - K) * double.binade + rnd M (lastd K M) < 2047 * double.binade := by omega
    omega

theorem quo_lt {m n d : Nat} (hn : n ≠ 0) : 2 * ((m <<< (d + n.log2 - m.log2)) / n) + ((m <<< (d + n.log2 - m.log2)) % n != 0).toNat < 2 ^ (d + m.log2 + 3) := by
  have hb : ∀ b : Bool, b.toNat ≤ 1 := fun b => by cases b <;> decide
  have hb1 := hb ((m <<< (d + n.log2 - m.log2)) % n != 0)
  have h1 := log2_lt m
  have h2 := log2_le hn
  have h3 : m <<< (d + n.log2 - m.log2) < 2 ^ (d + n.log2 + m.log2 + 1) := by
    rw [Nat.shiftLeft_eq]
    calc m * 2 ^ (d + n.log2 - m.log2) < 2 ^ (m.log2 + 1) * 2 ^ (d + n.log2 - m.log2) := Nat.mul_lt_mul_of_pos_right h1 (Nat.two_pow_pos _)
      _ = 2 ^ (m.log2 + 1 + (d + n.log2 - m.log2)) := (Nat.pow_add _ _ _).symm
      _ ≤ _ := Nat.pow_le_pow_right (by decide) (by omega)
  have h4 : m <<< (d + n.log2 - m.log2) / n < 2 ^ (d + m.log2 + 1) := by
    refine Nat.div_lt_of_lt_mul ?_
    calc m <<< (d + n.log2 - m.log2) < 2 ^ (d + n.log2 + m.log2 + 1) := h3
      _ = 2 ^ n.log2 * 2 ^ (d + m.log2 + 1) := by rw [← Nat.pow_add]; congr 1; omega
      _ ≤ _ := Nat.mul_le_mul_right _ h2
  rw [show d + m.log2 + 3 = (d + m.log2 + 1) + 2 from by omega, Nat.pow_add]
  generalize 2 ^ (d + m.log2 + 1) = x at *
  omega

theorem ofInt_zero : floatOfInt .f64 0 = 0 := by decide

/-- A whole number up to 2^53, read. -/
theorem read_ofInt {n : Nat} (h : n < 2 ^ 53) : ∃ m i, double.read (floatOfInt .f64 (n : Int)) = .number false m i ∧ -1074 ≤ i ∧ m * 2 ^ (i + 1074).toNat = n * SC ∧ m < 2 ^ 53 := by
  by_cases h0 : n = 0
  · subst h0
    have e := ofInt_zero
    obtain ⟨m, i, hr, hi, hv⟩ := read_pos (p := 0) (by decide)
    rw [show ((0 : Nat) : Int) = 0 from rfl, e]
    refine ⟨m, i, hr, hi, ?_, read_mag hr⟩
    rw [hv, fixv_low BH_pos, Nat.zero_mul]
  · obtain ⟨r, hr, hri, hrv, _⟩ := ofInt_key (by omega) h
    rw [hr]
    obtain ⟨m, i, e, hi, hv⟩ := read_pos hri
    exact ⟨m, i, e, hi, by rw [hv, hrv], read_mag e⟩

theorem place_le {m n : Nat} {i : Int} (hm : m ≠ 0) (hi : -1074 ≤ i) (h : m * 2 ^ (i + 1074).toNat = n * SC) (hn : n < 2 ^ 53) : i ≤ 53 := by
  by_cases hc : i ≤ 53
  · exact hc
  · exfalso
    obtain ⟨e, he⟩ : ∃ e : Nat, e = 1074 := ⟨_, rfl⟩
    have h1 : (i + 1074).toNat = (i + 1074 - 1074 - 53).toNat + (53 + e) := by omega
    rw [h1, Nat.pow_add, Nat.pow_add 2 53 e, SC_of he] at h
    have hp := Nat.two_pow_pos (i + 1074 - 1074 - 53).toNat
    generalize 2 ^ (i + 1074 - 1074 - 53).toNat = x at *
    have hx : 1 * 2 ^ 53 * SC ≤ m * x * 2 ^ 53 * SC := Nat.mul_le_mul_right _ (Nat.mul_le_mul_right _ (Nat.mul_pos (by omega) hp))
    have h2 : m * (x * (2 ^ 53 * SC)) = m * x * 2 ^ 53 * SC := by simp only [Nat.mul_assoc]
    have h3 : n * SC < 2 ^ 53 * SC := Nat.mul_lt_mul_of_pos_right hn SC_pos
    rw [h2] at h
    rw [Nat.one_mul] at hx
    omega

theorem place_ge {m n : Nat} {i : Int} (hn0 : n ≠ 0) (hi : -1074 ≤ i) (h : m * 2 ^ (i + 1074).toNat = n * SC) (hm : m < 2 ^ 53) : -53 ≤ i := by
  by_cases hc : -53 ≤ i
  · exact hc
  · exfalso
    obtain ⟨u, hu⟩ : ∃ u : Nat, u = 1021 := ⟨_, rfl⟩
    have h1 : 2 ^ (i + 1074).toNat ≤ 2 ^ u := Nat.pow_le_pow_right (by decide) (by omega)
    have h2 : SC = 2 ^ 53 * 2 ^ u := by rw [← Nat.pow_add, SC_of (by omega)]
    have h3 : m * 2 ^ (i + 1074).toNat ≤ m * 2 ^ u := Nat.mul_le_mul_left _ h1
    have h4 : m * 2 ^ u < 2 ^ 53 * 2 ^ u := Nat.mul_lt_mul_of_pos_right hm (Nat.two_pow_pos _)
    have h5 : 1 * SC ≤ n * SC := Nat.mul_le_mul_right _ (by omega)
    rw [Nat.one_mul] at h5
    omega

theorem nan_word {s : Bool} {r : Nat} (h : r ≤ double.infRung) : nan (double.word s r) = false := by
  have hI := infRung_lt
  unfold nan
  rw [decide_eq_false_iff_not]
  unfold Format.word
  cases s
  · rw [if_neg (by decide), Nat.mod_eq_of_lt (by omega)]; omega
  · rw [if_pos rfl, Nat.add_mod_left, Nat.mod_eq_of_lt (by omega)]; omega

theorem nan_nearest (s : Bool) (m : Nat) (i : Int) : nan (double.nearest s m i) = false := by
  obtain ⟨K, hK⟩ : ∃ K : Nat, 0 ≤ i + 1074 + K := ⟨(-i - 1074).toNat, by omega⟩
  rw [nearest_eq s m i K hK rfl rfl]
  exact nan_word (rung_le _ _ _ _)

/-- The quotient of two whole numbers is a finite double. -/
theorem quo_ok {b n : Nat} (hb : b < 2 ^ 53) (hn0 : n ≠ 0) (hn : n < 2 ^ 53) : ∃ q, floatBits .quo .f64 (floatOfInt .f64 (b : Int)) (floatOfInt .f64 (n : Int)) = some q ∧ q < double.infRung := by
  obtain ⟨m, i, e, hi, hv, hm⟩ := read_ofInt hb
  obtain ⟨m', j, e', hj, hv', hm'⟩ := read_ofInt hn
  have hm0 : m' ≠ 0 := by
    intro h
    subst h
    rw [Nat.zero_mul] at hv'
    have := Nat.mul_pos (Nat.pos_of_ne_zero hn0) SC_pos
    omega
  show ∃ q, double.div _ _ = some q ∧ _
  unfold Format.div
  rw [e, e']
  unfold Datum.quotient
  simp only
  rw [if_neg hm0]
  refine ⟨_, rfl, ?_⟩
  show double.nearest (false ^^ false) _ _ < _
  rw [Bool.xor_self]
  have hq := quo_lt (m := m) (d := double.fractionBits + 2) hm0
  by_cases hz : m = 0
  · subst hz
    simp only [Nat.zero_shiftLeft, Nat.zero_div, Nat.zero_mod]
    show double.nearest false 0 _ < _
    unfold Format.nearest
    rw [if_pos rfl]
    decide
  · have hi2 := place_le hz hi hv hb
    have hj2 := place_ge hn0 hj hv' hm'
    have hj3 := place_le hm0 hj hv' hn
    have hml : m.log2 < 53 := (Nat.log2_lt hz).2 hm
    have hnl : m'.log2 < 53 := (Nat.log2_lt hm0).2 hm'
    generalize hmag : 2 * ((m <<< (double.fractionBits + 2 + m'.log2 - m.log2)) / m') + ((m <<< (double.fractionBits + 2 + m'.log2 - m.log2)) % m' != 0).toNat = mag at *
    have hf : double.fractionBits = 52 := rfl
    rw [hf] at hq ⊢
    have hmore : 52 + 2 + m'.log2 - m.log2 ≤ 107 := by omega
    generalize 52 + 2 + m'.log2 - m.log2 = more at *
    rw [nearest_eq false mag (i - j - more - 1) 2000 (by omega) rfl rfl, word_pos]
    refine rung_lt ?_
    have h1 : mag < 2 ^ 110 := Nat.lt_of_lt_of_le hq (Nat.pow_le_pow_right (by decide) (by omega))
    obtain ⟨u, hu⟩ : ∃ u : Nat, u = 3300 := ⟨_, rfl⟩
    have h2 : 2 ^ (i - j - (more : Int) - 1 + 1074 + ((2000 : Nat) : Int)).toNat ≤ 2 ^ u := Nat.pow_le_pow_right (by decide) (by omega)
    obtain ⟨v, hv⟩ : ∃ v : Nat, v = 2000 + 2000 := ⟨_, rfl⟩
    rw [← hv]
    calc mag * 2 ^ (i - j - (more : Int) - 1 + 1074 + ((2000 : Nat) : Int)).toNat ≤ mag * 2 ^ u := Nat.mul_le_mul_left _ h2
      _ < 2 ^ 110 * 2 ^ u := Nat.mul_lt_mul_of_pos_right h1 (Nat.two_pow_pos _)
      _ = 2 ^ (110 + u) := (Nat.pow_add _ _ _).symm
      _ ≤ 2 ^ v := Nat.pow_le_pow_right (by decide) (by omega)

/-- A finite double less any double that is no NaN. -/
theorem sub_ok {q p : Nat} (hq : q < double.infRung) (hp : nan p = false) : ∃ d, floatBits .sub .f64 q p = some d ∧ nan d = false ∧ d < 2 ^ 64 := by
  have key : ∃ d, floatBits .sub .f64 q p = some d ∧ nan d = false := by
    obtain ⟨m, i, e, _, _⟩ := read_pos hq
    show ∃ d, double.sub q p = some d ∧ _
    unfold Format.sub
    rw [e]
    unfold nan at hp
    rw [decide_eq_false_iff_not] at hp
    by_cases ip : p % double.signWeight = double.infRung
    · rw [read_inf ip]
      exact ⟨_, rfl, nan_word (Nat.le_refl _)⟩
    · obtain ⟨n, j, e', _, _⟩ := read_num (w := p) (by omega)
      rw [e']
      exact ⟨_, rfl, nan_nearest _ _ _⟩
  obtain ⟨d, h1, h2⟩ := key
  refine ⟨d, h1, h2, ?_⟩
  have := floatBits_wf h1
  simpa [Lit.wf] using this

/-- A double that is no NaN, and zero. -/
theorem add_zero_ok {x : Nat} (h : nan x = false) : ∃ r, floatBits .add .f64 x 0 = some r := by
  show ∃ r, double.add x 0 = some r
  obtain ⟨m, i, e, _, _⟩ := read_pos (p := 0) (by decide)
  unfold Format.add
  rw [e]
  unfold nan at h
  rw [decide_eq_false_iff_not] at h
  by_cases ip : x % double.signWeight = double.infRung
  · rw [read_inf ip]
    exact ⟨_, rfl⟩
  · obtain ⟨n, j, e', _, _⟩ := read_num (w := x) (by omega)
    rw [e']
    exact ⟨_, rfl⟩

theorem sw_eq : double.signWeight = 9223372036854775808 := by decide

/-- The signs of a double that is no NaN. -/
theorem sign_ways {d : Nat} (h : d < 2 ^ 64) : (d < 9223372036854775808 ∧ key d = (fixv double.binade d : Nat)) ∨
    (d = 9223372036854775808 ∧ key d = 0) ∨ (9223372036854775808 < d ∧ key d < 0 ∧ d ^^^ 2 ^ 63 = d % 9223372036854775808 ∧ -key d = key (d % 9223372036854775808)) := by
  unfold key
  rw [sw_eq]
  by_cases h1 : d < 9223372036854775808
  · left
    rw [Nat.div_eq_of_lt h1, Nat.mod_eq_of_lt h1]
    exact ⟨h1, rfl⟩
  · right
    have hq : d / 9223372036854775808 = 1 := by omega
    have hm : d % 9223372036854775808 = d - 9223372036854775808 := by omega
    have hmm : d % 9223372036854775808 % 9223372036854775808 = d % 9223372036854775808 := Nat.mod_mod _ _
    have hmd : d % 9223372036854775808 / 9223372036854775808 = 0 := Nat.div_eq_of_lt (Nat.mod_lt _ (by decide))
    rw [hmm, hmd, hq]
    by_cases h2 : d = 9223372036854775808
    · left
      refine ⟨h2, ?_⟩
      rw [h2, Nat.mod_self, fixv_low BH_pos]
      rfl
    · right
      have hpos : 0 < fixv double.binade (d % 9223372036854775808) := by
        have := fixv_strict BH_pos (show 0 < d % 9223372036854775808 by omega)
        omega
      generalize fixv double.binade (d % 9223372036854775808) = v at *
      refine ⟨by omega, ?_, ?_, ?_⟩
      · show -(v : Int) < 0
        omega
      · obtain ⟨t, rfl⟩ : ∃ t, d = 2 ^ 63 + t := ⟨d - 2 ^ 63, by omega⟩
        have ht : t < 2 ^ 63 := by omega
        have e1 : 2 ^ 63 + t = 2 ^ 63 ||| t := by
          have := Nat.two_pow_add_eq_or_of_lt ht 1
          simpa using this
        have e2 : (2 ^ 63 + t) % 9223372036854775808 = t := by omega
        rw [e2]
        apply Nat.eq_of_testBit_eq
        intro k
        rw [e1, Nat.testBit_xor, Nat.testBit_or, Nat.testBit_two_pow]
        by_cases hk : 63 = k
        · subst hk
          rw [Nat.testBit_lt_two_pow ht]
          simp
        · simp [hk]
      · show -(-(v : Int)) = v
        omega

/-- What ratio.Uneven tells of a difference. -/
def minOne (x : Nat) : Nat := if (SC : Int) < key x then ONE else x

theorem min_law {P : Program} (w : World) (ts : Array TypeId) (t : TypeId) {x : Nat} (hx : x < 9223372036854775808) (hn : nan x = false) :
    (Builtin.min_ ts t #[.float .f64 x, .float .f64 4607182418800017408]).run P w = .ok (.float .f64 (minOne x)) w := by
  have ho : FloatKind.f64.format.order x 4607182418800017408 = some (compare (key x) SC) := order_one hn
  unfold minOne
  rcases Int.lt_trichotomy (key x) (SC : Int) with h | h | h
  · rw [if_neg (by omega)]
    rw [compare_lt h] at ho
    simp [Builtin.min_, Builtin.min2, ho]
  · rw [if_neg (by omega)]
    rw [h, compare_eq] at ho
    have e : x = ONE := by
      have hk : key x = (fixv double.binade x : Nat) := by
        rcases sign_ways (d := x) (by omega) with a | a | a
        · exact a.2
        · omega
        · omega
      rw [hk, ← fixv_one] at h
      rcases Nat.lt_trichotomy x ONE with a | a | a
      · have := fixv_strict BH_pos a
        unfold ONE at this
        omega
      · exact a
      · have := fixv_strict BH_pos a
        unfold ONE at this
        omega
    subst e
    have hd : (FloatKind.f64.decode ONE).neg = false := by decide
    simp [Builtin.min_, Builtin.min2, ho, hd]
    rfl
  · rw [if_pos h]
    rw [compare_gt h] at ho
    simp [Builtin.min_, Builtin.min2, ho]
    rfl
end Go.Proofs.Ytmncpcchdhieoaa.Flo
