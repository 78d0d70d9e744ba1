/- Plain facts on doubles, continued: how words are read, compared, multiplied and made whole; the part of a number. No Go here. -/
import Derived.Test.YtmncpcchdhieoaaFlo
namespace Go.Proofs.Ytmncpcchdhieoaa.Flo
open Ieee Go
set_option linter.unusedVariables false

theorem BH_pow : 2 ^ 52 = double.binade := rfl
theorem BH_pos : 0 < double.binade := Nat.two_pow_pos _
/-- 2^1074. -/
def p2 (e : Nat) : Nat := 2 ^ e
theorem p2_pos (e : Nat) : 0 < p2 e := Nat.two_pow_pos e
def SC : Nat := p2 1074
theorem SC_pos : 0 < SC := p2_pos _
theorem SC_p2 : p2 1074 = SC := rfl
theorem p2_eq (e : Nat) : 2 ^ e = p2 e := rfl
theorem SC_of {e : Nat} (h : e = 1074) : 2 ^ e = SC := by rw [p2_eq, h, SC_p2]
theorem log2_p2 {n : Nat} (h : n ≠ 0) (e : Nat) : (n * p2 e).log2 = n.log2 + e := log2_scale h e
theorem rung_p2 (H INF K M e : Nat) : rung H INF (K + e) (M * p2 e) = rung H INF K M := rung_scale H INF K M e

theorem fixv_step {H : Nat} (hH : 0 < H) (r : Nat) : fixv H r < fixv H (r + 1) := by
  by_cases h1 : r + 1 < H
  · rw [fixv_low h1, fixv_low (by omega)]; omega
  · by_cases h2 : r < H
    · rw [fixv_low h2, fixv_small hH (by omega)]; omega
    · have hq : 1 ≤ r / H := Nat.div_pos (by omega) hH
      have hm : r % H < H := Nat.mod_lt _ hH
      have e := Nat.div_add_mod r H
      obtain ⟨q, hq'⟩ : ∃ q, r / H = q + 1 := ⟨r / H - 1, by omega⟩
      generalize r % H = t at *
      rw [hq', Nat.mul_comm] at e
      have p1 := Nat.two_pow_pos q
      rw [← e, fixv_at hH _ _ hm]
      by_cases h3 : t + 1 < H
      · rw [Nat.add_assoc, fixv_at hH _ _ h3]
        exact Nat.mul_lt_mul_of_pos_right (by omega) p1
      · have : (q + 1) * H + t + 1 = (q + 1 + 1) * H + 0 := by rw [Nat.add_mul (q + 1) 1 H]; omega
        rw [this, fixv_at hH _ _ hH, Nat.pow_succ, Nat.add_zero, ← Nat.mul_assoc, Nat.mul_right_comm]
        exact Nat.mul_lt_mul_of_pos_right (by omega) p1

theorem fixv_strict {H : Nat} (hH : 0 < H) {r s : Nat} (h : r < s) : fixv H r < fixv H s :=
  Nat.lt_of_lt_of_le (fixv_step hH r) (fixv_mono hH h)

def sg (s : Bool) (v : Nat) : Int := if s then -(v : Int) else v
/-- A word's value, in 2^-1074; an infinity as the next rung. -/
def key (w : Nat) : Int := sg (w / double.signWeight % 2 == 1) (fixv double.binade (w % double.signWeight))
def nan (w : Nat) : Bool := decide (double.infRung < w % double.signWeight)

/-- What a finite word is read as. -/
theorem read_num {w : Nat} (h : w % double.signWeight < double.infRung) : ∃ m i, double.read w = .number (w / double.signWeight % 2 == 1) m i ∧ -1074 ≤ i ∧ m * 2 ^ (i + 1074).toNat = fixv double.binade (w % double.signWeight) := by
  have hl : double.leastPlace = -1074 := by decide
  unfold Format.read
  simp only [hl]
  by_cases h1 : w % double.signWeight < double.binade
  · refine ⟨w % double.signWeight, -1074, by rw [if_pos h1], Int.le_refl _, ?_⟩
    rw [fixv_low h1]
    simp
  · refine ⟨double.binade + w % double.signWeight % double.binade, -1074 + ((w % double.signWeight / double.binade - 1 : Nat) : Int), by rw [if_neg h1, if_pos h], by omega, ?_⟩
    unfold fixv
    rw [if_neg h1, show (-1074 + ((w % double.signWeight / double.binade - 1 : Nat) : Int) + 1074).toNat = w % double.signWeight / double.binade - 1 from by omega]

theorem read_inf {w : Nat} (h : w % double.signWeight = double.infRung) : double.read w = .infinity (w / double.signWeight % 2 == 1) := by
  have h0 : double.binade ≤ double.infRung := by decide
  unfold Format.read
  simp only
  rw [if_neg (by omega), if_neg (by omega), if_pos h]

theorem read_nan {w : Nat} (h : double.infRung < w % double.signWeight) : ∃ s f, double.read w = .nan s f := by
  have h0 : double.binade ≤ double.infRung := by decide
  unfold Format.read
  simp only
  rw [if_neg (by omega), if_neg (by omega), if_neg (by omega)]
  exact ⟨_, _, rfl⟩

theorem compare_lt {a b : Int} (h : a < b) : compare a b = .lt := by
  show compareOfLessAndEq a b = .lt
  unfold compareOfLessAndEq
  rw [if_pos h]
theorem compare_eq (a : Int) : compare a a = .eq := by
  show compareOfLessAndEq a a = .eq
  unfold compareOfLessAndEq
  rw [if_neg (by omega), if_pos rfl]
theorem compare_gt {a b : Int} (h : b < a) : compare a b = .gt := by
  show compareOfLessAndEq a b = .gt
  unfold compareOfLessAndEq
  rw [if_neg (by omega), if_neg (by omega)]

theorem compare_scale (a b : Int) (k : Nat) (hk : 0 < k) : compare (a * k) (b * k) = compare a b := by
  have hk' : (0 : Int) < k := by omega
  rcases Int.lt_trichotomy a b with h | h | h
  · rw [compare_lt h, compare_lt (Int.mul_lt_mul_of_pos_right h hk')]
  · subst h; rw [compare_eq, compare_eq]
  · rw [compare_gt h, compare_gt (Int.mul_lt_mul_of_pos_right h hk')]

theorem sg_mul (s : Bool) (v k : Nat) : sg s (v * k) = sg s v * k := by
  unfold sg
  cases s
  · simp
  · simp [Int.neg_mul]

theorem order_num (s t : Bool) (m n : Nat) (i j : Int) (hi : -1074 ≤ i) (hj : -1074 ≤ j) :
    Datum.order (.number s m i) (.number t n j) = some (compare (sg s (m * 2 ^ (i + 1074).toNat)) (sg t (n * 2 ^ (j + 1074).toNat))) := by
  unfold Datum.order
  simp only
  obtain ⟨b, hb⟩ : ∃ b, min i j = b := ⟨_, rfl⟩
  rw [hb]
  have e1 : (i + 1074).toNat = (i - b).toNat + (b + 1074).toNat := by omega
  have e2 : (j + 1074).toNat = (j - b).toNat + (b + 1074).toNat := by omega
  rw [e1, e2, Nat.pow_add, Nat.pow_add, ← Nat.mul_assoc, ← Nat.mul_assoc]
  obtain ⟨k, hk, hkp⟩ : ∃ k, 2 ^ (b + 1074).toNat = k ∧ 0 < k := ⟨_, rfl, Nat.two_pow_pos _⟩
  rw [hk, sg_mul s _ k, sg_mul t _ k, compare_scale _ _ _ hkp]
  simp only [signed, sg, Nat.shiftLeft_eq]

theorem sg_lt {s t : Bool} {a b : Nat} (h : b < a) : compare (sg s a) (sg t b) = if s then .lt else .gt := by
  unfold sg
  cases s <;> cases t
  · exact compare_gt (by simp; omega)
  · exact compare_gt (by simp; omega)
  · exact compare_lt (by simp; omega)
  · exact compare_lt (by simp; omega)

theorem compare_swap (a b : Int) : compare a b = (compare b a).swap := by
  rcases Int.lt_trichotomy a b with h | h | h
  · rw [compare_lt h, compare_gt h]; rfl
  · subst h; rw [compare_eq]; rfl
  · rw [compare_gt h, compare_lt h]; rfl

/-- Two words that are no NaN stand to each other as their values do. -/
theorem order_key {x y : Nat} (hx : nan x = false) (hy : nan y = false) : double.order x y = some (compare (key x) (key y)) := by
  unfold nan at hx hy
  rw [decide_eq_false_iff_not] at hx hy
  unfold Format.order key
  by_cases ix : x % double.signWeight = double.infRung
  · rw [read_inf ix]
    by_cases iy : y % double.signWeight = double.infRung
    · rw [read_inf iy, ix, iy]
      have hp : 0 < fixv double.binade double.infRung := Nat.lt_of_le_of_lt (Nat.zero_le _) (fixv_strict BH_pos (show 0 < double.infRung by decide))
      generalize (x / double.signWeight % 2 == 1) = s
      generalize (y / double.signWeight % 2 == 1) = t
      generalize fixv double.binade double.infRung = v at *
      cases s <;> cases t
      · simp only [Datum.order, sg]; rw [compare_eq]; rfl
      · simp only [Datum.order, sg]; rw [compare_gt (by simp; omega)]; rfl
      · simp only [Datum.order, sg]; rw [compare_lt (by simp; omega)]; rfl
      · simp only [Datum.order, sg]; rw [compare_eq]; rfl
    · obtain ⟨n, j, e, hj, hv⟩ := read_num (w := y) (by omega)
      have h1 : fixv double.binade (y % double.signWeight) < fixv double.binade (x % double.signWeight) := fixv_strict BH_pos (by omega)
      rw [e, sg_lt h1]
      rfl
  · obtain ⟨m, i, e, hi, hv⟩ := read_num (w := x) (by omega)
    by_cases iy : y % double.signWeight = double.infRung
    · rw [read_inf iy, e]
      have h1 : fixv double.binade (x % double.signWeight) < fixv double.binade (y % double.signWeight) := fixv_strict BH_pos (by omega)
      rw [compare_swap, sg_lt h1]
      generalize (y / double.signWeight % 2 == 1) = t
      cases t <;> rfl
    · obtain ⟨n, j, e', hj, hv'⟩ := read_num (w := y) (by omega)
      rw [e, e', order_num _ _ _ _ _ _ hi hj, hv, hv']

theorem order_nan_left {x : Nat} (y : Nat) (h : nan x = true) : double.order x y = none := by
  obtain ⟨s, f, e⟩ := read_nan (w := x) (by simpa [nan] using h)
  unfold Format.order
  rw [e]
  rfl
theorem order_nan_right (x : Nat) {y : Nat} (h : nan y = true) : double.order x y = none := by
  obtain ⟨s, f, e⟩ := read_nan (w := y) (by simpa [nan] using h)
  unfold Format.order
  rw [e]
  cases double.read x <;> rfl

/-! ### the part of a number -/

theorem word_pos (r : Nat) : double.word false r = r := rfl

/-- A whole number up to 2^53 as a double: nothing is lost. -/
theorem ofInt_key {n : Nat} (h0 : 0 < n) (h : n < 2 ^ 53) : ∃ r, floatOfInt .f64 (n : Int) = r ∧ r < double.infRung ∧ fixv double.binade r = n * SC ∧ r = rung double.binade double.infRung 0 (n * SC) := by
  have hn : n ≠ 0 := by omega
  have e : floatOfInt .f64 (n : Int) = double.nearest false n 0 := by
    unfold floatOfInt FloatKind.nearest FloatKind.encode
    have : decide ((n : Int) < 0) = false := by simp
    rw [this]
    rfl
  rw [e, nearest_eq false n 0 0 (by decide) rfl rfl, word_pos]
  have hS : 2 ^ ((0 : Int) + 1074 + ((0 : Nat) : Int)).toNat = SC := SC_of (by decide)
  rw [hS]
  refine ⟨_, rfl, ?_⟩
  have hl : n.log2 < 53 := (Nat.log2_lt hn).2 h
  have hM : n * SC ≠ 0 := Nat.mul_ne_zero hn (Nat.pos_iff_ne_zero.1 SC_pos)
  have hlog : (n * SC).log2 = n.log2 + 1074 := by rw [← SC_p2]; exact log2_p2 hn 1074
  have hL : lastd 0 (n * SC) = n.log2 + 1022 := by unfold lastd; rw [hlog]; omega
  have h1 := log2_lt n
  have hk : n * SC = n * 2 ^ (52 - n.log2) * 2 ^ lastd 0 (n * SC) := by
    rw [hL, Nat.mul_assoc, ← Nat.pow_add, SC_of (by omega)]
  have hb : n * 2 ^ (52 - n.log2) < 2 * double.binade := by
    have : n * 2 ^ (52 - n.log2) < 2 ^ (n.log2 + 1) * 2 ^ (52 - n.log2) := Nat.mul_lt_mul_of_pos_right h1 (Nat.two_pow_pos _)
    rw [← Nat.pow_add, show n.log2 + 1 + (52 - n.log2) = 53 from by omega] at this
    exact this
  have hI : double.infRung = 2047 * double.binade := rfl
  have hi : (lastd 0 (n * SC) - 0) * double.binade + n * 2 ^ (52 - n.log2) < double.infRung := by
    rw [hL, hI]
    have : (n.log2 + 1022 - 0) * double.binade ≤ 1074 * double.binade := Nat.mul_le_mul_right _ (by omega)
    omega
  have hr := fixv_rung BH_pow hM hk (Nat.le_of_lt hi)
  rw [Nat.pow_zero, Nat.mul_one] at hr
  refine ⟨?_, hr, rfl⟩
  refine Nat.lt_of_le_of_lt ?_ hi
  unfold rung
  rw [if_neg hM]
  refine Nat.le_trans (Nat.min_le_left _ _) (Nat.add_le_add_left ?_ _)
  have h3 := rnd_exact (n * 2 ^ (52 - n.log2)) (lastd 0 (n * SC))
  rw [← hk] at h3
  omega

/-- The rung of 'float64(n) * p'. -/
def prodR (n p : Nat) : Nat := rung double.binade double.infRung 1074 (n * SC * fixv double.binade p)
/-- 'int(float64(n) * p)'. -/
def prodI (n p : Nat) : Nat := fixv double.binade (prodR n p) / SC

theorem infRung_lt : double.infRung < double.signWeight := by decide
theorem pos_word {p : Nat} (h : p < double.infRung) : p % double.signWeight = p ∧ p / double.signWeight = 0 := by
  have := infRung_lt
  exact ⟨Nat.mod_eq_of_lt (by omega), Nat.div_eq_of_lt (by omega)⟩

theorem read_pos {p : Nat} (h : p < double.infRung) : ∃ m i, double.read p = .number false m i ∧ -1074 ≤ i ∧ m * 2 ^ (i + 1074).toNat = fixv double.binade p := by
  obtain ⟨h1, h2⟩ := pos_word h
  obtain ⟨m, i, e, hi, hv⟩ := read_num (w := p) (by rw [h1]; exact h)
  rw [h2] at e
  rw [h1] at hv
  exact ⟨m, i, e, hi, hv⟩

theorem mul_part {n p : Nat} (h0 : 0 < n) (h : n < 2 ^ 53) (hp : p < double.infRung) : floatBits .mul .f64 (floatOfInt .f64 (n : Int)) p = some (prodR n p) := by
  obtain ⟨r, hr, hri, hrv, _⟩ := ofInt_key h0 h
  obtain ⟨m, i, e, hi, hv⟩ := read_pos hri
  obtain ⟨m', i', e', hi', hv'⟩ := read_pos hp
  rw [hr]
  show double.mul r p = _
  unfold Format.mul
  rw [e, e']
  show some (double.nearest (false ^^ false) (m * m') (i + i')) = _
  rw [Bool.xor_self, nearest_eq false _ _ 1074 (by omega) rfl rfl, word_pos]
  have e3 : m * m' * 2 ^ (i + i' + 1074 + ((1074 : Nat) : Int)).toNat = n * SC * fixv double.binade p := by
    rw [← hrv, ← hv, ← hv', show (i + i' + 1074 + ((1074 : Nat) : Int)).toNat = (i + 1074).toNat + (i' + 1074).toNat from by omega, Nat.pow_add]
    generalize 2 ^ (i + 1074).toNat = a
    generalize 2 ^ (i' + 1074).toNat = b
    rw [Nat.mul_mul_mul_comm]
  rw [e3]
  rfl

theorem toInt_pos {p : Nat} (h : p < double.infRung) : (double.read p).toInt .zero = some ((fixv double.binade p / SC : Nat) : Int) := by
  obtain ⟨m, i, e, hi, hv⟩ := read_pos h
  rw [e, ← hv]
  show some (signed false (Toward.zero.cut false (m <<< i.toNat) (-i).toNat) 0) = _
  rw [cut_zero]
  have e2 : m <<< i.toNat / 2 ^ (-i).toNat = m * 2 ^ (i + 1074).toNat / SC := by
    rw [Nat.shiftLeft_eq]
    by_cases h0 : 0 ≤ i
    · obtain ⟨e, he⟩ : ∃ e : Nat, e = 1074 := ⟨_, rfl⟩
      rw [show (-i).toNat = 0 from by omega, Nat.pow_zero, Nat.div_one, show (i + 1074).toNat = i.toNat + e from by omega, Nat.pow_add, SC_of he, ← Nat.mul_assoc]
      exact (Nat.mul_div_cancel _ SC_pos).symm
    · rw [show i.toNat = 0 from by omega, Nat.pow_zero, Nat.mul_one]
      have h2 : SC = 2 ^ (-i).toNat * 2 ^ (i + 1074).toNat := by
        rw [← Nat.pow_add, SC_of (by omega)]
      rw [h2, Nat.mul_div_mul_right _ _ (Nat.two_pow_pos _)]
  rw [e2]
  simp [signed]

theorem fixv_two (e : Nat) : fixv double.binade ((e + 1) * double.binade + 0) = p2 (52 + e) := by
  rw [fixv_at BH_pos e 0 BH_pos, Nat.add_zero, ← p2_eq, Nat.pow_add]
  rfl
theorem fixv_one : fixv double.binade 4607182418800017408 = SC := by
  have h := fixv_two 1022
  have e : (1022 + 1) * double.binade + 0 = 4607182418800017408 := by decide
  rw [e] at h
  exact h

theorem prodR_le {n p : Nat} (h : fixv double.binade p ≤ SC) : prodR n p ≤ rung double.binade double.infRung 0 (n * SC) := by
  have h1 := rung_p2 double.binade double.infRung 0 (n * SC) 1074
  rw [Nat.zero_add, SC_p2] at h1
  rw [← h1]
  exact rung_mono BH_pow _ _ (Nat.mul_le_mul_left _ h)

/-- 'int(float64(n) * p)' is told, and no greater than n. -/
theorem prod_ok {n p : Nat} (h0 : 0 < n) (h : n < 2 ^ 53) (hp : fixv double.binade p ≤ SC) : prodR n p < double.infRung ∧ fixv double.binade (prodR n p) ≤ n * SC ∧ prodI n p ≤ n := by
  obtain ⟨r, hr, hri, hrv, hrr⟩ := ofInt_key h0 h
  have h1 := prodR_le (n := n) hp
  rw [← hrr] at h1
  have h2 := fixv_mono BH_pos h1
  rw [hrv] at h2
  refine ⟨by omega, h2, ?_⟩
  unfold prodI
  exact Nat.div_le_of_le_mul (by rw [Nat.mul_comm]; exact h2)

theorem prodI_mono {n m p q : Nat} (h : n ≤ m) (k : fixv double.binade p ≤ fixv double.binade q) : prodI n p ≤ prodI m q := by
  unfold prodI prodR
  exact Nat.div_le_div_right (fixv_mono BH_pos (rung_mono BH_pow _ _ (Nat.mul_le_mul (Nat.mul_le_mul_right _ h) k)))
/-! ### ratio.Part, plainly -/
def ONE : Nat := 4607182418800017408
def isPos (p : Nat) : Bool := !nan p && decide (0 < key p)
def isOne (p : Nat) : Bool := decide ((SC : Int) ≤ key p)
def partV (n : Int) (p : Nat) : Int := if n < 1 ∨ isPos p = false then 0 else if isOne p = true then min n 1099511627776 else (prodI (min n 1099511627776).toNat p : Nat)

theorem key_zero : key 0 = 0 := by
  unfold key
  rw [Nat.zero_mod, Nat.zero_div, fixv_low BH_pos]
  rfl
theorem key_one : key ONE = (SC : Int) := by
  have h : ONE < double.infRung := by decide
  obtain ⟨h1, h2⟩ := pos_word h
  unfold key
  rw [h1, h2]
  unfold ONE
  rw [fixv_one]
  rfl
theorem nan_zero : nan 0 = false := by decide
theorem nan_one : nan ONE = false := by decide

theorem order_zero {p : Nat} (h : nan p = false) : double.order p 0 = some (compare (key p) 0) := by rw [order_key h nan_zero, key_zero]
theorem order_one {p : Nat} (h : nan p = false) : double.order p ONE = some (compare (key p) SC) := by rw [order_key h nan_one, key_one]
theorem order_self {p : Nat} (h : nan p = false) : double.order p p = some .eq := by rw [order_key h h, compare_eq]

/-- A word that is no NaN, whose value lies between 0 and an infinity's, is a finite positive one. -/
theorem pos_of_key {p : Nat} (hw : p < 2 ^ 64) (hn : nan p = false) (h0 : 0 < key p) (h1 : key p < SC) : p < double.infRung ∧ key p = (fixv double.binade p : Nat) := by
  have hs : (2 : Nat) ^ 64 = 2 * double.signWeight := by decide
  have hp := p.mod_lt (show 0 < double.signWeight by decide)
  have hd := Nat.div_add_mod p double.signWeight
  have h2 : p / double.signWeight < 2 := Nat.div_lt_of_lt_mul (by omega)
  unfold nan at hn
  rw [decide_eq_false_iff_not] at hn
  have hneg : ¬ p / double.signWeight = 1 := by
    intro e
    unfold key at h0
    rw [e] at h0
    simp only [sg] at h0
    have : ((1 % 2 == 1) = true) := by decide
    rw [if_pos this] at h0
    omega
  have hz : p / double.signWeight = 0 := by
    generalize p / double.signWeight = q at h2 hneg
    omega
  have hm : p % double.signWeight = p := by
    rw [hz, Nat.mul_zero] at hd
    omega
  have hk : key p = (fixv double.binade p : Nat) := by
    unfold key
    rw [hz, hm]
    rfl
  refine ⟨?_, hk⟩
  rw [hm] at hn
  rcases Nat.lt_or_ge p double.infRung with h | h
  · exact h
  · exfalso
    have h3 : ONE ≤ p := Nat.le_trans (by decide) h
    have h4 := fixv_mono BH_pos h3
    unfold ONE at h4
    rw [fixv_one] at h4
    omega

theorem part_low {n : Int} (p : Nat) (h : n < 1) : partV n p = 0 := by unfold partV; rw [if_pos (Or.inl h)]
theorem part_nan (n : Int) {p : Nat} (h : nan p = true) : partV n p = 0 := by unfold partV isPos; rw [h, Bool.not_true, Bool.false_and, if_pos (Or.inr rfl)]
theorem part_neg (n : Int) {p : Nat} (h : key p ≤ 0) : partV n p = 0 := by
  unfold partV isPos
  have : decide (0 < key p) = false := by rw [decide_eq_false_iff_not]; omega
  rw [this, Bool.and_false, if_pos (Or.inr rfl)]
theorem part_all {n : Int} {p : Nat} (h : 1 ≤ n) (hn : nan p = false) (h1 : (SC : Int) ≤ key p) : partV n p = min n 1099511627776 := by
  unfold partV isPos isOne
  have hS := SC_pos
  have e1 : decide (0 < key p) = true := by rw [decide_eq_true_iff]; omega
  have e2 : decide ((SC : Int) ≤ key p) = true := by rw [decide_eq_true_iff]; exact h1
  rw [hn, e1, e2, if_neg (by simp; omega), if_pos rfl]
theorem part_prod {n : Int} {p : Nat} (h : 1 ≤ n) (hn : nan p = false) (h0 : 0 < key p) (h1 : key p < SC) : partV n p = (prodI (min n 1099511627776).toNat p : Nat) := by
  unfold partV isPos isOne
  have e1 : decide (0 < key p) = true := by rw [decide_eq_true_iff]; exact h0
  have e2 : decide ((SC : Int) ≤ key p) = false := by rw [decide_eq_false_iff_not]; omega
  rw [hn, e1, e2, if_neg (by simp; omega), if_neg (by simp)]

theorem ways (n : Int) (p : Nat) : n < 1 ∨ nan p = true ∨ (nan p = false ∧ key p ≤ 0) ∨ (1 ≤ n ∧ nan p = false ∧ (SC : Int) ≤ key p) ∨ (1 ≤ n ∧ nan p = false ∧ 0 < key p ∧ key p < SC) := by
  by_cases a : n < 1
  · exact .inl a
  · cases hn : nan p
    · by_cases b : key p ≤ 0
      · exact .inr (.inr (.inl ⟨rfl, b⟩))
      · by_cases c : (SC : Int) ≤ key p
        · exact .inr (.inr (.inr (.inl ⟨by omega, rfl, c⟩)))
        · exact .inr (.inr (.inr (.inr ⟨by omega, rfl, by omega, by omega⟩)))
    · exact .inr (.inl rfl)

theorem prodI_eq (n p : Nat) : prodI n p = fixv double.binade (prodR n p) / SC := by unfold prodI; rfl

theorem toIntVal_of {r : Nat} {v : Int} (h : (FloatKind.f64.decode r).toInt .zero = some v) (b1 : IntKind.i64.min ≤ v) (b2 : v ≤ IntKind.i64.max) : floatToIntVal .f64 r .i64 = some v := by
  unfold floatToIntVal
  rw [h]
  simp only [b1, b2, and_self, if_true]

theorem prod_toInt {k p : Nat} (hr : prodR k p < double.infRung) (h : prodI k p ≤ 1099511627776) : floatToIntVal .f64 (prodR k p) .i64 = some ((prodI k p : Nat) : Int) := by
  have e : (FloatKind.f64.decode (prodR k p)).toInt .zero = some ((prodI k p : Nat) : Int) := by rw [prodI_eq]; exact toInt_pos hr
  have b1 : IntKind.i64.min = -9223372036854775808 := by decide
  have b2 : IntKind.i64.max = 9223372036854775807 := by decide
  generalize prodI k p = v at *
  exact toIntVal_of e (by rw [b1]; omega) (by rw [b2]; omega)

theorem prod_order {k p : Nat} (hk0 : 0 < k) (hk1 : k < 2 ^ 53) (hr : prodR k p < double.infRung) :
    double.order (prodR k p) (floatOfInt .f64 (k : Int)) = some (compare ((fixv double.binade (prodR k p) : Nat) : Int) ((k * SC : Nat) : Int)) := by
  obtain ⟨r', hr', hri', hrv', _⟩ := ofInt_key hk0 hk1
  rw [hr']
  obtain ⟨a1, a2⟩ := pos_word hr
  obtain ⟨c1, c2⟩ := pos_word hri'
  have n1 : nan (prodR k p) = false := by unfold nan; rw [a1, decide_eq_false_iff_not]; omega
  have n2 : nan r' = false := by unfold nan; rw [c1, decide_eq_false_iff_not]; omega
  have k1 : key (prodR k p) = (fixv double.binade (prodR k p) : Nat) := by unfold key; rw [a1, a2]; rfl
  have k2 : key r' = ((k * SC : Nat) : Int) := by unfold key; rw [c1, c2, hrv']; rfl
  rw [order_key n1 n2, k1, k2]

/-- The product of a part between 0 and 1. -/
theorem part_mid {n : Int} {p : Nat} (hw : p < 2 ^ 64) (h : 1 ≤ n) (hb : n ≤ 1099511627776) (hn : nan p = false) (h0 : 0 < key p) (h1 : key p < SC) :
    ∃ r, floatBits .mul .f64 (floatOfInt .f64 n) p = some r ∧ floatToIntVal .f64 r .i64 = some ((prodI n.toNat p : Nat) : Int) ∧ ((prodI n.toNat p : Nat) : Int) ≤ n ∧
      double.order r (floatOfInt .f64 n) = some (compare ((fixv double.binade r : Nat) : Int) ((n.toNat * SC : Nat) : Int)) ∧ fixv double.binade r ≤ n.toNat * SC ∧ prodI n.toNat p = fixv double.binade r / SC := by
  obtain ⟨k, rfl⟩ := Int.eq_ofNat_of_zero_le (show 0 ≤ n by omega)
  rw [Int.toNat_natCast]
  have hk0 : 0 < k := by omega
  have hk1 : k < 2 ^ 53 := by omega
  obtain ⟨hp, hkey⟩ := pos_of_key hw hn h0 h1
  have hle : fixv double.binade p ≤ SC := by omega
  obtain ⟨hr, hrv, hi⟩ := prod_ok hk0 hk1 hle
  exact ⟨prodR k p, mul_part hk0 hk1 hp, prod_toInt hr (by omega), by omega, prod_order hk0 hk1 hr, hrv, prodI_eq k p⟩

theorem part_range (n : Int) {p : Nat} (hw : p < 2 ^ 64) : 0 ≤ partV n p ∧ partV n p ≤ max n 0 ∧ partV n p ≤ 1099511627776 := by
  rcases ways n p with h | h | ⟨h, k⟩ | ⟨h, k, l⟩ | ⟨h, k, l, m⟩
  · rw [part_low p h]; omega
  · rw [part_nan n h]; omega
  · rw [part_neg n k]; omega
  · rw [part_all h k l]; omega
  · rw [part_prod h k l m]
    obtain ⟨r, _, _, h3, _⟩ := part_mid (n := min n 1099511627776) hw (by omega) (by omega) k l m
    omega

theorem part_mono_n {n m : Int} (h : n ≤ m) {p : Nat} (hw : p < 2 ^ 64) : partV n p ≤ partV m p := by
  have hm := part_range m hw
  rcases ways n p with h' | h' | ⟨h', k⟩ | ⟨h', k, l⟩ | ⟨h', k, l, q⟩
  · rw [part_low p h']; omega
  · rw [part_nan n h']; omega
  · rw [part_neg n k]; omega
  · rw [part_all h' k l, part_all (by omega) k l]; omega
  · rw [part_prod h' k l q, part_prod (by omega) k l q]
    have := prodI_mono (n := (min n 1099511627776).toNat) (m := (min m 1099511627776).toNat) (p := p) (by omega) (Nat.le_refl _)
    omega

theorem part_mono_p (n : Int) {p q : Nat} (hp : p < 2 ^ 64) (hq : q < 2 ^ 64) (np : nan p = false) (nq : nan q = false) (h : key p ≤ key q) : partV n p ≤ partV n q := by
  have hm := part_range n hq
  have hm2 := part_range n hp
  rcases ways n p with h' | h' | ⟨h', k⟩ | ⟨h', k, l⟩ | ⟨h', k, l, o⟩
  · rw [part_low p h']; omega
  · rw [np] at h'; cases h'
  · rw [part_neg n k]; omega
  · rw [part_all h' k l, part_all h' nq (by omega)]; omega
  · by_cases h2 : (SC : Int) ≤ key q
    · rw [part_all h' nq h2]; omega
    · rw [part_prod h' k l o, part_prod h' nq (by omega) (by omega)]
      obtain ⟨_, k1⟩ := pos_of_key hp np l o
      obtain ⟨_, k2⟩ := pos_of_key hq nq (by omega) (by omega)
      have := prodI_mono (n := (min n 1099511627776).toNat) (m := (min n 1099511627776).toNat) (p := p) (q := q) (Nat.le_refl _) (by omega)
      omega
end Go.Proofs.Ytmncpcchdhieoaa.Flo
