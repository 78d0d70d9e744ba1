/- Contracts of masks: how many buckets one has, and whether it has one. -/
import Derived.Test.YtilimmimidikcaaMask
import Derived.Lib.Tables
namespace Go.Proofs.Ytilimmimidikcaa
open Go.ChangeShapes Go.WideShapes Go.ChangeAt Go.RowKit
set_option linter.unusedVariables false

/-- One cell of an array value. -/
theorem run_index_row {P : Program} (w : World) (t e : TypeId) (n : Nat) (cs : Array Value) (k : IntKind) (i : Nat) {v : Value} (hu : P.underlying t = some (.array n e)) (hs : (P.info? e).map (·.size) = some 1) {ek : IntKind} (he : P.underlying e = some (.int ek))
    (hi : i < n) (hv : cs[i]? = some v) : (Instr.index t (.agg cs) (.int k i)).run P w = .ok v w := by
  obtain ⟨x, hx, hs1⟩ := Option.map_eq_some_iff.1 hs
  have h1 : (0 : Int) ≤ (i : Int) ∧ (i : Int) < (n : Int) := by omega
  simp [Instr.index, run_underlying hu, run_underlying he, sizeOf, typeInfo, hx, hs1, part, isAgg, hv, h1, asIntOf]
  intro hc
  omega

def popI (b : Int) : Int := b % 2 + b / 2 % 2 + b / 4 % 2 + b / 8 % 2 + b / 16 % 2 + b / 32 % 2 + b / 64 % 2 + b / 128 % 2
theorem pop8_eq (b : Int) (h0 : 0 ≤ b) (h1 : b < 256) : Lib.pop8 b = popI b := by
  obtain ⟨n, rfl⟩ := Int.eq_ofNat_of_zero_le h0
  have : ∀ n : Nat, n < 256 → Lib.pop8 (n : Int) = popI n := by decide +kernel
  exact this n (by omega)
theorem popI_range (b : Int) : 0 ≤ popI b ∧ popI b ≤ 8 := by unfold popI; omega
def countV : List Int → Int
  | [] => 0
  | b :: l => popI b + countV l
theorem countV_range : ∀ l : List Int, 0 ≤ countV l ∧ countV l ≤ 8 * l.length
  | [] => ⟨by decide, by decide⟩
  | b :: l => by
    have := countV_range l
    have := popI_range b
    unfold countV
    rw [List.length_cons]
    omega
theorem countV_snoc (l : List Int) (b : Int) : countV (l ++ [b]) = countV l + popI b := by
  induction l with
  | nil => simp [countV]
  | cons a l ih => rw [List.cons_append, countV, countV, ih]; omega
theorem countV_take (bs : List Int) {k : Nat} (hk : k < bs.length) : countV (bs.take (k + 1)) = countV (bs.take k) + popI (bs.getD k 0) := by
  rw [List.take_succ_eq_append_getElem hk, countV_snoc, List.getD_eq_getElem?_getD, List.getElem?_eq_getElem hk]
  rfl

theorem ones_any (b : Int) (w : World) (h0 : 0 ≤ b) (h1 : b < 256) : Calls Try.prog 22 #[.int .u8 b] w fun e w' => e = .returned (.int .i64 (popI b)) ∧ w = w' := by
  have h2 : b ≤ 255 := by omega
  have P := pop8_eq b h0 h1
  have Q := popI_range b
  go_enter Try.func22, Try.ntmps22
  go_wp2
  go_ret
  exact ⟨rfl, rfl⟩

theorem count_any (bs : List Int) (w : World) (h : okM bs) : Calls Try.prog 13 #[.agg (maskA bs)] w fun e w' => e = .returned (.int .i64 (countV bs)) ∧ Below w.heap.size w w' := by
  have hlen := h.1
  have HA : Hid (∀ i, 0 ≤ bs.getD i 0 ∧ bs.getD i 0 < 256) := h.at
  have HM : Hid (∀ i, i < 32 → (maskA bs)[i]? = some (.int .u8 (bs.getD i 0))) := fun i hi => maskA_at (by omega)
  have hs : (maskA bs).size = 32 := by rw [maskA_size]; exact hlen
  have HI : Hid ((Try.prog.info? 28).map (·.size) = some (maskA bs).size) := by show _ = _; rw [hs]; kernel_rfl
  clear h hs
  generalize maskA bs = A at *
  go_enter Try.func13, Try.ntmps13
  go_wp2_with (refine wpList_load_row rfl 28 _ rfl w.heap.size rfl _ _ _ _ (Blk.new w A 28) Try.underlying28 rfl HI.out ?_)
  go_loopw [3, 5, 7] (fun s _ i wr => ∃ k : Nat, k ≤ 32 ∧ i = .int .i64 k ∧ s = .int .i64 (countV (bs.take k)) ∧ Below w.heap.size w wr) (fun _ _ i _ => 32 - (intOf i).toNat)
  case atStart => exact ⟨0, by omega, rfl, by simp [countV], (Below.refl _ _).alloc (Nat.le_refl _) _⟩
  case round =>
    obtain ⟨k, hk, rfl, rfl, hb⟩ := hrel
    have Hb := Lib.hid hb
    clear hb
    have hr := countV_range (bs.take k)
    rw [List.length_take] at hr
    obtain ⟨r1, r2⟩ : 0 ≤ countV (bs.take k) ∧ countV (bs.take k) ≤ 256 := by omega
    clear hr
    by_cases hlt : k < 32
    · have X := fun w => run_index_row (P := Try.prog) w 28 5 32 A .i64 k Try.underlying28 (by kernel_rfl) Try.underlying5 hlt (HM.out k hlt)
      obtain ⟨v1, v2⟩ := HA.out k
      have HS := Lib.hid (countV_take bs (k := k) (by omega))
      generalize bs.getD k 0 = v at *
      obtain ⟨q1, q2⟩ := popI_range v
      go_wp2_with (go_at_call 22; refine (ones_any _ _ v1 v2).mono ?_; rintro e w' ⟨rfl, rfl⟩)
      exact ⟨⟨k + 1, by omega, by go_num, by rw [HS.out], Hb.out⟩, by simp [intOf]; omega⟩
    · obtain rfl : k = 32 := by omega
      have e : bs.take 32 = bs := List.take_of_length_le (by omega)
      rw [e]
      go_wp2
      go_ret
      exact ⟨rfl, Hb.out⟩

theorem half_step (v : Int) (j : Nat) : v / 2 ^ j / 2 = v / 2 ^ (j + 1) := by
  rw [Int.ediv_ediv_of_nonneg (Int.pow_nonneg (by decide)), Int.pow_succ]
set_option maxRecDepth 100000 in
theorem rhas_any (bs : List Int) (n : Int) (w : World) (h : okM bs) : Calls Try.prog 16 #[.agg (maskA bs), .int .i64 n] w fun e w' => e = .returned (.bool (hasV bs n)) ∧ Below w.heap.size w w' := by
  by_cases hn : 0 ≤ n ∧ n < 256
  · obtain ⟨m, rfl⟩ := Int.eq_ofNat_of_zero_le hn.1
    have hm : m < 256 := by omega
    have hc := maskA_at (bs := bs) (i := m / 8) (by have := h.1; omega)
    obtain ⟨v1, v2⟩ := h.at (m / 8)
    have V : Hid (hasV bs (m : Int) = decide (bs.getD (m / 8) 0 / 2 ^ (m % 8) % 2 = 1)) := by
      show _ = _
      unfold hasV
      rw [decide_eq_true hn, Bool.true_and]
      rfl
    generalize bs.getD (m / 8) 0 = v at *
    generalize maskA bs = A at *
    clear h hn
    go_enter Try.func16, Try.ntmps16
    go_wp2
    go_loop [5, 6] (fun x i => ∃ j : Nat, j ≤ m % 8 ∧ i = .int .i64 j ∧ x = .int .i64 (v / 2 ^ j)) (fun _ i => m % 8 - (intOf i).toNat)
    case atStart => exact ⟨0, by omega, rfl, by simp⟩
    case round =>
      obtain ⟨j, hj, rfl, rfl⟩ := hrel
      obtain ⟨r1, r2⟩ := shr_range v1 v2 j
      have HS := Lib.hid (half_step v j)
      by_cases hlt : j < m % 8
      · generalize v / 2 ^ j = x at *
        have hz : ((j : Int) < (m : Int) % 8) := by omega
        go_wp2
        go_round
        case rel => exact ⟨j + 1, by omega, by go_num, by rw [HS.out]⟩
        case measure => simp [intOf]; omega
      · obtain rfl : j = m % 8 := by omega
        generalize v / 2 ^ (m % 8) = x at *
        have hz : ¬ ((m : Int) % 8 < (m : Int) % 8) := by omega
        go_wp2
        go_ret
        exact ⟨ret_bool (by rw [V.out, Bool.eq_iff_iff]; simp), (Below.refl _ _).alloc (Nat.le_refl _) _⟩
  · have V : Hid (hasV bs n = false) := by
      show _ = _
      unfold hasV
      rw [decide_eq_false hn, Bool.false_and]
    generalize maskA bs = A at *
    clear h
    by_cases h0 : 0 ≤ n
    · have h1 : 256 ≤ n := by omega
      clear hn
      go_enter Try.func16, Try.ntmps16
      go_wp2
      go_ret
      exact ⟨ret_bool V.out.symm, (Below.refl _ _).alloc (Nat.le_refl _) _⟩
    · have h1 : n < 0 := by omega
      clear hn
      go_enter Try.func16, Try.ntmps16
      go_wp2
      go_ret
      exact ⟨ret_bool V.out.symm, (Below.refl _ _).alloc (Nat.le_refl _) _⟩

end Go.Proofs.Ytilimmimidikcaa
