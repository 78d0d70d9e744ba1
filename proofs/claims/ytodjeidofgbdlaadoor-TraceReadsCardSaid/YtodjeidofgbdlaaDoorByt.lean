/- Bytes out of figures of 16, by the reference. -/
import Derived.Test.YtodjeidofgbdlaaDoorWds
namespace Go.Proofs.YtodjeidofgbdlaaDoor
open Go.ChangeShapes Go.WideShapes Go.ChangeAt Go.RowKit
set_option linter.unusedVariables false
set_option linter.unusedSimpArgs false

/-- The last one of some numbers whose figures of 16 are two given ones; 0: there is none. -/
def lk : Nat → UInt8 → UInt8 → Nat
  | 0, _, _ => 0
  | K + 1, a, c => if fig (K / 16) = a ∧ fig (K % 16) = c then K else lk K a c
theorem lk_lt : ∀ (K : Nat) (a c : UInt8), lk K a c ≤ K
  | 0, _, _ => Nat.le_refl _
  | K + 1, a, c => by
    have := lk_lt K a c
    unfold lk
    split <;> omega
theorem lk_fig (b : Nat) (hb : b < 256) : ∀ K, b < K → K ≤ 256 → lk K (fig (b / 16)) (fig (b % 16)) = b
  | 0, h, _ => by omega
  | K + 1, h, h2 => by
    unfold lk
    by_cases e : K = b
    · subst e
      rw [if_pos ⟨rfl, rfl⟩]
    · rw [if_neg (fun hh => e (by
        have h1 := fig_inj (by omega) (by omega) hh.1
        have h3 := fig_inj (by omega) (by omega) hh.2
        omega))]
      exact lk_fig b hb K (by omega) (by omega)
def bytesL : List UInt8 → List UInt8
  | a :: c :: l => UInt8.ofNat (lk 256 a c) :: bytesL l
  | _ => []
theorem bytes_hex (l : List UInt8) : bytesL (hexL l) = l := by
  induction l with
  | nil => rfl
  | cons b l ih =>
    have hb := b.toNat_lt
    rw [hexL_cons, bytesL, ih, lk_fig b.toNat (by omega) 256 (by omega) (Nat.le_refl _), UInt8.ofNat_toNat]
theorem drop_two (s : ByteArray) (k : Nat) (h : k + 1 < s.size) : s.data.toList.drop k = s[k] :: s[k + 1] :: s.data.toList.drop (k + 2) := by
  rw [drop_get s k (by omega), drop_get s (k + 1) h]
theorem bytes_end {s : ByteArray} {k : Nat} (h : s.size ≤ k + 1) : bytesL (s.data.toList.drop k) = [] := by
  have hl : (s.data.toList.drop k).length = s.size - k := by rw [List.length_drop, Array.length_toList]; rfl
  generalize s.data.toList.drop k = l at *
  match l with
  | [] => rfl
  | [_] => rfl
  | _ :: _ :: _ => simp at hl; omega
theorem toNat_beq {a c : UInt8} : (((a.toNat : Int)) == (c.toNat : Int)) = decide (a = c) := by
  rw [Bool.eq_iff_iff, beq_iff_eq, decide_eq_true_eq]
  constructor
  · intro h; exact UInt8.toNat_inj.1 (by omega)
  · intro h; rw [h]
set_option maxRecDepth 100000 in
set_option maxHeartbeats 1000000 in
theorem bytes_any (s : ByteArray) (hs : s.size ≤ 1000) (w : World) : Calls Tryd.prog 35 #[.string s] w fun e w' => e = .returned (.string (bl (bytesL s.data.toList))) ∧ Below w.heap.size w w' := by
  obtain ⟨i0, hi, hz0, hz1, hz2⟩ := info_parts Tryd.info5
  go_enter Tryd.func35, Tryd.ntmps35
  go_wp2
  go_loopw [3, 4] (fun v i wr => ∃ (j : Nat) (l : List UInt8), 2 * j ≤ s.size ∧ i = .int .i64 (2 * (j : Int)) ∧ l.length = j ∧ wr.ownsRow w.heap.size 5 1 v l.length (cb l) ∧ l ++ bytesL (s.data.toList.drop (2 * j)) = bytesL s.data.toList ∧ Below w.heap.size w wr) (fun _ i _ => s.size - (intOf i).toNat)
  case atStart => exact ⟨0, [], by omega, rfl, rfl, World.ownsRow_nil _ _ _ _, rfl, Below.refl _ _⟩
  case round =>
    obtain ⟨j, l, hj, rfl, hll, hown, hl, hb⟩ := hrel
    have HO := Lib.hid hown
    have HB := Lib.hid hb
    have HL := Lib.hid hl
    have HLL := Lib.hid hll
    clear hown hb hl hll
    by_cases hlt : 2 * j + 1 < s.size
    · obtain ⟨a, ha⟩ : ∃ a, a = s[2 * j]'(by omega) := ⟨_, rfl⟩
      obtain ⟨c, hc⟩ : ∃ c, c = s[2 * j + 1]'hlt := ⟨_, rfl⟩
      have HG := Lib.hid (drop_two s (2 * j) hlt)
      have HA := Lib.hid ha
      have HCC := Lib.hid hc
      clear ha hc
      have q0 : decide (2 * (j : Int) + 1 < s.size) = true := decide_eq_true (by omega)
      obtain ⟨wo, rfl⟩ : ∃ wo : World, wo = wr := ⟨_, rfl⟩
      go_wp2
      go_loopw [5, 6] (fun nv i wr => ∃ K : Nat, K ≤ 256 ∧ i = .int .i64 K ∧ nv = .int .i64 (lk K a c : Nat) ∧ Below wo.heap.size wo wr) (fun _ i _ => 256 - (intOf i).toNat)
      case atStart => exact ⟨0, by omega, rfl, rfl, Below.refl _ _⟩
      case round =>
        obtain ⟨K, hK, rfl, rfl, hbi⟩ := hrel
        have HBI := Lib.hid hbi
        clear hbi
        have hlk := lk_lt K a c
        by_cases hlt2 : K < 256
        · have q2 : decide ((K : Int) < 256) = true := decide_eq_true (by omega)
          have HF1 := Lib.hid (show ∀ w, Calls Tryd.prog 24 #[.int .i64 ((K : Int) / 16)] w fun e w' => e = .returned (.int .u8 ((fig (K / 16)).toNat : Int)) ∧ w = w' from fun w => by
            rw [show (K : Int) / 16 = ((K / 16 : Nat) : Int) by omega]
            exact figure_any _ (by omega) w)
          have HF2 := Lib.hid (show ∀ w, Calls Tryd.prog 24 #[.int .i64 ((K : Int) % 16)] w fun e w' => e = .returned (.int .u8 ((fig (K % 16)).toNat : Int)) ∧ w = w' from fun w => by
            rw [show (K : Int) % 16 = ((K % 16 : Nat) : Int) by omega]
            exact figure_any _ (by omega) w)
          obtain ⟨f1, hf1⟩ : ∃ f1, fig (K / 16) = f1 := ⟨_, rfl⟩
          obtain ⟨f2, hf2⟩ : ∃ f2, fig (K % 16) = f2 := ⟨_, rfl⟩
          rw [hf1] at HF1
          rw [hf2] at HF2
          have HLK := Lib.hid (show lk (K + 1) a c = if f1 = a ∧ f2 = c then K else lk K a c from by rw [lk, hf1, hf2])
          have t1 := toNat_beq (a := f1) (c := a)
          have t2 := toNat_beq (a := f2) (c := c)
          clear hf1 hf2
          by_cases e1 : f1 = a
          · rw [decide_eq_true e1] at t1
            by_cases e2 : f2 = c
            · rw [decide_eq_true e2] at t2
              have HE := Lib.hid (show K = lk (K + 1) a c from by rw [HLK.out, if_pos ⟨e1, e2⟩])
              clear e1 e2
              go_upto_region 9 with (fail)
              refine wp_region_seq (S := fun wS => Hid (Below wo.heap.size wo wS)) 17 (by kernel_rfl) (by kernel_rfl) (Lib.hid HBI.out.drew) ?_
              simp only [List.take_succ_cons, List.take_zero, List.drop_succ_cons, List.drop_zero]
              refine wpHeld_val (v := ?vp0) (by rfl) ?yp0 ?rp0
              case yp0 => (intro wS hSw; go_simp; try (with_reducible rfl))
              try simp only [Act.put, List.setIfInBounds_toArray, List.set_cons_zero, List.set_cons_succ]
              refine wpHeld_val (v := .int .i64 ((K : Int) / 16)) (by rfl) ?yp1 ?rp1
              case yp1 => (intro wS hSw; go_simp; try (first | with_reducible rfl | exact IntWalk.i64_in _ (by omega)))
              try simp only [Act.put, List.setIfInBounds_toArray, List.set_cons_zero, List.set_cons_succ]
              refine wpHeld_run (.int .u8 (f1.toNat : Int)) (by rfl) ?cp2 ?rp2
              case cp2 => (intro wS hSw K hK; go_simp; (go_at_call 24; (with_reducible refine (HF1.out _).mono ?_); rintro e w5 ⟨rfl, rfl⟩); go_wp2_with fail; exact hK.out _ (hSw))
              try simp only [Act.put, List.setIfInBounds_toArray, List.set_cons_zero, List.set_cons_succ]
              refine wpHeld_val (v := ?vp3) (by rfl) ?yp3 ?rp3
              case yp3 => (intro wS hSw; go_simp; try (with_reducible rfl))
              try simp only [Act.put, List.setIfInBounds_toArray, List.set_cons_zero, List.set_cons_succ]
              refine wpHeld_val (v := ?vp4) (by rfl) ?yp4 ?rp4
              case yp4 => (intro wS hSw; go_simp; try (with_reducible rfl))
              try simp only [Act.put, List.setIfInBounds_toArray, List.set_cons_zero, List.set_cons_succ]
              refine wpHeld_val (v := .int .u8 (a.toNat : Int)) (by rfl) ?yp5 ?rp5
              case yp5 => (intro wS hSw; go_simp; try (first | (rw [dif_pos (by omega), HA.out]; rfl) | rw [HA.out]))
              try simp only [Act.put, List.setIfInBounds_toArray, List.set_cons_zero, List.set_cons_succ]
              refine wpHeld_val (v := ?vp6) (by rfl) ?yp6 ?rp6
              case yp6 => (intro wS hSw; go_simp; try (with_reducible rfl))
              try simp only [Act.put, List.setIfInBounds_toArray, List.set_cons_zero, List.set_cons_succ]
              refine wpHeld_val (v := ?vp7) (by rfl) ?yp7 ?rp7
              case yp7 => (intro wS hSw; go_simp; try (with_reducible rfl))
              try simp only [Act.put, List.setIfInBounds_toArray, List.set_cons_zero, List.set_cons_succ]
              refine wpHeld_val (v := ?vp8) (by rfl) ?yp8 ?rp8
              case yp8 => (intro wS hSw; go_simp; try (with_reducible rfl))
              try simp only [Act.put, List.setIfInBounds_toArray, List.set_cons_zero, List.set_cons_succ]
              refine wpHeld_val (v := .int .i64 ((K : Int) % 16)) (by rfl) ?yp9 ?rp9
              case yp9 => (intro wS hSw; go_simp; try (first | with_reducible rfl | omega | exact Int.tmod_eq_emod_of_nonneg (by omega) | exact IntWalk.i64_in _ (by omega)))
              try simp only [Act.put, List.setIfInBounds_toArray, List.set_cons_zero, List.set_cons_succ]
              refine wpHeld_run (.int .u8 (f2.toNat : Int)) (by rfl) ?cp10 ?rp10
              case cp10 => (intro wS hSw K hK; go_simp; (go_at_call 24; (with_reducible refine (HF2.out _).mono ?_); rintro e w5 ⟨rfl, rfl⟩); go_wp2_with fail; exact hK.out _ (hSw))
              try simp only [Act.put, List.setIfInBounds_toArray, List.set_cons_zero, List.set_cons_succ]
              refine wpHeld_val (v := ?vp11) (by rfl) ?yp11 ?rp11
              case yp11 => (intro wS hSw; go_simp; try (with_reducible rfl))
              try simp only [Act.put, List.setIfInBounds_toArray, List.set_cons_zero, List.set_cons_succ]
              refine wpHeld_val (v := ?vp12) (by rfl) ?yp12 ?rp12
              case yp12 => (intro wS hSw; go_simp; try (with_reducible rfl))
              try simp only [Act.put, List.setIfInBounds_toArray, List.set_cons_zero, List.set_cons_succ]
              refine wpHeld_val (v := .int .i64 (2 * (j : Int) + 1)) (by rfl) ?yp13 ?rp13
              case yp13 => (intro wS hSw; go_simp; try (first | with_reducible rfl | exact IntWalk.i64_in _ (by omega)))
              try simp only [Act.put, List.setIfInBounds_toArray, List.set_cons_zero, List.set_cons_succ]
              refine wpHeld_val (v := .int .u8 (c.toNat : Int)) (by rfl) ?yp14 ?rp14
              case yp14 => (intro wS hSw; go_simp; try (first | (rw [dif_pos (by omega), HCC.out]; rfl) | rw [HCC.out]))
              try simp only [Act.put, List.setIfInBounds_toArray, List.set_cons_zero, List.set_cons_succ]
              refine wpHeld_val (v := ?vp15) (by rfl) ?yp15 ?rp15
              case yp15 => (intro wS hSw; go_simp; try (with_reducible rfl))
              try simp only [Act.put, List.setIfInBounds_toArray, List.set_cons_zero, List.set_cons_succ]
              refine wpHeld_val (v := ?vp16) (by rfl) ?yp16 ?rp16
              case yp16 => (intro wS hSw; go_simp; try (with_reducible rfl))
              try simp only [Act.put, List.setIfInBounds_toArray, List.set_cons_zero, List.set_cons_succ]
              refine wpHeld_nil ?_
              intro wS hSw
              go_wp2
              exact ⟨⟨K + 1, by omega, by go_num, by rw [← HE.out], hSw.out⟩, by simp [intOf]; omega⟩
            · rw [decide_eq_false e2] at t2
              have HE := Lib.hid (show lk K a c = lk (K + 1) a c from by rw [HLK.out, if_neg (fun h => e2 h.2)])
              clear e1 e2
              go_upto_region 9 with (fail)
              refine wp_region_seq (S := fun wS => Hid (Below wo.heap.size wo wS)) 17 (by kernel_rfl) (by kernel_rfl) (Lib.hid HBI.out.drew) ?_
              simp only [List.take_succ_cons, List.take_zero, List.drop_succ_cons, List.drop_zero]
              refine wpHeld_val (v := ?vq0) (by rfl) ?yq0 ?rq0
              case yq0 => (intro wS hSw; go_simp; try (with_reducible rfl))
              try simp only [Act.put, List.setIfInBounds_toArray, List.set_cons_zero, List.set_cons_succ]
              refine wpHeld_val (v := .int .i64 ((K : Int) / 16)) (by rfl) ?yq1 ?rq1
              case yq1 => (intro wS hSw; go_simp; try (first | with_reducible rfl | exact IntWalk.i64_in _ (by omega)))
              try simp only [Act.put, List.setIfInBounds_toArray, List.set_cons_zero, List.set_cons_succ]
              refine wpHeld_run (.int .u8 (f1.toNat : Int)) (by rfl) ?cq2 ?rq2
              case cq2 => (intro wS hSw K hK; go_simp; (go_at_call 24; (with_reducible refine (HF1.out _).mono ?_); rintro e w5 ⟨rfl, rfl⟩); go_wp2_with fail; exact hK.out _ (hSw))
              try simp only [Act.put, List.setIfInBounds_toArray, List.set_cons_zero, List.set_cons_succ]
              refine wpHeld_val (v := ?vq3) (by rfl) ?yq3 ?rq3
              case yq3 => (intro wS hSw; go_simp; try (with_reducible rfl))
              try simp only [Act.put, List.setIfInBounds_toArray, List.set_cons_zero, List.set_cons_succ]
              refine wpHeld_val (v := ?vq4) (by rfl) ?yq4 ?rq4
              case yq4 => (intro wS hSw; go_simp; try (with_reducible rfl))
              try simp only [Act.put, List.setIfInBounds_toArray, List.set_cons_zero, List.set_cons_succ]
              refine wpHeld_val (v := .int .u8 (a.toNat : Int)) (by rfl) ?yq5 ?rq5
              case yq5 => (intro wS hSw; go_simp; try (first | (rw [dif_pos (by omega), HA.out]; rfl) | rw [HA.out]))
              try simp only [Act.put, List.setIfInBounds_toArray, List.set_cons_zero, List.set_cons_succ]
              refine wpHeld_val (v := ?vq6) (by rfl) ?yq6 ?rq6
              case yq6 => (intro wS hSw; go_simp; try (with_reducible rfl))
              try simp only [Act.put, List.setIfInBounds_toArray, List.set_cons_zero, List.set_cons_succ]
              refine wpHeld_val (v := ?vq7) (by rfl) ?yq7 ?rq7
              case yq7 => (intro wS hSw; go_simp; try (with_reducible rfl))
              try simp only [Act.put, List.setIfInBounds_toArray, List.set_cons_zero, List.set_cons_succ]
              refine wpHeld_val (v := ?vq8) (by rfl) ?yq8 ?rq8
              case yq8 => (intro wS hSw; go_simp; try (with_reducible rfl))
              try simp only [Act.put, List.setIfInBounds_toArray, List.set_cons_zero, List.set_cons_succ]
              refine wpHeld_val (v := .int .i64 ((K : Int) % 16)) (by rfl) ?yq9 ?rq9
              case yq9 => (intro wS hSw; go_simp; try (first | with_reducible rfl | omega | exact Int.tmod_eq_emod_of_nonneg (by omega) | exact IntWalk.i64_in _ (by omega)))
              try simp only [Act.put, List.setIfInBounds_toArray, List.set_cons_zero, List.set_cons_succ]
              refine wpHeld_run (.int .u8 (f2.toNat : Int)) (by rfl) ?cq10 ?rq10
              case cq10 => (intro wS hSw K hK; go_simp; (go_at_call 24; (with_reducible refine (HF2.out _).mono ?_); rintro e w5 ⟨rfl, rfl⟩); go_wp2_with fail; exact hK.out _ (hSw))
              try simp only [Act.put, List.setIfInBounds_toArray, List.set_cons_zero, List.set_cons_succ]
              refine wpHeld_val (v := ?vq11) (by rfl) ?yq11 ?rq11
              case yq11 => (intro wS hSw; go_simp; try (with_reducible rfl))
              try simp only [Act.put, List.setIfInBounds_toArray, List.set_cons_zero, List.set_cons_succ]
              refine wpHeld_val (v := ?vq12) (by rfl) ?yq12 ?rq12
              case yq12 => (intro wS hSw; go_simp; try (with_reducible rfl))
              try simp only [Act.put, List.setIfInBounds_toArray, List.set_cons_zero, List.set_cons_succ]
              refine wpHeld_val (v := .int .i64 (2 * (j : Int) + 1)) (by rfl) ?yq13 ?rq13
              case yq13 => (intro wS hSw; go_simp; try (first | with_reducible rfl | exact IntWalk.i64_in _ (by omega)))
              try simp only [Act.put, List.setIfInBounds_toArray, List.set_cons_zero, List.set_cons_succ]
              refine wpHeld_val (v := .int .u8 (c.toNat : Int)) (by rfl) ?yq14 ?rq14
              case yq14 => (intro wS hSw; go_simp; try (first | (rw [dif_pos (by omega), HCC.out]; rfl) | rw [HCC.out]))
              try simp only [Act.put, List.setIfInBounds_toArray, List.set_cons_zero, List.set_cons_succ]
              refine wpHeld_val (v := ?vq15) (by rfl) ?yq15 ?rq15
              case yq15 => (intro wS hSw; go_simp; try (with_reducible rfl))
              try simp only [Act.put, List.setIfInBounds_toArray, List.set_cons_zero, List.set_cons_succ]
              refine wpHeld_val (v := ?vq16) (by rfl) ?yq16 ?rq16
              case yq16 => (intro wS hSw; go_simp; try (with_reducible rfl))
              try simp only [Act.put, List.setIfInBounds_toArray, List.set_cons_zero, List.set_cons_succ]
              refine wpHeld_nil ?_
              intro wS hSw
              go_wp2
              exact ⟨⟨K + 1, by omega, by go_num, by rw [← HE.out], hSw.out⟩, by simp [intOf]; omega⟩
          · rw [decide_eq_false e1] at t1
            have HE := Lib.hid (show lk K a c = lk (K + 1) a c from by rw [HLK.out, if_neg (fun h => e1 h.1)])
            clear e1 t2
            go_upto_region 9 with (fail)
            refine wp_region_seq (S := fun wS => Hid (Below wo.heap.size wo wS)) 17 (by kernel_rfl) (by kernel_rfl) (Lib.hid HBI.out.drew) ?_
            simp only [List.take_succ_cons, List.take_zero, List.drop_succ_cons, List.drop_zero]
            refine wpHeld_val (v := ?vr0) (by rfl) ?yr0 ?rr0
            case yr0 => (intro wS hSw; go_simp; try (with_reducible rfl))
            try simp only [Act.put, List.setIfInBounds_toArray, List.set_cons_zero, List.set_cons_succ]
            refine wpHeld_val (v := .int .i64 ((K : Int) / 16)) (by rfl) ?yr1 ?rr1
            case yr1 => (intro wS hSw; go_simp; try (first | with_reducible rfl | exact IntWalk.i64_in _ (by omega)))
            try simp only [Act.put, List.setIfInBounds_toArray, List.set_cons_zero, List.set_cons_succ]
            refine wpHeld_run (.int .u8 (f1.toNat : Int)) (by rfl) ?cr2 ?rr2
            case cr2 => (intro wS hSw K hK; go_simp; (go_at_call 24; (with_reducible refine (HF1.out _).mono ?_); rintro e w5 ⟨rfl, rfl⟩); go_wp2_with fail; exact hK.out _ (hSw))
            try simp only [Act.put, List.setIfInBounds_toArray, List.set_cons_zero, List.set_cons_succ]
            refine wpHeld_val (v := ?vr3) (by rfl) ?yr3 ?rr3
            case yr3 => (intro wS hSw; go_simp; try (with_reducible rfl))
            try simp only [Act.put, List.setIfInBounds_toArray, List.set_cons_zero, List.set_cons_succ]
            refine wpHeld_val (v := ?vr4) (by rfl) ?yr4 ?rr4
            case yr4 => (intro wS hSw; go_simp; try (with_reducible rfl))
            try simp only [Act.put, List.setIfInBounds_toArray, List.set_cons_zero, List.set_cons_succ]
            refine wpHeld_val (v := .int .u8 (a.toNat : Int)) (by rfl) ?yr5 ?rr5
            case yr5 => (intro wS hSw; go_simp; try (first | (rw [dif_pos (by omega), HA.out]; rfl) | rw [HA.out]))
            try simp only [Act.put, List.setIfInBounds_toArray, List.set_cons_zero, List.set_cons_succ]
            refine wpHeld_val (v := ?vr6) (by rfl) ?yr6 ?rr6
            case yr6 => (intro wS hSw; go_simp; try (with_reducible rfl))
            try simp only [Act.put, List.setIfInBounds_toArray, List.set_cons_zero, List.set_cons_succ]
            refine wpHeld_val (v := ?vr7) (by rfl) ?yr7 ?rr7
            case yr7 => (intro wS hSw; go_simp; try (with_reducible rfl))
            try simp only [Act.put, List.setIfInBounds_toArray, List.set_cons_zero, List.set_cons_succ]
            refine wpHeld_skip (by rfl) ?_
            try simp only [Act.put, List.setIfInBounds_toArray, List.set_cons_zero, List.set_cons_succ]
            refine wpHeld_skip (by rfl) ?_
            try simp only [Act.put, List.setIfInBounds_toArray, List.set_cons_zero, List.set_cons_succ]
            refine wpHeld_skip (by rfl) ?_
            try simp only [Act.put, List.setIfInBounds_toArray, List.set_cons_zero, List.set_cons_succ]
            refine wpHeld_skip (by rfl) ?_
            try simp only [Act.put, List.setIfInBounds_toArray, List.set_cons_zero, List.set_cons_succ]
            refine wpHeld_skip (by rfl) ?_
            try simp only [Act.put, List.setIfInBounds_toArray, List.set_cons_zero, List.set_cons_succ]
            refine wpHeld_skip (by rfl) ?_
            try simp only [Act.put, List.setIfInBounds_toArray, List.set_cons_zero, List.set_cons_succ]
            refine wpHeld_skip (by rfl) ?_
            try simp only [Act.put, List.setIfInBounds_toArray, List.set_cons_zero, List.set_cons_succ]
            refine wpHeld_skip (by rfl) ?_
            try simp only [Act.put, List.setIfInBounds_toArray, List.set_cons_zero, List.set_cons_succ]
            refine wpHeld_val (v := ?vr16) (by rfl) ?yr16 ?rr16
            case yr16 => (intro wS hSw; go_simp; try (with_reducible rfl))
            try simp only [Act.put, List.setIfInBounds_toArray, List.set_cons_zero, List.set_cons_succ]
            refine wpHeld_nil ?_
            intro wS hSw
            go_wp2
            exact ⟨⟨K + 1, by omega, by go_num, by rw [← HE.out], hSw.out⟩, by simp [intOf]; omega⟩
        · obtain rfl : K = 256 := by omega
          have q2 : decide (((256 : Nat) : Int) < 256) = false := rfl
          obtain ⟨n, hn⟩ : ∃ n, n = lk 256 a c := ⟨_, rfl⟩
          have HNN := Lib.hid hn
          rw [← hn] at hlk
          rw [← hn]
          clear hn
          have HO2 := Lib.hid (own_keep HO.out HBI.out)
          have HB2 := Lib.hid (low HB.out HBI.out)
          go_upto_region 11 with (fail)
          have hsz0 := HB2.out.size
          have hll : l.length ≤ 500 := by have := HLL.out; omega
          go_wp2_with (at_builtin; refine wpList_append_own _ rfl (.tmp 36) (.tmp 39) 47 rfl w.heap.size 5 i0 (.int .u8 0) 1 1 Tryd.underlying47 hi hz0 hz1 hz2 rfl (by decide) _ l.length (cb l) rfl (HO2.out.alloc _) ⟨wr.heap.size, 0, none⟩ 1 1 [.int .u8 ((n : Int) % 256)] rfl rfl (cell_one_new _ _ _) (by intro u hu; simp at hu; subst hu; rfl) (by unfold maxLen; omega) (by omega) (by simp; omega) ?_; intro v1 w3 hown3 hgr3 _; have HO3 := Lib.hid hown3; have HB3 := Lib.hid (Below.grownOwn (lowA HB2.out (.cells #[.int .u8 ((n : Int) % 256)] 5)) (HO2.out.alloc (.cells #[.int .u8 ((n : Int) % 256)] 5)) hgr3 (Nat.le_refl _)); clear hown3 hgr3)
          refine ⟨⟨j + 1, l ++ [UInt8.ofNat n], by omega, congrArg (Value.int .i64) (by omega), by rw [List.length_append, List.length_singleton, HLL.out], ?_, ?_, HB3.out⟩, by simp [intOf]; omega⟩
          · have h := HO3.out
            rw [List.length_append, cb_append]
            have e : cb [UInt8.ofNat n] = [.int .u8 ((n : Int) % 256)] := by unfold cb; simp
            rw [e]
            exact h
          · have e2 : 2 * (j + 1) = 2 * j + 2 := by omega
            rw [e2, ← HL.out, HG.out, ← HA.out, ← HCC.out, bytesL, HNN.out, List.append_assoc]
            rfl
    · have cv := conv_own HO.out
      go_wp2
      go_ret
      exact ⟨ret_str (by rw [← HL.out, bytes_end (by omega), List.append_nil]), HB.out⟩

end Go.Proofs.YtodjeidofgbdlaaDoor
