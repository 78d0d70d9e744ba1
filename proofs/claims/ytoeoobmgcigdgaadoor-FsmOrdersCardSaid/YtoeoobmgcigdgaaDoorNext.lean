/- The contract of fsm.Next. -/
import Derived.Test.YtoeoobmgcigdgaaDoorIn
import Derived.Laws.Rows
import Derived.LoopTactic
import Derived.Deep.LoopGhost
import Derived.Below
import Derived.Deep.QuietTactic
import Derived.BigQuiet
namespace Go.Proofs.YtoeoobmgcigdgaaDoor
open Go.ChangeShapes Go.WideShapes Go.ChangeAt Go.RowKit
set_option linter.unusedVariables false

theorem from_step {s e o : Int} {k : Nat} (hk : k < 19) : nextFrom s e o (19 - k) k = if fits k s e o = true then rowD k else nextFrom s e o (19 - (k + 1)) (k + 1) := by
  obtain ⟨m, hm⟩ : ∃ m, 19 - k = m + 1 := ⟨18 - k, by omega⟩
  rw [hm, show 19 - (k + 1) = m from by omega]
  rfl
theorem next_any (s e o : Int) (w : World) (t : TypeId) (fr : Nat × Nat) (hg : w.heap[0]? = some (.cells rowsC t fr)) :
    Calls Tryd.prog 9 #[.int .i64 s, .int .i64 e, .int .i64 o] w fun e' w' => e' = .returned (.int .i64 (nextV s e o)) ∧ Below w.heap.size w w' := by
  go_enter Tryd.func9, Tryd.ntmps9
  go_wp2_with (refine wpList_load_row rfl 34 _ rfl 0 rfl t _ fr _ hg Tryd.underlying34 rfl (by kernel_rfl) ?_)
  go_loopw [10] (fun i wr => ∃ k : Nat, k ≤ 19 ∧ i = .int .i64 k ∧ nextFrom s e o (19 - k) k = nextV s e o ∧ Below w.heap.size w wr) (fun i _ => 19 - (intOf i).toNat)
  case atStart => exact ⟨0, by omega, rfl, rfl, Below.refl _ _⟩
  case round =>
    obtain ⟨k, hk, rfl, hn, hb⟩ := hrel
    have HN := Lib.hid hn
    have HB := Lib.hid hb
    clear hn hb hg
    by_cases hlt : k < 19
    · have X := idx_row k hlt
      have hr := row_set k hlt
      have HS : Hid (fits k s e o = true → nextV s e o = rowD k) := by
        intro hf
        rw [← HN.out, from_step hlt, if_pos hf]
      have HT : Hid (fits k s e o = false → nextFrom s e o (19 - (k + 1)) (k + 1) = nextV s e o) := by
        intro hf
        rw [← HN.out, from_step hlt, hf, if_neg (by simp)]
      have HF : Hid (fits k s e o = (decide (rowA k = s) && (decide (rowB k = e) && inV o (rowC k)))) := rfl
      generalize rowA k = a at *
      generalize rowB k = b at *
      generalize rowC k = c at *
      generalize rowD k = d at *
      by_cases c1 : a = s
      · have z1 : (a == s) = true := beq_iff_eq.2 c1
        by_cases c2 : b = e
        · have z2 : (b == e) = true := beq_iff_eq.2 c2
          cases c3 : inV o c
          · have HG : Hid (fits k s e o = false) := by
              show _ = _
              rw [HF.out, c3, Bool.and_false, Bool.and_false]
            clear c1 c2 HF
            go_wp2_with (go_at_call 18; refine (in_any _ _ _ (by assumption)).mono ?_; rintro e' w' ⟨rfl, rfl⟩)
            exact ⟨⟨k + 1, by omega, by go_num, HT.out HG.out, HB.out.alloc HB.out.size _⟩, by simp [intOf]; omega⟩
          · have HG : Hid (fits k s e o = true) := by
              show _ = _
              rw [HF.out, c3, c1, c2]
              simp
            clear c1 c2 HF
            go_wp2_with (go_at_call 18; refine (in_any _ _ _ (by assumption)).mono ?_; rintro e' w' ⟨rfl, rfl⟩)
            go_ret
            exact ⟨ret_int (HS.out HG.out).symm, HB.out.alloc HB.out.size _⟩
        · have z2 : (b == e) = false := beq_eq_false_iff_ne.2 c2
          have HG : Hid (fits k s e o = false) := by
            show _ = _
            rw [HF.out]
            simp [c2]
          clear c1 c2 HF
          go_wp2_with (go_at_call 18; refine (in_any _ _ _ (by assumption)).mono ?_; rintro e' w' ⟨rfl, rfl⟩)
          exact ⟨⟨k + 1, by omega, by go_num, HT.out HG.out, HB.out.alloc HB.out.size _⟩, by simp [intOf]; omega⟩
      · have z1 : (a == s) = false := beq_eq_false_iff_ne.2 c1
        have HG : Hid (fits k s e o = false) := by
          show _ = _
          rw [HF.out]
          simp [c1]
        clear c1 HF
        go_wp2_with (go_at_call 18; refine (in_any _ _ _ (by assumption)).mono ?_; rintro e' w' ⟨rfl, rfl⟩)
        exact ⟨⟨k + 1, by omega, by go_num, HT.out HG.out, HB.out.alloc HB.out.size _⟩, by simp [intOf]; omega⟩
    · obtain rfl : k = 19 := by omega
      go_wp2_with (go_at_call 18; refine (in_any _ _ _ (by assumption)).mono ?_; rintro e' w' ⟨rfl, rfl⟩)
      go_ret
      exact ⟨ret_int HN.out, HB.out⟩

end Go.Proofs.YtoeoobmgcigdgaaDoor
