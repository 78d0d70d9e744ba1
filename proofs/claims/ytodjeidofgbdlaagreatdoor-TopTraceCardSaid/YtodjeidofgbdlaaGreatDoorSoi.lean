/- The library's sort of ints, at an own row. -/
import Derived.Test.YtodjeidofgbdlaaGreatDoorAud
import Derived.Test.YtodjeidofgbdlaaGreatDoorShelf
import Derived.Lib.SlKeysI
import Derived.Laws.AppendOwn
namespace Go.Proofs.YtodjeidofgbdlaaGreatDoor
open Go.RowKit Go.Sort
set_option linter.unusedVariables false
theorem sorti_own {base n : Nat} {v : Value} {zs : List Int} {w : World} (h : w.ownsRow base 3 1 v n (zs.map (Value.int .i64))) (hl : zs.length = n) (hn : n ≤ 1000000) :
    Calls Tryz.prog 19 #[v] w fun e w' => e = .returned (.tuple #[]) ∧ w'.ownsRow base 3 1 v n ((zs.mergeSort fun x y => decide (x ≤ y)).map (Value.int .i64)) ∧ w.grownBy w' v.ownBlock := by
  subst hl
  rcases h.2 with ⟨rfl, h0⟩ | ⟨g, cap, cur, rfl, hb, hgb, h1, h2, h3, h4⟩
  · have hz : zs = [] := List.length_eq_zero_iff.1 h0
    subst hz
    refine (Tryz.slices_Sort_int_none none 0 w).mono ?_
    rintro e w' ⟨rfl, rfl⟩
    exact ⟨rfl, by simpa using h, ⟨rfl, rfl, rfl, Nat.le_refl _, fun _ _ _ => rfl⟩⟩
  · have ht : cur.toList.take zs.length = zs.map encZ := by rw [Nat.mul_one] at h4; exact h4
    have hH := holds_of_block_i hgb ht
    refine (Tryz.slices_Sort_int g 0 cap zs w hH (Array.getElem?_eq_some_iff.1 hgb).1 (by omega)).mono ?_
    rintro e w' ⟨rfl, m, os, rfl⟩
    exact ⟨rfl, ownsRow_sorted_i (List.length_mergeSort _) hb hgb h1 h2 h3, grownBy_sorted_i _⟩
end Go.Proofs.YtodjeidofgbdlaaGreatDoor
