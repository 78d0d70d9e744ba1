/- A mask that is an argument. -/
import Derived.Test.YtilimmimidikcaaOpen
import Derived.Test.YtilimmimidikcaaMask
namespace Go.Proofs.Ytilimmimidikcaa
open Go.ChangeShapes Go.WideShapes Go.ChangeAt Go.RowKit
set_option linter.unusedVariables false
theorem fits_rep : ∀ (n : Nat) {cs : List Value}, FitsAll (List.replicate n (.int .u8)) cs → ∃ bs : List Int, cs = bs.map (Value.int .u8) ∧ bs.length = n ∧ ∀ b ∈ bs, 0 ≤ b ∧ b < 256
  | 0, cs, h => ⟨[], by simpa [FitsAll] using h, rfl, fun b hb => by cases hb⟩
  | n + 1, cs, h => by
    obtain ⟨c, r, rfl, ⟨v, rfl, hv⟩, h⟩ := h
    obtain ⟨bs, rfl, hl, hb⟩ := fits_rep n h
    refine ⟨v :: bs, rfl, by simp [hl], fun b hm => ?_⟩
    rcases List.mem_cons.1 hm with rfl | hm
    · have e1 : IntKind.u8.min = 0 := by decide
      have e2 : IntKind.u8.max = 255 := by decide
      simp [Lit.wf, e1, e2] at hv
      omega
    · exact hb b hm
theorem fits_mask {cs : List Value} (h : FitsAll (List.replicate 32 (.int .u8)) cs) : ∃ bs : List Int, cs = bs.map (Value.int .u8) ∧ okM bs := by
  obtain ⟨bs, h1, h2, h3⟩ := fits_rep 32 h
  exact ⟨bs, h1, h2, h3⟩

end Go.Proofs.Ytilimmimidikcaa
