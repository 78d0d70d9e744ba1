/- The law lessorlaw11.LeaseBack returns true for every input, and its arguments read afterwards as before. No condition beyond the given statement's own. -/
import Derived.Test.YtihekjoeibljpaaRows
import Derived.Test.YtihekjoeibljpaaOpen
import Derived.Test.YtihekjoeibljpaaLaw6
import Derived.WalkKit
import Derived.ProofKit
import Derived.OpenShut
import Derived.ShutString
import Derived.ChangeOld
import Derived.Below
import Derived.SizedLaws
namespace Go.Proofs.Ytihekjoeibljpaa.leaseBack
open Go.ChangeShapes Go.WideShapes Go.ChangeAt Go.RowKit
open Go.ChangeMaps (open_string shut_string)
set_option linter.unusedVariables false
theorem own : ownKnob Try.prog.godebug = none := by kernel_rfl
theorem laidOut : laidOutB Try.prog = true := by kernel_rfl
theorem leafs5 : leafs Try.prog 9 5 = some [.int .u8] := by kernel_rfl
theorem leafs25 : leafs Try.prog 9 25 = some [.int .u32, .int .i64, .str, .int .i64, .int .i64, .int .i64, .int .i64, .int .i64] := by kernel_rfl
set_option maxRecDepth 100000 in
theorem lifted (os : Os) (started : os.Started) (H : Type) (enc : TypeId × Value → H) :
    ReturnsInHanded {} Try.checked os 6 .any (Rows.leaseBackSpec.pre6 enc Try.prog Try.f6 Rows.leaseBackRow.domain false) (Rows.leaseBackSpec.post enc Try.prog Try.f6 false true false false) := by
  refine returnsInHanded_of_change_sized (C := Try.checked) own started (by kernel_rfl) Try.func6
    (ChangeSpec.witness6 (enc := enc) (C := Try.checked) false ⟨#[], #[.agg #[.int .u32 0, .int .i64 0, .string ByteArray.empty, .int .i64 0, .int .i64 0, .int .i64 0, .int .i64 0, .int .i64 0], .slice none 0 0], []⟩ 8 (by kernel_rfl) (by kernel_rfl) (by kernel_rfl) (by kernel_rfl)) ?_
  intro W base args ds gs before hval0 hW hcnd hsz0 _
  have hsz : (DataW.weightsEach Try.prog (Try.f6.params.toList ++ Rows.leaseBackSpec.plain.varTypes Try.prog) (ds ++ gs)).all (· ≤ reachBytes) = true := hsz0
  have hval : ∀ (j : Nat) t v, Try.f6.params[j]? = some t → args[j]? = some v → Value.okWide Try.prog W .any base t v := hval0
  have hW' := hW
  obtain ⟨p, q, hA0, hV, rfl, hfz, hnd⟩ := hW
  have hA : DataW.TrodAll enc Try.prog W 0 (fun _ => true) true Try.f6.params.toList args.toList ds p := hA0
  rw [Try.params6] at hA hval hsz
  obtain ⟨v0, vs0, d0, ds0, p0, q0, hargs, rfl, rfl, h0, r0⟩ := trodAll_cons hA
  obtain ⟨v1, vs1, d1, ds1, p1, q1, rfl, rfl, rfl, h1, r1⟩ := trodAll_cons r0
  obtain ⟨rfl, rfl, rfl⟩ := trodAll_nil r1
  obtain rfl : args = #[v0, v1] := by cases args; simp_all
  obtain ⟨rfl, rfl⟩ := trodVars_none hV
  have k0 := h0
  have lt0 : ∀ x ∈ p0, x.block < W.heap.size := by obtain ⟨m, hm⟩ := k0; exact DataW.trod_lt m _ _ _ hm
  obtain ⟨cs0, rfl, f0⟩ := open_flat (Or.inl ⟨_, Try.underlying25⟩) leafs25 (hval 0 25 v0 rfl rfl) h0
  obtain ⟨_, _, rfl, ⟨a0_0, rfl, w0_0⟩, _, _, rfl, ⟨a0_1, rfl, w0_1⟩, _, _, rfl, ⟨a0_2, rfl, w0_2⟩, _, _, rfl, ⟨a0_3, rfl, w0_3⟩, _, _, rfl, ⟨a0_4, rfl, w0_4⟩, _, _, rfl, ⟨a0_5, rfl, w0_5⟩, _, _, rfl, ⟨a0_6, rfl, w0_6⟩, _, _, rfl, ⟨a0_7, rfl, w0_7⟩, f0⟩ := f0
  subst f0
  have k1 := h1
  have lt1 : ∀ x ∈ p1, x.block < W.heap.size := by obtain ⟨m, hm⟩ := k1; exact DataW.trod_lt m _ _ _ hm
  obtain ⟨a1, n1, c1, rfl⟩ := okWide_slice Try.underlying27 (hval 1 27 v1 rfl rfl)
  obtain ⟨x1, r1⟩ := open_slice_in Try.underlying27 leafs5 (by decide) h1
  have z1 : n1 * 1 ≤ 140737488351232 := sized_in hsz (j := 1) (t := 27) rfl rfl Try.underlying27 (by kernel_rfl) h1
  clear hA0 hval0 hsz0 hsz
  refine (walk_LeaseBack a0_0 a0_1 a0_2 a0_3 a0_4 a0_5 a0_6 a0_7 a1 n1 c1 x1 W w0_0 w0_1 w0_2 w0_3 w0_4 w0_5 w0_6 w0_7 r1 z1).mono fun e W' ⟨he, bel⟩ => ?_
  subst he
  exact ⟨_, rfl, _, _, _, [], _, [], hW', trodAll_mk1 (shut_bool Try.underlying4 _), (trodAll_cons_mk (Below.trod laidOut (by kernel_rfl) (of_decide_eq_true (by kernel_rfl)) k0 bel lt0) (trodAll_cons_mk (Below.trod laidOut (by kernel_rfl) (of_decide_eq_true (by kernel_rfl)) k1 bel lt1) trodAll_mk0)), rfl, bel.frame _, fun h => by cases h⟩
theorem over : Rows.leaseBackRow.holds Try.pinned (OpenSpec.ofChange Rows.leaseBackSpec) :=
  OpenClaim.holds_of_wide 6 Try.f6 rfl rfl rfl rfl rfl rfl rfl ⟨rfl, rfl, rfl, rfl, rfl⟩ rfl rfl rfl rfl rfl (by kernel_rfl) Try.func6 (by kernel_rfl)
    (of_decide_eq_true (by kernel_rfl)) (by unfold Func.isWrapper; first | (rw [if_pos (by decide +kernel)]; kernel_rfl) | (rw [if_neg (by decide +kernel)]; exact ⟨rfl, rfl⟩))
    (fun os started H enc _ => lifted os started H enc)
theorem proved : Rows.LeaseBackSaid := over
#print axioms proved
end Go.Proofs.Ytihekjoeibljpaa.leaseBack
namespace Go.Proofs.Ytihekjoeibljpaa
/-- The statement, under a short name, for the claim. -/
theorem leaseBack_holds : Rows.LeaseBackSaid := leaseBack.proved
end Go.Proofs.Ytihekjoeibljpaa
