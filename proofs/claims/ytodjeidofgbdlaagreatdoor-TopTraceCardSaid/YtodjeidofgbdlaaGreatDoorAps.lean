/- The keys of a map of addresses, collected. -/
import Derived.Test.YtodjeidofgbdlaaGreatDoorKey
import Derived.Test.YtodjeidofgbdlaaGreatDoorRnw
import Derived.Test.YtodjeidofgbdlaaGreatDoorRed
namespace Go.Proofs.YtodjeidofgbdlaaGreatDoor
open Go.ChangeShapes Go.WideShapes Go.ChangeAt Go.RowKit Go.Maps
set_option linter.unusedVariables false
set_option linter.unusedSimpArgs false
/-- Between two rounds: what has come lies in a row of its own. -/
def GoingA (h : Nat) (w : World) (pre : List Int) (W : World) : Prop := ∃ v : Value, Boxed W h 35 v ∧ W.ownsRow h 27 1 v pre.length (pre.map (Value.int .u32)) ∧ Below w.heap.size w W
theorem goingA_own (w : World) (B : Nat) (hB : w.heap.size ≤ B) : OwnFrom B (GoingA w.heap.size w) := by
  rintro s X Y row ⟨v, h2, h3, h8⟩ hg hr
  exact ⟨v, grown_boxed hg hr h2, grown_row hg hr h3, grown_below hg hB hr h8⟩
theorem Tryz.infoU : (Tryz.prog.info? 27).map (fun i => (i.zero, i.size, i.bytes)) = some (some (.int .u32 0), 1, 4) := by kernel_rfl
attribute [local go_sem] Oper.semAt_some
set_option maxRecDepth 100000 in
set_option maxHeartbeats 2000000 in
theorem aappend_any (Bs b nn N : Nat) (D0 : DataW Unit) (w : World) (R : Value → Option (DataW Unit × List MemPlace)) (hBw : Bs < w.heap.size) (hc : w.cell? ⟨Bs, 0, none⟩ = some (.map (some b))) (hown : w.ownsMap Tryz.prog 27 R b nn D0) (hN : (keysU D0).length < N) (hN2 : N ≤ 100000) (hb : b < Bs) :
    Calls Tryz.prog 60 #[.slice none 0 0, .func (.func 39) #[] #[.pointer (some ⟨Bs, 0, none⟩)]] w fun e w' => ∃ (v : Value) (xs : List Int), e = .returned v ∧ xs.Perm (keysU D0) ∧ w'.ownsRow w.heap.size 27 1 v xs.length (xs.map (Value.int .u32)) ∧ Below w.heap.size w w' := by
  obtain ⟨i0, hi, hz0, hz1, hz2⟩ := info_parts3 Tryz.infoU
  refine (callsIn_wide (n := 3)).1 ?_
  refine callsIn_of_wp_marks Tryz.func60 rfl trivial ?_ rfl
  simp only [Tryz.ntmps60, List.size_toArray, List.length_cons, List.length_nil, Nat.reduceAdd, Nat.reduceSub, Array.replicate_succ, Array.replicate_zero, List.push_toArray, List.append_toArray, List.nil_append, List.cons_append]
  gi_wp2_with (fail)
  have hsz : (w.alloc (.cells #[.slice none 0 0] 35)).heap.size = w.heap.size + 1 := by simp
  have b0 := Boxed.new w 35 (.slice none 0 0)
  have hB0 : Below w.heap.size w (w.alloc (.cells #[.slice none 0 0] 35)) := low0 w _
  have hcW := (hB0.cell (p := ⟨Bs, 0, none⟩) hBw).trans hc
  have hownW := hown.alloc (.cells #[.slice none 0 0] 35)
  generalize (w.alloc (.cells #[.slice none 0 0] 35)) = W0 at *
  refine range_walks (F := Fence.wide) (n := 3) rfl (by decide) (gf := 39) (lb := #[.pointer (some ⟨Bs, 0, none⟩)]) rfl trivial (enters_of Tryz.func39 (by kernel_rfl) rfl)
    (akeys_iter Bs 2 b nn N D0 W0 R (by omega) hcW hownW hN hb (by decide)) (fun h k => h.trans k) (fun W l o o' hl h hw => KeepsWalks.putObj o' h hw) (fun _ => rfl) (GoingA w.heap.size w) (fun _ _ => False) (goingA_own w _ (by omega)) (fun _ _ _ _ h _ _ => h)
    ⟨.slice none 0 0, b0, World.ownsRow_nil _ _ _ _, hB0⟩ (fun x : Int => { tmps := #[.slice none 0 0, .func (.func 39) #[] #[.pointer (some ⟨Bs, 0, none⟩)], .pointer (some ⟨w.heap.size, 0, none⟩), undef, .slice none 0 0, .int .u32 x, .func (.func 39) #[] #[.pointer (some ⟨Bs, 0, none⟩)], .int .u32 x, undef, undef, undef, undef, undef], defers := [] }) ?assign ?body ?done ?stop
  case assign =>
    intro l x W K hK
    gi_wp2
    exact hK
  case body =>
    rintro l pre x W ⟨v, h2, h3, h8⟩ hlen
    have c3 := h2.cell
    have hs8 := h8.size
    gi_wp2_with (gi_at_builtin; refine wpListIn_append_own _ rfl (.tmp 8) (.tmp 10) 35 rfl w.heap.size 27 i0 (.int .u32 0) 1 4 Tryz.underlying35 hi hz0 hz1 hz2 rfl (by decide) _ pre.length (pre.map (Value.int .u32)) rfl (h3.alloc (.cells #[.int .u32 x] 27)) ⟨_, 0, none⟩ 1 1 [.int .u32 x] rfl rfl (cell_one_new W (.int .u32 x) 27) (by intro u hu; simp at hu; rcases hu with rfl; rfl) (by unfold maxLen; omega) (by omega) (by simp at hs8 ⊢; omega) ?_; intro v1 w3 hown3 hgr3 _; obtain ⟨g1, cap1, rfl⟩ := ownsRow_succ hown3; obtain ⟨hv1, hv2, hr2, hk2, hb2⟩ := h2.appended (by decide) h3 hs8 (by omega) hown3 hgr3; have hc1 := hv1.cell; have hf1 := hv1.frozen)
    refine ⟨hk2.from _, hk2.walks, _, hv2, ?_, h8.trans hb2⟩
    rw [List.length_append, List.map_append]
    exact hr2
  case done =>
    rintro D xs W hD hS ⟨v, h2, h3, h8⟩ hK
    have c3 := h2.cell
    gi_wp2
    refine ⟨by simp, .inl ⟨_, _, rfl, run_takeDeferred hK, ?_⟩⟩
    exact ⟨v, by simp [results, Tryz.results60, go_sem], v, xs, rfl, hS, ownsRow_putObj h3 _ hK rfl, h8.trans (belowK_b (w := w) (Nat.le_refl _) W D _ _ (by omega) hK rfl rfl)⟩
  case stop =>
    rintro D pre W hD hpre h hK
    exact h.elim
end Go.Proofs.YtodjeidofgbdlaaGreatDoor
