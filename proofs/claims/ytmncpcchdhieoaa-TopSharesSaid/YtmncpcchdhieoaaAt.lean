/- The n-th address of the pool. -/
import Derived.Test.YtmncpcchdhieoaaPol
namespace Go.Proofs.Ytmncpcchdhieoaa
open Go.ChangeShapes Go.WideShapes Go.ChangeAt Go.RowKit
set_option linter.unusedVariables false
set_option linter.unusedSimpArgs false

attribute [local go_sem] Oper.semAt_some

/-- Between two rounds. -/
def GoingI (h i : Nat) (w : World) (pre : List Nat) (W : World) : Prop := (∀ x ∈ pre, x ≠ i) ∧ Boxed W h 3 (.int .i64 i) ∧ Boxed W (h + 1) 30 (.int .u32 0) ∧ Boxed W (h + 2) 26 (.int .i64 0) ∧ Below w.heap.size w W
/-- Behind the round that has returned. -/
def StoppedI (h i : Nat) (w : World) (pre : List Nat) (W : World) : Prop := Boxed W (h + 1) 30 (.int .u32 (1 + (i : Int))) ∧ Boxed W (h + 2) 26 (.int .i64 0) ∧ Below w.heap.size w W
theorem goingI_own (i : Nat) (w : World) (B : Nat) (hB : w.heap.size ≤ B) : OwnFrom B (GoingI w.heap.size i w) := by
  rintro s X Y row ⟨h1, h2, h3, h4, h8⟩ hg hr
  exact ⟨h1, grown_boxed hg hr h2, grown_boxed hg hr h3, grown_boxed hg hr h4, grown_below hg hB hr h8⟩
theorem stoppedI_own (i : Nat) (w : World) (B : Nat) (hB : w.heap.size ≤ B) : OwnFrom B (StoppedI w.heap.size i w) := by
  rintro s X Y row ⟨h3, h4, h8⟩ hg hr
  exact ⟨grown_boxed hg hr h3, grown_boxed hg hr h4, grown_below hg hB hr h8⟩
set_option maxRecDepth 100000 in
set_option maxHeartbeats 4000000 in
theorem pat_any (i g c : Nat) (hi : i < 20) (w : World) (h0 : w.cell? ⟨g, 0, none⟩ = some (.int .u32 1)) (h1 : w.cell? ⟨g, 1, none⟩ = some (.int .u32 20)) :
    Calls Try.prog 12 #[.slice (some ⟨g, 0, none⟩) 1 c, .int .i64 i] w fun e w' => e = .returned (.tuple #[.int .u32 (1 + (i : Int)), .int .i64 0]) ∧ Below w.heap.size w w' := by
  have HI := Lib.hid hi
  have HG := Lib.hid (World.block_lt_of_cell? w _ h0)
  have H0 := Lib.hid h0
  have H1 := Lib.hid h1
  clear hi h0 h1
  refine (callsIn_wide (n := 3)).1 ?_
  refine callsIn_of_wp_marks Try.func12 rfl trivial ?_ rfl
  simp only [Try.ntmps12, List.size_toArray, List.length_cons, List.length_nil, Nat.reduceAdd, Nat.reduceSub, Array.replicate_succ, Array.replicate_zero, List.push_toArray, List.append_toArray, List.nil_append, List.cons_append]
  gi_wp2_with (refine ⟨trivial, ?_⟩; refine (callsIn_wide.2 (pall_call g c _)).mono ?_; rintro e w' ⟨rfl, rfl⟩)
  have hsz : ((((w.alloc (.cells #[.int .i64 i] 3)).alloc (.cells #[.int .u32 0] 30)).alloc (.cells #[.int .i64 0] 26)).alloc (.cells #[.slice (some ⟨g, 0, none⟩) 1 c] 33)).heap.size = w.heap.size + 4 := by simp
  have b0 := Boxed.new w 3 (.int .i64 i)
  have b1 := Boxed.new (w.alloc (.cells #[.int .i64 i] 3)) 30 (.int .u32 0)
  have b2 := Boxed.new ((w.alloc (.cells #[.int .i64 i] 3)).alloc (.cells #[.int .u32 0] 30)) 26 (.int .i64 0)
  have b3 := Boxed.new (((w.alloc (.cells #[.int .i64 i] 3)).alloc (.cells #[.int .u32 0] 30)).alloc (.cells #[.int .i64 0] 26)) 33 (.slice (some ⟨g, 0, none⟩) 1 c)
  have hB0 : Below w.heap.size w ((((w.alloc (.cells #[.int .i64 i] 3)).alloc (.cells #[.int .u32 0] 30)).alloc (.cells #[.int .i64 0] 26)).alloc (.cells #[.slice (some ⟨g, 0, none⟩) 1 c] 33)) := lowA (lowA (lowA (low0 w _) _) _) _
  simp only [World.size_alloc] at b1 b2 b3
  have b0' := ((b0.alloc (.cells #[.int .u32 0] 30)).alloc (.cells #[.int .i64 0] 26)).alloc (.cells #[.slice (some ⟨g, 0, none⟩) 1 c] 33)
  have b1' := (b1.alloc (.cells #[.int .i64 0] 26)).alloc (.cells #[.slice (some ⟨g, 0, none⟩) 1 c] 33)
  have b2' := b2.alloc (.cells #[.slice (some ⟨g, 0, none⟩) 1 c] 33)
  clear b0 b1 b2
  simp only [Nat.add_assoc, Nat.reduceAdd] at b3 b1' b2' ⊢
  generalize ((((w.alloc (.cells #[.int .i64 i] 3)).alloc (.cells #[.int .u32 0] 30)).alloc (.cells #[.int .i64 0] 26)).alloc (.cells #[.slice (some ⟨g, 0, none⟩) 1 c] 33)) = W0 at *
  have hc0 := (hB0.cell (p := ⟨g, 0, none⟩) HG.out).trans H0.out
  have hc1 := (hB0.cell (p := ⟨g, 1, none⟩) HG.out).trans H1.out
  refine range_fresh (F := Fence.wide) (n := 3) rfl (by decide) (gf := 49) (lb := #[.pointer (some ⟨w.heap.size + 3, 0, none⟩)]) rfl trivial (enters_of Try.func49 (by kernel_rfl) rfl)
    (pall_iter (w.heap.size + 3) g c 2 W0 b3.cell hc0 hc1 (by decide)) (fun h k => h.trans k) (fun W l o o' hl h _ hc => KeepCells.put W l o o' h hc) (fun _ => rfl) (GoingI w.heap.size i w) (StoppedI w.heap.size i w) (goingI_own i w _ (by omega)) (stoppedI_own i w _ (by omega))
    ⟨(fun x hx => by cases hx), b0', b1', b2', hB0⟩ (fun (x : Nat) (_ : Nat) => { tmps := #[.slice (some ⟨g, 0, none⟩) 1 c, .int .i64 i, undef, .pointer (some ⟨w.heap.size, 0, none⟩), .pointer (some ⟨w.heap.size + 1, 0, none⟩), .pointer (some ⟨w.heap.size + 2, 0, none⟩), .int .i64 x, .int .u32 (1 + (x : Int)), .slice (some ⟨g, 0, none⟩) 1 c, .func (.func 49) #[] #[.pointer (some ⟨w.heap.size + 3, 0, none⟩)], .int .i64 x, .int .u32 (1 + (x : Int)), undef, undef, undef, undef], defers := [] }) (fun _ _ _ => True) (fun _ _ _ _ _ _ _ _ _ => trivial) ?assign ?body ?done ?stop
  case assign =>
    rintro l pre x W K hI hlen hK
    have HK2 := Lib.hid (hK 0 W (KeepsFrom.refl _ _) (KeepCells.refl W) hI trivial)
    clear hK hI
    gi_wp2
    exact HK2.out
  case body =>
    rintro l pre x _ W ⟨h9, h2, h3, h4, h8⟩ _ hlen
    have c2 := h2.cell
    have c3 := h3.cell
    have c4 := h4.cell
    have f3 := h3.frozen
    have f4 := h4.frozen
    by_cases hx : x = i
    · subst hx
      have q : ((x : Int) == (x : Int)) = true := by simp
      gi_wp2
      refine ⟨((KeepsOthers.setCell W ⟨w.heap.size + 1, 0, none⟩ (.int .u32 (1 + (x : Int)))).trans (KeepsOthers.setCell _ ⟨w.heap.size + 2, 0, none⟩ (.int .i64 0))).from _, boxed_other (h3.set _) (by omega) 0 _, (boxed_other h4 (by omega) 0 _).set _, (h8.setCell (p := ⟨w.heap.size + 1, 0, none⟩) (by simp) _).setCell (p := ⟨w.heap.size + 2, 0, none⟩) (by simp) _⟩
    · have q : ((x : Int) == (i : Int)) = false := by simp; omega
      have HX := Lib.hid hx
      clear hx
      gi_wp2
      refine ⟨KeepsFrom.refl _ _, KeepCells.refl W, (fun y hy => ?_), h2, h3, h4, h8⟩
      rcases List.mem_append.1 hy with hy | hy
      · exact h9 y hy
      · rw [List.mem_singleton.1 hy]; exact HX.out
  case done =>
    rintro D xs W hD rfl ⟨h9, _⟩ hK
    exact absurd rfl (h9 i (List.mem_range.2 HI.out))
  case stop =>
    rintro D pre W hD hpre ⟨d4, d5, h8⟩ hK
    gi_wp2
    refine ⟨by simp, .inl ⟨_, _, rfl, run_takeDeferred hK, ?_⟩⟩
    have k4 := cell_kept d4.cell (grownBy_putObj' W D (.deferred none)) (fun r e => by cases e; exact ⟨_, hK, rfl⟩)
    have k5 := cell_kept d5.cell (grownBy_putObj' W D (.deferred none)) (fun r e => by cases e; exact ⟨_, hK, rfl⟩)
    exact ⟨.tuple #[.int .u32 (1 + (i : Int)), .int .i64 0], by simp [results, Try.results12, go_sem, k4, k5], rfl, h8.trans (belowK_b (w := w) (Nat.le_refl _) W D _ _ (by omega) hK rfl rfl)⟩

end Go.Proofs.Ytmncpcchdhieoaa
