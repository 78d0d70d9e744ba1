/- The pool of one range: what leads to it. -/
import Derived.Test.YtmncpcchdhieoaaPol
import Derived.Test.YtmncpcchdhieoaaShelr
import Derived.Test.YtmncpcchdhieoaaOwn
import Derived.Sort.OwnSortedInts
namespace Go.Proofs.Ytmncpcchdhieoaa
open Go.ChangeShapes Go.WideShapes Go.ChangeAt Go.RowKit
set_option linter.unusedVariables false
set_option linter.unusedSimpArgs false

open Go.Sort (HoldsK flatK grow putRow mapBlock SWO PermIn)

theorem rcells_new (w : World) (A : Array Value) (t : TypeId) : ∀ (j : Nat) u, A.toList[j]? = some u → (w.alloc (.cells A t)).cell? ((⟨w.heap.size, 0, none⟩ : Addr).add j) = some u := by
  intro j u hj
  rw [add_spot0, Nat.zero_add, (Blk.new w A t).cell j, ← hj]
  simp

def RL : List Value := [.int .u32 1, .int .u32 20]
/-- The one range lies there. -/
def RgIs (w : World) (g : Nat) : Prop := w.cell? ⟨g, 0, none⟩ = some (.int .u32 1) ∧ w.cell? ⟨g, 1, none⟩ = some (.int .u32 20)
theorem RgIs.keep {w w' : World} {g : Nat} (h : RgIs w g) (hb : Below w.heap.size w w') : RgIs w' g :=
  have hl := World.block_lt_of_cell? w _ h.1
  ⟨(hb.cell (p := ⟨g, 0, none⟩) hl).trans h.1, (hb.cell (p := ⟨g, 1, none⟩) hl).trans h.2⟩
theorem odd_any (w : World) : Calls Try.prog 23 #[.agg #[.int .u32 1, .int .u32 20]] w fun e w' => e = .returned (.bool false) ∧ Below w.heap.size w w' := by
  go_enter Try.func23, Try.ntmps23
  go_wp2
  go_ret
  exact ⟨rfl, low0 w _⟩
theorem rindex_any (g c : Nat) (w : World) (hg : RgIs w g) : Calls Try.prog 44 #[.slice (some ⟨g, 0, none⟩) 1 c, .func (.func 23) #[] #[]] w fun e w' => e = .returned (.int .i64 (-1)) ∧ Below w.heap.size w w' := by
  obtain ⟨h0, h1⟩ := hg
  go_enter Try.func44, Try.ntmps44
  go_wp2
  go_loopw [8] (fun i wr => (i = .int .i64 0 ∧ wr = w) ∨ (i = .int .i64 1 ∧ Below w.heap.size w wr)) (fun i _ => 1 - (intOf i).toNat)
  case atStart => exact .inl ⟨rfl, rfl⟩
  case round =>
    rcases hrel with ⟨rfl, rfl⟩ | ⟨rfl, hb⟩
    · go_wp2_with (go_at_call 23; refine (odd_any _).mono ?_; rintro e w1 ⟨rfl, hx⟩; have HX := Lib.hid hx; clear hx)
      go_roundw
      case rel => exact .inr ⟨by first | rfl | go_num, HX.out⟩
      case measure => simp [intOf]
    · have HB := Lib.hid hb
      clear hb
      go_wp2
      go_ret
      exact ⟨rfl, HB.out⟩
theorem rcontains_any (g c : Nat) (w : World) (hg : RgIs w g) : Calls Try.prog 24 #[.slice (some ⟨g, 0, none⟩) 1 c, .func (.func 23) #[] #[]] w fun e w' => e = .returned (.bool false) ∧ Below w.heap.size w w' := by
  have HG := Lib.hid hg
  clear hg
  go_enter Try.func24, Try.ntmps24
  go_wp2_with (go_at_call 44; refine (rindex_any _ _ _ HG.out).mono ?_; rintro e w1 ⟨rfl, hx⟩; have HX := Lib.hid hx; clear hx)
  go_ret
  exact ⟨rfl, HX.out⟩
theorem rvalues_any (g c : Nat) (w : World) : Calls Try.prog 26 #[.slice (some ⟨g, 0, none⟩) 1 c] w fun e w' => e = .returned (.func (.func 47) #[] #[.pointer (some ⟨w.heap.size, 0, none⟩)]) ∧ w' = w.alloc (.cells #[.slice (some ⟨g, 0, none⟩) 1 c] 33) := by
  go_enter Try.func26, Try.ntmps26
  go_wp2
  go_ret
  exact ⟨rfl, rfl⟩
/-- How ranges are compared. -/
def encR (x : Int × Int) : List Value := [.int .u32 x.1, .int .u32 x.2]
def cfR (x y : Int × Int) : Int := cmpI x.1 y.1
theorem rclosure (x y : Int × Int) (W : World) : Calls Try.prog 27 #[.agg #[.int .u32 x.1, .int .u32 x.2], .agg #[.int .u32 y.1, .int .u32 y.2]] W fun e w' => e = .returned (.int .i64 (cfR x y)) ∧ ∃ q os', w' = grow (W.drewN q) os' := by
  have hG := ((Gr.refl W).alloc (.cells #[.int .u32 x.1, .int .u32 x.2] 32)).alloc (.cells #[.int .u32 y.1, .int .u32 y.2] 32)
  have HG := Lib.hid hG
  clear hG
  obtain ⟨x1, x2⟩ := x
  obtain ⟨y1, y2⟩ := y
  go_enter Try.func27, Try.ntmps27
  go_wp2_with (go_at_call 28; refine (cmpU_any _ _ _).mono ?_; rintro e w' ⟨rfl, rfl⟩)
  go_ret
  exact ⟨rfl, HG.out⟩
theorem ltR (x y : Int × Int) : ltOf cfR x y = decide (x.1 < y.1) := by
  unfold ltOf cfR cmpI
  by_cases h1 : x.1 < y.1
  · simp [h1]
  · by_cases h2 : y.1 < x.1 <;> simp [h1, h2]
theorem swoR : SWO (ltOf cfR) where
  irrefl x := by rw [ltR]; simp
  trans x y z h1 h2 := by rw [ltR] at *; simp at *; omega
  ntrans x y z h1 h2 := by rw [ltR] at *; simp at *; omega
theorem grown_sortR {w : World} {g n : Nat} {os : Array Obj} (d : Array (Int × Int)) : w.grownBy (sortWorldK encR 2 w g 0 n d os) (some g) := by
  refine ⟨rfl, rfl, rfl, by simp [sortWorldK, Go.Sort.putRowK], fun k hk hne => ?_⟩
  unfold sortWorldK Go.Sort.putRowK
  rw [Go.Sort.heap_grow_old _ _ (by simpa using hk)]
  have : g ≠ k := fun e => hne (by rw [e])
  simp [putRow, mapBlock, Go.Sort.ahead, Array.getElem?_modify, this]
theorem sortR_own {base : Nat} {v : Value} {w : World} (h : w.ownsRow base 32 2 v 1 RL) :
    Calls Try.prog 46 #[v, .func (.func 27) #[] #[]] w fun e w' => e = .returned (.tuple #[]) ∧ ∃ g c, v = .slice (some ⟨g, 0, none⟩) 1 c ∧ RgIs w' g ∧ w.grownBy w' v.ownBlock := by
  rcases h.2 with ⟨rfl, h0⟩ | ⟨g, cap, cur, rfl, hb, hgb, hc, hm, hs, ht⟩
  · omega
  · have hBk : Blk w g cur 32 := hgb
    have e0 : cur[0]? = some (.int .u32 1) := by
      have := congrArg (fun l => l[0]?) ht
      simpa [List.getElem?_take, RL] using this
    have e1 : cur[1]? = some (.int .u32 20) := by
      have := congrArg (fun l => l[1]?) ht
      simpa [List.getElem?_take, RL] using this
    have hH : HoldsK encR 2 w g 0 #[((1 : Int), (20 : Int))] := by
      intro t ht1
      have ht2 : t < 2 := by simpa using ht1
      refine ⟨?_, hBk.free _⟩
      rw [Nat.zero_add, hBk.cell]
      have : t = 0 ∨ t = 1 := by omega
      rcases this with rfl | rfl
      · rw [e0, Go.Sort.get_flatK _ _ _ _ (by simp)]; rfl
      · rw [e1, Go.Sort.get_flatK _ _ _ _ (by simp)]; rfl
    have hcon := AnyQ.slices_SortFunc Try.sortR 2 (fun w => Try.isAgg32 w) (fun w => Try.sizeOf32 w) encR (fun _ => rfl) (fun x v hv => by
      unfold encR at hv
      simp only [List.mem_cons, List.not_mem_nil, or_false] at hv
      rcases hv with rfl | rfl <;> rfl) cfR swoR 27 #[] g 0 cap #[((1 : Int), (20 : Int))] w (enters_of Try.func27 (by kernel_rfl) rfl) (fun m os dk hs x y => rclosure x y _) hH hBk.lt (by simp)
    refine Calls.mono hcon ?_
    rintro e w' ⟨rfl, d', m, os, hp, _, rfl⟩
    have hd : d' = #[((1 : Int), (20 : Int))] := by
      have h1 := hp.1
      have h2 := hp.2.2
      rw [show (#[((1 : Int), (20 : Int))] : Array (Int × Int)).size = 1 from rfl] at h2 h1
      have e1 : d'.extract 0 1 = d' := by rw [← h1]; exact Array.extract_size
      rw [e1] at h2
      apply Array.toList_inj.1
      exact List.perm_singleton.1 h2
    have hH2 := holdsK_sortWorldK_c encR 2 w g 0 #[((1 : Int), (20 : Int))] d' m os hH hBk.lt (by rw [hd])
    refine ⟨rfl, g, cap, rfl, ⟨?_, ?_⟩, grown_sortR d'⟩
    · have h1 := (hH2.cell (i := 0) (c := 0) (by rw [hd]; decide) (by decide)).1
      rw [hd] at h1 ⊢
      exact h1
    · have h1 := (hH2.cell (i := 0) (c := 1) (by rw [hd]; decide) (by decide)).1
      rw [hd] at h1 ⊢
      exact h1
/-- Between two rounds: what has come lies in a row of its own. -/
def flatR (pre : List Unit) : List Value := pre.flatMap fun _ => RL
def GoingR (h : Nat) (w : World) (pre : List Unit) (W : World) : Prop := ∃ v : Value, Boxed W h 33 v ∧ W.ownsRow h 32 2 v pre.length (flatR pre) ∧ Below w.heap.size w W
theorem goingR_own (w : World) (B : Nat) (hB : w.heap.size ≤ B) : OwnFrom B (GoingR w.heap.size w) := by
  rintro s X Y row ⟨v, h2, h3, h8⟩ hg hr
  exact ⟨v, grown_boxed hg hr h2, grown_row hg hr h3, grown_below hg hB hr h8⟩
theorem Try.infoR : (Try.prog.info? 32).map (fun i => (i.zero, i.size, i.bytes)) = some (some (.agg #[.int .u32 0, .int .u32 0]), 2, 8) := by kernel_rfl
attribute [local go_sem] Oper.semAt_some
set_option maxRecDepth 100000 in
set_option maxHeartbeats 2000000 in
theorem rvals_iter (B g c n : Nat) (w : World) (hB : w.cell? ⟨B, 0, none⟩ = some (.slice (some ⟨g, 0, none⟩) 1 c)) (hg : RgIs w g) (hn : 1 ≤ n) :
    IteratesW Fence.wide n Try.prog 47 #[.pointer (some ⟨B, 0, none⟩)] (fun _ : Unit => #[.agg #[.int .u32 1, .int .u32 20]]) (fun _ _ => True) (fun xs => xs = [()]) (fun _ => True) 1 w := by
  intro l J Jx W hW hJ hY hJ0
  have cB := (hW.cell (p := ⟨B, 0, none⟩) (World.block_lt_of_cell? w _ hB)).trans hB
  have c0 := (hW.cell (p := ⟨g, 0, none⟩) (World.block_lt_of_cell? w _ hg.1)).trans hg.1
  have c1 := (hW.cell (p := ⟨g, 1, none⟩) (World.block_lt_of_cell? w _ hg.2)).trans hg.2
  have HJ := Lib.hid hJ
  have HY := Lib.hid hY
  have HJ0 := Lib.hid hJ0
  have HC0 := Lib.hid c0
  have HC1 := Lib.hid c1
  clear hB hg hJ hY hJ0
  refine callsIn_of_wp Try.func47 rfl trivial ?_ rfl
  simp only [Try.ntmps47, List.size_toArray, List.length_cons, List.length_nil, Nat.reduceAdd, Nat.reduceSub, Array.replicate_succ, Array.replicate_zero, List.push_toArray, List.append_toArray, List.nil_append, List.cons_append]
  gi_wp2
  clear cB c0 c1
  gi_loopw [7] (fun i wr => (i = .int .i64 0 ∧ wr = W) ∨ (i = .int .i64 1 ∧ J [()] wr)) (fun i _ => 1 - (intOf i).toNat)
  case atStart => exact .inl ⟨rfl, rfl⟩
  case round =>
    rcases hrel with ⟨rfl, rfl⟩ | ⟨rfl, hj⟩
    · have c0 := HC0.out
      have c1 := HC1.out
      have hj1 := HJ.out [] wr (wr.alloc (.cells #[.int .u32 1, .int .u32 20] 32)) none HJ0.out (grown_of_low (low0 wr _)) (fun r e => by cases e)
      obtain ⟨fn, tmps, assign, body, hy, hR⟩ := HY.out _ () _ hj1 (by decide)
      clear hj1
      gi_wp2
      refine hR.mono ?_
      rintro e W3 (⟨rfl, hJ3, _⟩ | ⟨rfl, hJ3⟩)
      · gi_wp2
        go_roundw
        case rel => exact .inr ⟨by first | rfl | go_num, hJ3⟩
        case measure => simp [intOf]
      · gi_wp2
        ((try simp only [Exit.inBlock, Exit.then]); refine bodyPost_ret (results_none rfl _ _ _) rfl ?_)
        exact ⟨⟨_, rfl⟩, Or.inr ⟨_, trivial, hJ3⟩⟩
    · have HJE := Lib.hid hj
      clear hj
      gi_wp2
      go_end0
      exact ⟨⟨_, rfl⟩, Or.inl ⟨_, rfl, HJE.out⟩⟩
set_option maxRecDepth 100000 in
set_option maxHeartbeats 2000000 in
theorem rappend_any (B g c : Nat) (w : World) (hB : w.cell? ⟨B, 0, none⟩ = some (.slice (some ⟨g, 0, none⟩) 1 c)) (hg : RgIs w g) :
    Calls Try.prog 67 #[.slice none 0 0, .func (.func 47) #[] #[.pointer (some ⟨B, 0, none⟩)]] w fun e w' => ∃ v : Value, e = .returned v ∧ w'.ownsRow w.heap.size 32 2 v 1 RL ∧ Below w.heap.size w w' := by
  obtain ⟨i0, hi, hz0, hz1, hz2⟩ := info_parts3 Try.infoR
  have HBL := Lib.hid (World.block_lt_of_cell? w _ hB)
  have HB := Lib.hid hB
  have HG := Lib.hid hg
  clear hB hg
  refine (callsIn_wide (n := 3)).1 ?_
  refine callsIn_of_wp_marks Try.func67 rfl trivial ?_ rfl
  simp only [Try.ntmps67, List.size_toArray, List.length_cons, List.length_nil, Nat.reduceAdd, Nat.reduceSub, Array.replicate_succ, Array.replicate_zero, List.push_toArray, List.append_toArray, List.nil_append, List.cons_append]
  gi_wp2_with (fail)
  have hsz : (w.alloc (.cells #[.slice none 0 0] 33)).heap.size = w.heap.size + 1 := by simp
  have b0 := Boxed.new w 33 (.slice none 0 0)
  have hB0 : Below w.heap.size w (w.alloc (.cells #[.slice none 0 0] 33)) := low0 w _
  have hBW := (hB0.cell (p := ⟨B, 0, none⟩) HBL.out).trans HB.out
  have hgW := HG.out.keep hB0
  generalize (w.alloc (.cells #[.slice none 0 0] 33)) = W0 at *
  refine range_fresh (F := Fence.wide) (n := 3) rfl (by decide) (gf := 47) (lb := #[.pointer (some ⟨B, 0, none⟩)]) rfl trivial (enters_of Try.func47 (by kernel_rfl) rfl)
    (rvals_iter B g c 2 W0 hBW hgW (by decide)) (fun _ _ => trivial) (fun W l o o' hl h hw _ => trivial) (fun _ => rfl) (GoingR w.heap.size w) (fun _ _ => False) (goingR_own w _ (by omega)) (fun _ _ _ _ h _ _ => h)
    ⟨.slice none 0 0, b0, World.ownsRow_nil _ _ _ _, hB0⟩ (fun (x : Unit) (q : Nat) => { tmps := #[.slice none 0 0, .func (.func 47) #[] #[.pointer (some ⟨B, 0, none⟩)], .pointer (some ⟨w.heap.size, 0, none⟩), undef, .slice none 0 0, .pointer (some ⟨q, 0, none⟩), .func (.func 47) #[] #[.pointer (some ⟨B, 0, none⟩)], .agg #[.int .u32 1, .int .u32 20], undef, undef, undef, undef, undef], defers := [] }) (fun x q W => Blk W q #[.int .u32 1, .int .u32 20] 32) ?gg ?assign ?body ?done ?stop
  case gg =>
    intro x q W l o o' hb ho hc
    refine (World.putObj_heap_other (fun e => ?_)).trans hb
    subst e
    rw [show W.heap[q]? = _ from hb] at ho
    cases ho
    cases hc
  case assign =>
    rintro l pre x W K ⟨v, h2, h3, h8⟩ hlen hK
    have HK2 := Lib.hid (hK W.heap.size (W.alloc (.cells #[.int .u32 1, .int .u32 20] 32)) ((KeepsOthers.alloc W _).from _) trivial ⟨v, h2.alloc _, h3.alloc _, h8.alloc h8.size _⟩ (Blk.new W #[.int .u32 1, .int .u32 20] 32))
    clear hK
    gi_wp2
    exact HK2.out
  case body =>
    rintro l pre x q W ⟨v, h2, h3, h8⟩ hbx hlen
    have c3 := h2.cell
    have hs8 := h8.size
    obtain ⟨p0, p1⟩ := Blk.cells2 hbx
    gi_wp2_with (gi_at_builtin; refine wpListIn_append_own _ rfl (.tmp 8) (.tmp 10) 33 rfl w.heap.size 32 i0 (.agg #[.int .u32 0, .int .u32 0]) 2 8 Try.underlying33 hi hz0 hz1 hz2 rfl (by decide) _ pre.length (flatR pre) rfl (h3.alloc (.cells #[.int .u32 1, .int .u32 20] 32)) ⟨_, 0, none⟩ 1 1 [.int .u32 1, .int .u32 20] rfl rfl (rcells_new W #[.int .u32 1, .int .u32 20] 32) (by intro u hu; simp at hu; rcases hu with rfl | rfl <;> rfl) (by unfold maxLen; omega) (by omega) (by simp at hs8 ⊢; omega) ?_; intro v1 w3 hown3 hgr3 _; obtain ⟨g1, cap1, rfl⟩ := ownsRow_succ hown3; obtain ⟨hv1, hv2, hr2, hk2, hb2⟩ := h2.appended (by decide) h3 hs8 (by omega) hown3 hgr3; have hc1 := hv1.cell; have hf1 := hv1.frozen)
    refine ⟨hk2.from _, trivial, _, hv2, ?_, h8.trans hb2⟩
    rw [List.length_append]
    unfold flatR at hr2 ⊢
    rw [List.flatMap_append]
    simpa [RL] using hr2
  case done =>
    rintro D xs W hD rfl ⟨v, h2, h3, h8⟩ hK
    have c3 := h2.cell
    gi_wp2
    refine ⟨by simp, .inl ⟨_, _, rfl, run_takeDeferred hK, ?_⟩⟩
    exact ⟨v, by simp [results, Try.results67, go_sem], v, rfl, ownsRow_putObj h3 _ hK rfl, h8.trans (belowK_b (w := w) (Nat.le_refl _) W D _ _ (by omega) hK rfl rfl)⟩
  case stop =>
    rintro D pre W hD hpre h hK
    exact h.elim
theorem rcollect_any (B g c : Nat) (w : World) (hB : w.cell? ⟨B, 0, none⟩ = some (.slice (some ⟨g, 0, none⟩) 1 c)) (hg : RgIs w g) :
    Calls Try.prog 45 #[.func (.func 47) #[] #[.pointer (some ⟨B, 0, none⟩)]] w fun e w' => ∃ v : Value, e = .returned v ∧ w'.ownsRow w.heap.size 32 2 v 1 RL ∧ Below w.heap.size w w' := by
  have HA := Lib.hid (rappend_any B g c w hB hg)
  clear hB hg
  go_enter Try.func45, Try.ntmps45
  go_wp2_with (go_at_call 67; refine (HA.out).mono ?_; rintro e w1 ⟨v, rfl, hr, hbb⟩)
  go_ret
  exact ⟨v, rfl, hr, hbb⟩
theorem rsorted_any (B g c : Nat) (w : World) (hB : w.cell? ⟨B, 0, none⟩ = some (.slice (some ⟨g, 0, none⟩) 1 c)) (hg : RgIs w g) :
    Calls Try.prog 25 #[.func (.func 47) #[] #[.pointer (some ⟨B, 0, none⟩)], .func (.func 27) #[] #[]] w fun e w' => ∃ (q d : Nat), e = .returned (.slice (some ⟨q, 0, none⟩) 1 d) ∧ RgIs w' q ∧ Below w.heap.size w w' := by
  have HA := Lib.hid (rcollect_any B g c w hB hg)
  clear hB hg
  go_enter Try.func25, Try.ntmps25
  go_wp2_with (first | (go_at_call 45; refine (HA.out).mono ?_; rintro e w1 ⟨v, rfl, hr, hbb⟩; have HR := Lib.hid hr; have HBB := Lib.hid hbb; clear hr hbb) | (go_at_call 46; refine (sortR_own HR.out).mono ?_; rintro e w2 ⟨rfl, hs⟩; have HS := Lib.hid hs; clear hs))
  go_ret
  obtain ⟨q, d, rfl, hin, hg⟩ := HS.out
  exact ⟨q, d, rfl, hin, HBB.out.grown hg HBB.out.size (fun k e => own_low HR.out e)⟩

end Go.Proofs.Ytmncpcchdhieoaa
