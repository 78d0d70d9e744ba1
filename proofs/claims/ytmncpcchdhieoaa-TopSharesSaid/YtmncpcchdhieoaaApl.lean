/- A table's leases, collected. -/
import Derived.Test.YtmncpcchdhieoaaThs
import Derived.Test.YtmncpcchdhieoaaRna
import Derived.Test.YtmncpcchdhieoaaLes
namespace Go.Proofs.Ytmncpcchdhieoaa
open Go.ChangeShapes Go.WideShapes Go.ChangeAt Go.RowKit
set_option linter.unusedVariables false
set_option linter.unusedSimpArgs false

open Go.Maps

theorem cells_new (w : World) (A : Array Value) (t : TypeId) : ∀ (j : Nat) u, A.toList[j]? = some u → (w.alloc (.cells A t)).cell? ((⟨w.heap.size, 0, none⟩ : Addr).add j) = some u := by
  intro j u hj
  rw [add_spot0, Nat.zero_add, (Blk.new w A t).cell j, ← hj]
  simp

/-- Between two rounds: what has come lies in a row of its own. -/
def GoingL (h : Nat) (w : World) (pre : List Le) (W : World) : Prop := ∃ v : Value, Boxed W h 24 v ∧ W.ownsRow h 35 8 v pre.length (flatL pre) ∧ Below w.heap.size w W
theorem goingL_own (w : World) (B : Nat) (hB : w.heap.size ≤ B) : OwnFrom B (GoingL w.heap.size w) := by
  rintro s X Y row ⟨v, h2, h3, h8⟩ hg hr
  exact ⟨v, grown_boxed hg hr h2, grown_row hg hr h3, grown_below hg hB hr h8⟩
theorem flatL_more (pre : List Le) (x : Le) : flatL (pre ++ [x]) = flatL pre ++ x.cells := by
  unfold flatL
  rw [List.flatMap_append]
  simp
theorem Try.infoL : (Try.prog.info? 35).map (fun i => (i.zero, i.size, i.bytes)) = some (some (.agg #[.int .u32 0, .int .i64 0, .string { data := #[] }, .int .i64 0, .int .i64 0, .int .i64 0, .int .i64 0, .int .i64 0]), 8, 72) := by kernel_rfl
attribute [local go_sem] Oper.semAt_some
set_option maxRecDepth 100000 in
set_option maxHeartbeats 4000000 in
theorem lappend_any (B1 B2 : Nat) (L : List Le) (w : World) (hit : ∀ W, Below w.heap.size w W → IteratesW Fence.wide 2 Try.prog 43 #[.pointer (some ⟨B1, 0, none⟩), .pointer (some ⟨B2, 0, none⟩)] (fun x : Le => #[x.val]) (KeepLow w.heap.size) (fun xs => xs.Perm L) (fun _ => True) 21 W) :
    Calls Try.prog 76 #[.slice none 0 0, .func (.func 43) #[] #[.pointer (some ⟨B1, 0, none⟩), .pointer (some ⟨B2, 0, none⟩)]] w fun e w' => ∃ (v : Value) (xs : List Le), e = .returned v ∧ xs.Perm L ∧ w'.ownsRow w.heap.size 35 8 v xs.length (flatL xs) ∧ Below w.heap.size w w' := by
  obtain ⟨i0, hi, hz0, hz1, hz2⟩ := info_parts3 Try.infoL
  refine (callsIn_wide (n := 3)).1 ?_
  refine callsIn_of_wp_marks Try.func76 rfl trivial ?_ rfl
  simp only [Try.ntmps76, List.size_toArray, List.length_cons, List.length_nil, Nat.reduceAdd, Nat.reduceSub, Array.replicate_succ, Array.replicate_zero, List.push_toArray, List.append_toArray, List.nil_append, List.cons_append]
  gi_wp2_with (fail)
  have hsz : (w.alloc (.cells #[.slice none 0 0] 24)).heap.size = w.heap.size + 1 := by simp
  have b0 := Boxed.new w 24 (.slice none 0 0)
  have hB0 : Below w.heap.size w (w.alloc (.cells #[.slice none 0 0] 24)) := low0 w _
  have hit0 := hit _ hB0
  clear hit
  generalize (w.alloc (.cells #[.slice none 0 0] 24)) = W0 at *
  refine range_fresh (F := Fence.wide) (n := 3) rfl (by decide) (gf := 43) (lb := #[.pointer (some ⟨B1, 0, none⟩), .pointer (some ⟨B2, 0, none⟩)]) rfl trivial (enters_of Try.func43 (by kernel_rfl) rfl)
    hit0 (fun h k => h.trans k) (fun W l o o' hl h hw _ => KeepLow.put W l o o' (by omega) h hw) (fun _ => rfl) (GoingL w.heap.size w) (fun _ _ => False) (goingL_own w _ (by omega)) (fun _ _ _ _ h _ _ => h)
    ⟨.slice none 0 0, b0, World.ownsRow_nil _ _ _ _, hB0⟩ (fun (x : Le) (g : Nat) => { tmps := #[.slice none 0 0, .func (.func 43) #[] #[.pointer (some ⟨B1, 0, none⟩), .pointer (some ⟨B2, 0, none⟩)], .pointer (some ⟨w.heap.size, 0, none⟩), undef, .slice none 0 0, .pointer (some ⟨g, 0, none⟩), .func (.func 43) #[] #[.pointer (some ⟨B1, 0, none⟩), .pointer (some ⟨B2, 0, none⟩)], .agg #[.int .u32 x.adr, .int .i64 x.bind, .string x.cli, .int .i64 x.unt, .int .i64 x.ack, .int .i64 x.tld, .int .i64 x.att, .int .i64 x.ver], undef, undef, undef, undef, undef], defers := [] }) (fun x g W => Blk W g #[.int .u32 x.adr, .int .i64 x.bind, .string x.cli, .int .i64 x.unt, .int .i64 x.ack, .int .i64 x.tld, .int .i64 x.att, .int .i64 x.ver] 35) ?gg ?assign ?body ?done ?stop
  case gg =>
    intro x g W l o o' hb ho hc
    refine (World.putObj_heap_other (fun e => ?_)).trans hb
    subst e
    rw [show W.heap[g]? = _ from hb] at ho
    cases ho
    cases hc
  case assign =>
    rintro l pre x W K ⟨v, h2, h3, h8⟩ hlen hK
    have hs8 := h8.size
    have hK2 := hK W.heap.size (W.alloc (.cells #[.int .u32 x.adr, .int .i64 x.bind, .string x.cli, .int .i64 x.unt, .int .i64 x.ack, .int .i64 x.tld, .int .i64 x.att, .int .i64 x.ver] 35)) ((KeepsOthers.alloc W _).from _) ⟨(KeepsOthers.alloc W _).walks, LowEq.low (low0 W _) h8.size⟩ ⟨v, h2.alloc _, h3.alloc _, h8.alloc h8.size _⟩ (Blk.new W #[.int .u32 x.adr, .int .i64 x.bind, .string x.cli, .int .i64 x.unt, .int .i64 x.ack, .int .i64 x.tld, .int .i64 x.att, .int .i64 x.ver] 35)
    have HK2 := Lib.hid hK2
    clear hK hK2
    obtain ⟨xa, xb, xc, xu, xk, xt, xz, xv⟩ := x
    simp only [Le.val] at HK2 ⊢
    gi_wp2
    exact HK2.out
  case body =>
    rintro l pre x g W ⟨v, h2, h3, h8⟩ hbx hlen
    have c3 := h2.cell
    have hs8 := h8.size
    obtain ⟨xa, xb, xc, xu, xk, xt, xz, xv⟩ := x
    obtain ⟨p0, p1, p2, p3, p4, p5, p6, p7⟩ := Blk.cells8 hbx
    have HBX := Lib.hid hbx
    clear hbx
    simp only at p0 p1 p2 p3 p4 p5 p6 p7
    gi_wp2_with (gi_at_builtin; refine wpListIn_append_own _ rfl (.tmp 8) (.tmp 10) 24 rfl w.heap.size 35 i0 (.agg #[.int .u32 0, .int .i64 0, .string { data := #[] }, .int .i64 0, .int .i64 0, .int .i64 0, .int .i64 0, .int .i64 0]) 8 72 Try.underlying24 hi hz0 hz1 hz2 rfl (by decide) _ pre.length (flatL pre) rfl (h3.alloc (.cells #[.int .u32 xa, .int .i64 xb, .string xc, .int .i64 xu, .int .i64 xk, .int .i64 xt, .int .i64 xz, .int .i64 xv] 35)) ⟨_, 0, none⟩ 1 1 [.int .u32 xa, .int .i64 xb, .string xc, .int .i64 xu, .int .i64 xk, .int .i64 xt, .int .i64 xz, .int .i64 xv] rfl rfl (cells_new W #[.int .u32 xa, .int .i64 xb, .string xc, .int .i64 xu, .int .i64 xk, .int .i64 xt, .int .i64 xz, .int .i64 xv] 35) (by intro u hu; simp at hu; rcases hu with rfl | rfl | rfl | rfl | rfl | rfl | rfl | rfl <;> rfl) (by unfold maxLen; omega) (by omega) (by simp at hs8 ⊢; omega) ?_; intro v1 w3 hown3 hgr3 _; obtain ⟨g1, cap1, rfl⟩ := ownsRow_succ hown3; obtain ⟨hv1, hv2, hr2, hk2, hb2⟩ := h2.appended (by decide) h3 hs8 (by omega) hown3 hgr3; have hc1 := hv1.cell; have hf1 := hv1.frozen)
    refine ⟨hk2.from _, ⟨hk2.walks, fun i hi => hb2.block i hi⟩, _, hv2, ?_, h8.trans hb2⟩
    rw [List.length_append, flatL_more]
    exact hr2
  case done =>
    rintro D xs W hD hS ⟨v, h2, h3, h8⟩ hK
    have c3 := h2.cell
    gi_wp2
    refine ⟨by simp, .inl ⟨_, _, rfl, run_takeDeferred hK, ?_⟩⟩
    exact ⟨v, by simp [results, Try.results76, go_sem], v, xs, rfl, hS, ownsRow_putObj h3 _ hK rfl, h8.trans (belowK_b (w := w) (Nat.le_refl _) W D _ _ (by omega) hK rfl rfl)⟩
  case stop =>
    rintro D pre W hD hpre h hK
    exact h.elim
theorem lcollect_any (B1 B2 : Nat) (L : List Le) (w : World) (hit : ∀ W, Below w.heap.size w W → IteratesW Fence.wide 2 Try.prog 43 #[.pointer (some ⟨B1, 0, none⟩), .pointer (some ⟨B2, 0, none⟩)] (fun x : Le => #[x.val]) (KeepLow w.heap.size) (fun xs => xs.Perm L) (fun _ => True) 21 W) :
    Calls Try.prog 64 #[.func (.func 43) #[] #[.pointer (some ⟨B1, 0, none⟩), .pointer (some ⟨B2, 0, none⟩)]] w fun e w' => ∃ (v : Value) (xs : List Le), e = .returned v ∧ xs.Perm L ∧ w'.ownsRow w.heap.size 35 8 v xs.length (flatL xs) ∧ Below w.heap.size w w' := by
  have HA := Lib.hid (lappend_any B1 B2 L w hit)
  clear hit
  go_enter Try.func64, Try.ntmps64
  go_wp2_with (go_at_call 76; refine (HA.out).mono ?_; rintro e w1 ⟨v, xs, rfl, hp, hr, hbb⟩)
  go_ret
  exact ⟨v, xs, rfl, hp, hr, hbb⟩

end Go.Proofs.Ytmncpcchdhieoaa
