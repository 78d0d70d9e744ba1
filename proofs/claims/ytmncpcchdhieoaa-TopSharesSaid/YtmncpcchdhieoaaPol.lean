/- The addresses of a pool. -/
import Derived.Test.YtmncpcchdhieoaaTab
import Derived.Test.YtmncpcchdhieoaaBx
import Derived.Test.YtmncpcchdhieoaaRna
import Derived.RangeFuncSeq
import Derived.Sort.MapsRangeIn
import Derived.Shelf.Abstract
import Derived.Shelf.AbstractIn
import Derived.WalkKit
import Derived.OwnWalkIn
import Derived.TacticsInMore
import Derived.RegionIn
import Derived.LoopNIn
import Derived.LoopIn
import Derived.Lib.Hide
namespace Go.Proofs.Ytmncpcchdhieoaa
open Go.ChangeShapes Go.WideShapes Go.ChangeAt Go.RowKit
set_option linter.unusedVariables false
set_option linter.unusedSimpArgs false

theorem boxed_keep {W W' : World} {b : Nat} {t : TypeId} {v : Value} (h : Boxed W b t v) (hb : Below W.heap.size W W') : Boxed W' b t v := (hb.block b h.lt).trans h
theorem boxed_other {W : World} {b k : Nat} {t : TypeId} {v : Value} (h : Boxed W b t v) (hk : b ≠ k) (i : Nat) (u : Value) : Boxed (W.setCell ⟨k, i, none⟩ u) b t v := (heap_setCell_other W ⟨k, i, none⟩ b u hk).trans h

theorem psize_any (w : World) : Calls Try.prog 29 #[.agg #[.int .u32 1, .int .u32 20]] w fun e w' => e = .returned (.int .i64 20) ∧ Below w.heap.size w w' := by
  go_enter Try.func29, Try.ntmps29
  go_wp2
  go_ret
  exact ⟨rfl, low0 w _⟩
theorem pcount_any (g c : Nat) (w : World) (h0 : w.cell? ⟨g, 0, none⟩ = some (.int .u32 1)) (h1 : w.cell? ⟨g, 1, none⟩ = some (.int .u32 20)) :
    Calls Try.prog 11 #[.slice (some ⟨g, 0, none⟩) 1 c] w fun e w' => e = .returned (.int .i64 20) ∧ Below w.heap.size w w' := by
  go_enter Try.func11, Try.ntmps11
  go_wp2
  go_loopw [3, 8] (fun s i wr => (s = .int .i64 0 ∧ i = .int .i64 0 ∧ wr = w) ∨ (s = .int .i64 20 ∧ i = .int .i64 1 ∧ Below w.heap.size w wr)) (fun _ i _ => 1 - (intOf i).toNat)
  case atStart => exact .inl ⟨rfl, rfl, rfl⟩
  case round =>
    rcases hrel with ⟨rfl, rfl, rfl⟩ | ⟨rfl, rfl, hb⟩
    · go_wp2_with (go_at_call 29; refine (psize_any _).mono ?_; rintro e w1 ⟨rfl, hx⟩; have HX := Lib.hid (low (low0 wr (.cells #[.int .u32 1, .int .u32 20] 32)) hx); clear hx)
      go_roundw
      case rel => exact .inr ⟨by first | rfl | go_num, by first | rfl | go_num, HX.out⟩
      case measure => simp [intOf]
    · have HB := Lib.hid hb
      clear hb
      go_wp2
      go_ret
      exact ⟨rfl, HB.out⟩
theorem pall_call (g c : Nat) (w : World) : Calls Try.prog 30 #[.slice (some ⟨g, 0, none⟩) 1 c] w fun e w' => e = .returned (.func (.func 49) #[] #[.pointer (some ⟨w.heap.size, 0, none⟩)]) ∧ w' = w.alloc (.cells #[.slice (some ⟨g, 0, none⟩) 1 c] 33) := by
  go_enter Try.func30, Try.ntmps30
  go_wp2
  go_ret
  exact ⟨rfl, rfl⟩
/-- Blocks of cells lie as they lay. -/
def KeepCells (A B : World) : Prop := ∀ (i : Nat) (o : Obj), A.heap[i]? = some o → o.isCells = true → B.heap[i]? = some o
theorem KeepCells.refl (A : World) : KeepCells A A := fun _ _ h _ => h
theorem KeepCells.trans {A B C : World} (a : KeepCells A B) (b : KeepCells B C) : KeepCells A C := fun i o h hc => b i o (a i o h hc) hc
theorem KeepCells.put (W : World) (l : Nat) (o o' : Obj) (ho : W.heap[l]? = some o) (hc : o.isCells = false) : KeepCells W (W.putObj l o') := fun i x hx hxc => by
  refine (World.putObj_heap_other (fun e => ?_)).trans hx
  subst e
  rw [hx] at ho
  cases ho
  rw [hxc] at hc
  cases hc
theorem KeepCells.blk {A B : World} (a : KeepCells A B) {g : Nat} {X : Array Value} {t : TypeId} (h : Blk A g X t) : Blk B g X t := a g _ h rfl
theorem u32w {x : Int} (h0 : 0 ≤ x) (h1 : x < 4294967296) : IntKind.u32.wrap x = x := by rw [IntKind.wrap_u32]; omega

attribute [local go_sem] Oper.semAt_some

set_option maxRecDepth 100000 in
set_option maxHeartbeats 2000000 in
theorem pall_iter (B g c n : Nat) (w : World) (hB : w.cell? ⟨B, 0, none⟩ = some (.slice (some ⟨g, 0, none⟩) 1 c)) (h0 : w.cell? ⟨g, 0, none⟩ = some (.int .u32 1)) (h1 : w.cell? ⟨g, 1, none⟩ = some (.int .u32 20)) (hn : 1 ≤ n) :
    IteratesW Fence.wide n Try.prog 49 #[.pointer (some ⟨B, 0, none⟩)] (fun x : Nat => #[Value.int .i64 x, .int .u32 (1 + (x : Int))]) KeepCells (fun xs => xs = List.range 20) (fun _ => True) 20 w := by
  intro l J Jx W hW hJ hY hJ0
  have cB := (hW.cell (p := ⟨B, 0, none⟩) (World.block_lt_of_cell? w _ hB)).trans hB
  have c0 := (hW.cell (p := ⟨g, 0, none⟩) (World.block_lt_of_cell? w _ h0)).trans h0
  have c1 := (hW.cell (p := ⟨g, 1, none⟩) (World.block_lt_of_cell? w _ h1)).trans h1
  have HJ := Lib.hid hJ
  have HY := Lib.hid hY
  have HJ0 := Lib.hid hJ0
  have HC0 := Lib.hid c0
  have HC1 := Lib.hid c1
  clear hB h0 h1 hJ hY hJ0
  refine callsIn_of_wp Try.func49 rfl trivial ?_ rfl
  simp only [Try.ntmps49, List.size_toArray, List.length_cons, List.length_nil, Nat.reduceAdd, Nat.reduceSub, Array.replicate_succ, Array.replicate_zero, List.push_toArray, List.append_toArray, List.nil_append, List.cons_append]
  gi_wp2
  clear cB c0 c1
  gi_loopw [3, 9] (fun s i wr => (s = .int .i64 0 ∧ i = .int .i64 0 ∧ wr = W) ∨ (s = .int .i64 20 ∧ i = .int .i64 1 ∧ J (List.range 20) wr)) (fun _ i _ => 1 - (intOf i).toNat)
  case atStart => exact .inl ⟨rfl, rfl, rfl⟩
  case round =>
    rcases hrel with ⟨rfl, rfl, rfl⟩ | ⟨rfl, rfl, hj⟩
    · have c0 := HC0.out
      have c1 := HC1.out
      have hF : Fence.wide.fn 29 := trivial
      have HN := Lib.hid (Blk.new wr #[.int .u32 1, .int .u32 20] 32)
      gi_wp2_with (gi_at_call 29; refine (callsIn_wide.2 (psize_any _)).mono ?_; rintro e w1 ⟨rfl, hx⟩; have HX := Lib.hid (low (low0 wr (.cells #[.int .u32 1, .int .u32 20] 32)) hx); have HN1 := Lib.hid (HN.out.keep hx); clear hx)
      have hj1 : J [] w1 := HJ.out [] wr w1 none HJ0.out (grown_of_low HX.out) (fun r e => by cases e)
      have HJ1 := Lib.hid hj1
      clear hj1 c0 c1
      generalize wr.heap.size = gr at *
      gi_loopw [3, 15] (fun s i wx => ∃ k : Nat, k ≤ 20 ∧ s = .int .i64 k ∧ i = .int .i64 k ∧ J (List.range k) wx ∧ Blk wx gr #[.int .u32 1, .int .u32 20] 32) (fun _ i _ => 20 - (intOf i).toNat)
      case atStart => exact ⟨0, by omega, rfl, rfl, HJ1.out, HN1.out⟩
      case round =>
        obtain ⟨k, hk, rfl, rfl, hjk, hbk⟩ := hrel
        have HJK := Lib.hid hjk
        have HBK := Lib.hid hbk
        clear hjk hbk
        by_cases hlt : k < 20
        · have q1 : IntKind.u32.wrap (k : Int) = k := u32w (by omega) (by omega)
          have q2 : IntKind.u32.wrap (1 + (k : Int)) = 1 + k := u32w (by omega) (by omega)
          obtain ⟨p0, p1⟩ := HBK.out.cells2
          obtain ⟨fn, tmps, assign, body, hy, hR⟩ := HY.out _ k _ HJK.out (by rw [List.length_range]; exact hlt)
          gi_wp2
          refine hR.mono ?_
          rintro e W3 (⟨rfl, hJ3, hk3⟩ | ⟨rfl, hJ3⟩)
          · gi_wp2
            go_roundw
            case rel => exact ⟨k + 1, by omega, by first | rfl | go_num, by first | rfl | go_num, by rw [List.range_succ]; exact hJ3, hk3.blk HBK.out⟩
            case measure => simp [intOf]; omega
          · gi_wp2
            ((try simp only [Exit.inBlock, Exit.then]); refine bodyPost_ret (results_none rfl _ _ _) rfl ?_)
            exact ⟨⟨_, rfl⟩, Or.inr ⟨_, trivial, hJ3⟩⟩
        · obtain rfl : k = 20 := by omega
          gi_wp2
          go_roundw
          case rel => exact .inr ⟨by first | rfl | go_num, by first | rfl | go_num, HJK.out⟩
          case measure => simp [intOf]
    · have HJE := Lib.hid hj
      clear hj
      gi_wp2
      go_end0
      exact ⟨⟨_, rfl⟩, Or.inl ⟨_, rfl, HJE.out⟩⟩

end Go.Proofs.Ytmncpcchdhieoaa
