/- All leases of a table; how many are bound so. -/
import Derived.Test.YtmncpcchdhieoaaApl
namespace Go.Proofs.Ytmncpcchdhieoaa
open Go.ChangeShapes Go.WideShapes Go.ChangeAt Go.RowKit
set_option linter.unusedVariables false
set_option linter.unusedSimpArgs false

open Go.Maps

set_option maxRecDepth 100000 in
theorem lsorted_any (B1 B2 B : Nat) (L : List Le) (w : World) (hL : L.length ≤ 20) (hB : w.cell? ⟨B, 0, none⟩ = some (.func (.func 22) #[] #[]))
    (hit : ∀ W, Below w.heap.size w W → IteratesW Fence.wide 2 Try.prog 43 #[.pointer (some ⟨B1, 0, none⟩), .pointer (some ⟨B2, 0, none⟩)] (fun x : Le => #[x.val]) (KeepLow w.heap.size) (fun xs => xs.Perm L) (fun _ => True) 21 W) :
    Calls Try.prog 39 #[.func (.func 43) #[] #[.pointer (some ⟨B1, 0, none⟩), .pointer (some ⟨B2, 0, none⟩)], .func (.func 40) #[] #[.pointer (some ⟨B, 0, none⟩)]] w fun e w' => ∃ (a : Option Addr) (n c : Nat) (ls : List Le), e = .returned (.slice a n c) ∧ LesIn w' a n c ls ∧ ls.Perm L ∧ Below w.heap.size w w' := by
  have HA := Lib.hid (lcollect_any B1 B2 L w hit)
  have HBL := Lib.hid (World.block_lt_of_cell? w _ hB)
  have HB := Lib.hid hB
  have HL := Lib.hid hL
  clear hit hB hL
  go_enter Try.func39, Try.ntmps39
  go_wp2_with (first | (go_at_call 64; refine (HA.out).mono ?_; rintro e w1 ⟨v, xs, rfl, hp, hr, hbb⟩; have HP := Lib.hid hp; have HR := Lib.hid hr; have HBB := Lib.hid hbb; clear hp hr hbb) | (go_at_call 65; refine (sortL_own HR.out rfl (by have := HP.out.length_eq; have := HL.out; omega) ((HBB.out.cell (p := ⟨B, 0, none⟩) HBL.out).trans HB.out) HBL.out).mono ?_; rintro e w2 ⟨rfl, hs⟩; have HS := Lib.hid hs; clear hs))
  go_ret
  obtain ⟨a, c, ls, rfl, hp2, hin, hg⟩ := HS.out
  exact ⟨a, _, c, ls, rfl, hin, hp2.trans HP.out, HBB.out.grown hg HBB.out.size (fun k e => own_low HR.out e)⟩
set_option maxRecDepth 100000 in
theorem tsorted_any (B1 B2 : Nat) (L : List Le) (w : World) (hL : L.length ≤ 20)
    (hit : ∀ h W, w.heap.size ≤ h → h ≤ W.heap.size → Below w.heap.size w W → IteratesW Fence.wide 2 Try.prog 43 #[.pointer (some ⟨B1, 0, none⟩), .pointer (some ⟨B2, 0, none⟩)] (fun x : Le => #[x.val]) (KeepLow h) (fun xs => xs.Perm L) (fun _ => True) 21 W) :
    Calls Try.prog 19 #[.func (.func 43) #[] #[.pointer (some ⟨B1, 0, none⟩), .pointer (some ⟨B2, 0, none⟩)], .func (.func 22) #[] #[]] w fun e w' => ∃ (a : Option Addr) (n c : Nat) (ls : List Le), e = .returned (.slice a n c) ∧ LesIn w' a n c ls ∧ ls.Perm L ∧ Below w.heap.size w w' := by
  have hb0 := low0 w (.cells #[.func (.func 22) #[] #[]] 66)
  have hsz : (w.alloc (.cells #[.func (.func 22) #[] #[]] 66)).heap.size = w.heap.size + 1 := by simp
  have hc := (Blk.new w #[.func (.func 22) #[] #[]] 66).cells1
  have HA := Lib.hid (lsorted_any B1 B2 w.heap.size L _ hL hc (fun W hW => hit _ W (by omega) hW.size (hb0.trans (hW.mono hb0.size))))
  have HB0 := Lib.hid hb0
  clear hit hL hb0 hc hsz
  go_enter Try.func19, Try.ntmps19
  go_wp2_with (go_at_call 39; refine (HA.out).mono ?_; rintro e w1 ⟨a, n, c, ls, rfl, hin, hp, hb⟩; have HIN := Lib.hid hin; have HP := Lib.hid hp; have HB := Lib.hid hb; clear hin hp hb)
  go_ret
  exact ⟨a, n, c, ls, rfl, HIN.out, HP.out, HB0.out.trans (HB.out.mono HB0.out.size)⟩

set_option maxRecDepth 100000 in
theorem those_all (tb : Nat) (w : World) : Calls Try.prog 20 #[.pointer (some ⟨tb, 0, none⟩), .func (.func 21) #[] #[]] w fun e w' => e = .returned (.func (.func 43) #[] #[.pointer (some ⟨w.heap.size, 0, none⟩), .pointer (some ⟨w.heap.size + 1, 0, none⟩)]) ∧ w' = (w.alloc (.cells #[.pointer (some ⟨tb, 0, none⟩)] 25)).alloc (.cells #[.func (.func 21) #[] #[]] 56) := by
  go_enter Try.func20, Try.ntmps20
  go_wp2
  go_ret
  exact ⟨rfl, rfl⟩

set_option maxRecDepth 100000 in
theorem those_bound (tb Bb : Nat) (w : World) : Calls Try.prog 20 #[.pointer (some ⟨tb, 0, none⟩), .func (.func 33) #[] #[.pointer (some ⟨Bb, 0, none⟩)]] w fun e w' => e = .returned (.func (.func 43) #[] #[.pointer (some ⟨w.heap.size, 0, none⟩), .pointer (some ⟨w.heap.size + 1, 0, none⟩)]) ∧ w' = (w.alloc (.cells #[.pointer (some ⟨tb, 0, none⟩)] 25)).alloc (.cells #[.func (.func 33) #[] #[.pointer (some ⟨Bb, 0, none⟩)]] 56) := by
  go_enter Try.func20, Try.ntmps20
  go_wp2
  go_ret
  exact ⟨rfl, rfl⟩

theorem thoseL_len (f : Int → Le) (p : Le → Bool) : (thoseL f p).length ≤ 20 := by
  unfold thoseL
  refine Nat.le_trans (List.length_filter_le _ _) ?_
  rw [List.length_map]
  decide

set_option maxRecDepth 100000 in
theorem all_any (tb m nn : Nat) (f : Int → Le) (w : World) (hT : w.cell? ⟨tb, 0, none⟩ = some (.map (some m))) (htm : TabM w m nn 20 f) :
    Calls Try.prog 8 #[.pointer (some ⟨tb, 0, none⟩)] w fun e w' => ∃ (a : Option Addr) (n c : Nat) (ls : List Le), e = .returned (.slice a n c) ∧ LesIn w' a n c ls ∧ ls.Perm (thoseL f (fun _ => true)) ∧ Below w.heap.size w w' := by
  have k1 := Blk.new2' w #[.pointer (some ⟨tb, 0, none⟩)] 25 (.cells #[.func (.func 21) #[] #[]] 56)
  have k2 := Blk.new2 w (.cells #[.pointer (some ⟨tb, 0, none⟩)] 25) #[.func (.func 21) #[] #[]] 56
  have hbl := lowA (low0 w (.cells #[.pointer (some ⟨tb, 0, none⟩)] 25)) (.cells #[.func (.func 21) #[] #[]] 56)

  have hTl := World.block_lt_of_cell? w _ hT
  have hT1 := (hbl.cell (p := ⟨tb, 0, none⟩) hTl).trans hT
  have htm1 := htm.low hbl
  have HA := Lib.hid (tsorted_any w.heap.size (w.heap.size + 1) (thoseL f (fun _ => true)) _ (thoseL_len _ _) (fun h W h1 h2 hW => tall_iter w.heap.size (w.heap.size + 1) tb m nn 2 h f W h2 (Nat.lt_of_lt_of_le k1.lt h1) (Nat.lt_of_lt_of_le k2.lt h1) ((k1.keep hW).cells1) ((k2.keep hW).cells1) ((hW.cell (p := ⟨tb, 0, none⟩) (World.block_lt_of_cell? _ _ hT1)).trans hT1) (htm1.low hW) (by decide)))
  have HB := Lib.hid hbl
  clear hT htm k1 k2 hTl hT1 htm1 hbl
  go_enter Try.func8, Try.ntmps8
  go_wp2_with (first | (go_at_call 20; refine (those_all _ _).mono ?_; rintro e w1 ⟨rfl, rfl⟩) | (go_at_call 19; refine (HA.out).mono ?_; rintro e w1 ⟨a, n, c, ls, rfl, hin, hp, hb⟩; have HIN := Lib.hid hin; have HP := Lib.hid hp; have HB2 := Lib.hid hb; clear hin hp hb))
  go_ret
  exact ⟨a, n, c, ls, rfl, HIN.out, HP.out, low HB.out HB2.out⟩

set_option maxRecDepth 100000 in
theorem bound_any (tb m nn : Nat) (bd : Int) (f : Int → Le) (w : World) (hT : w.cell? ⟨tb, 0, none⟩ = some (.map (some m))) (htm : TabM w m nn 20 f) :
    Calls Try.prog 15 #[.pointer (some ⟨tb, 0, none⟩), .int .i64 bd] w fun e w' => ∃ (a : Option Addr) (n c : Nat) (ls : List Le), e = .returned (.slice a n c) ∧ LesIn w' a n c ls ∧ ls.Perm (thoseL f (fun l => decide (l.bind = bd))) ∧ Below w.heap.size w w' := by
  have kb := Blk.new w #[.int .i64 bd] 3
  have hb0 := low0 w (.cells #[.int .i64 bd] 3)
  have hTl := World.block_lt_of_cell? w _ hT
  have hT0 := (hb0.cell (p := ⟨tb, 0, none⟩) hTl).trans hT
  have htm0 := htm.low hb0
  have hs0 : (w.alloc (.cells #[.int .i64 bd] 3)).heap.size = w.heap.size + 1 := by simp
  obtain ⟨wb, hwb⟩ : ∃ x, (w.alloc (.cells #[.int .i64 bd] 3)) = x := ⟨_, rfl⟩
  obtain ⟨Bb, hBb⟩ : ∃ x, w.heap.size = x := ⟨_, rfl⟩
  rw [hwb] at kb hb0 hT0 htm0 hs0
  rw [hBb] at kb
  have k1 := Blk.new2' wb #[.pointer (some ⟨tb, 0, none⟩)] 25 (.cells #[.func (.func 33) #[] #[.pointer (some ⟨Bb, 0, none⟩)]] 56)
  have k2 := Blk.new2 wb (.cells #[.pointer (some ⟨tb, 0, none⟩)] 25) #[.func (.func 33) #[] #[.pointer (some ⟨Bb, 0, none⟩)]] 56
  have hbl := lowA (low0 wb (.cells #[.pointer (some ⟨tb, 0, none⟩)] 25)) (.cells #[.func (.func 33) #[] #[.pointer (some ⟨Bb, 0, none⟩)]] 56)

  have k3 := kb.keep hbl
  have hTl1 := World.block_lt_of_cell? wb _ hT0
  have hT1 := (hbl.cell (p := ⟨tb, 0, none⟩) hTl1).trans hT0
  have htm1 := htm0.low hbl
  have HA := Lib.hid (tsorted_any wb.heap.size (wb.heap.size + 1) (thoseL f (fun l => decide (l.bind = bd))) _ (thoseL_len _ _) (fun h W h1 h2 hW => tbound_iter wb.heap.size (wb.heap.size + 1) tb m nn 2 h Bb bd f W h2 (Nat.lt_of_lt_of_le k1.lt h1) (Nat.lt_of_lt_of_le k2.lt h1) ((k1.keep hW).cells1) ((k2.keep hW).cells1) ((hW.cell (p := ⟨tb, 0, none⟩) (World.block_lt_of_cell? _ _ hT1)).trans hT1) (htm1.low hW) (Nat.lt_of_lt_of_le k3.lt h1) ((k3.keep hW).cells1) (by decide)))
  have HB := Lib.hid hbl
  have HB0 := Lib.hid hb0
  have HWB := Lib.hid hwb
  clear hT htm k1 k2 hTl hT1 htm1 hbl kb hb0 hT0 htm0 hs0 k3 hTl1 hwb
  go_enter Try.func15, Try.ntmps15
  go_upto_region 1 with (fail)
  rw [HWB.out]
  go_wp2_with (first | (go_at_call 20; refine (those_bound _ _ _).mono ?_; rintro e w1 ⟨rfl, rfl⟩) | (go_at_call 19; refine (HA.out).mono ?_; rintro e w1 ⟨a, n, c, ls, rfl, hin, hp, hb⟩; have HIN := Lib.hid hin; have HP := Lib.hid hp; have HB2 := Lib.hid hb; clear hin hp hb))
  go_ret
  exact ⟨a, n, c, ls, rfl, HIN.out, HP.out, HB0.out.trans ((low HB.out HB2.out).mono HB0.out.size)⟩
/-- How many leases are bound so. -/
def countL (f : Int → Le) (bd : Int) : Nat := (thoseL f (fun l => decide (l.bind = bd))).length
set_option maxRecDepth 100000 in
theorem count_any (tb m nn : Nat) (bd : Int) (f : Int → Le) (w : World) (hT : w.cell? ⟨tb, 0, none⟩ = some (.map (some m))) (htm : TabM w m nn 20 f) :
    Calls Try.prog 6 #[.pointer (some ⟨tb, 0, none⟩), .int .i64 bd] w fun e w' => e = .returned (.int .i64 (countL f bd)) ∧ Below w.heap.size w w' := by
  have HA := Lib.hid (bound_any tb m nn bd f w hT htm)
  clear hT htm
  go_enter Try.func6, Try.ntmps6
  go_wp2_with (go_at_call 15; refine (HA.out).mono ?_; rintro e w1 ⟨a, n, c, ls, rfl, hin, hp, hb⟩; have HIN := Lib.hid hin; have HP := Lib.hid hp; have HB2 := Lib.hid hb; clear hin hp hb)
  go_ret
  exact ⟨ret_int (by have h1 := HP.out.length_eq; have h2 := HIN.out.1; unfold countL; omega), HB2.out⟩

end Go.Proofs.Ytmncpcchdhieoaa
