/- The library's sort of addresses: the picking. -/
import Derived.Test.YtmncpcchdhieoaaChecked
import Derived.WalkKit
import Derived.BigGuard
import Derived.BigCall
import Derived.CellFam
import Derived.Deep.Draws
import Derived.Deep.QuietTactic
import Derived.BigQuiet
import Derived.BigRegion
import Derived.Lib.Hide
import Derived.Below
import Derived.Laws.Rows
import Derived.Sort.Row
import Derived.ProofKit
import Derived.Deep.RegionHeld3
import Derived.OrdersHeld
import Derived.StillTailTactics
import Derived.Deep.CutBlock
import Derived.Deep.DeepCutAuto
import Derived.Deep.LoopGhost
import Derived.Sort.Walk7a
import Derived.Sort.WalkA14
import Derived.Sort.LotD1
import Derived.Laws.Bits64b
import Derived.Maps.Range
import Derived.Test.YtmncpcchdhieoaaSra
import Derived.Test.YtmncpcchdhieoaaSrb
import Derived.Test.YtmncpcchdhieoaaShelf
namespace Go.Proofs.Ytmncpcchdhieoaa
open Go.RowKit Go.Sort
set_option linter.unusedVariables false
set_option linter.unusedSimpArgs false
/-- A box of one number, that alone turns. -/
structure Box (w : World) (rb : Nat) (k : IntKind) (Y : Int) (W : World) : Prop where
  cell : W.cell? ⟨rb, 0, none⟩ = some (.int k Y)
  open_ : W.frozen? ⟨rb, 0, none⟩ = false
  grown : w.grownBy W (some rb)
theorem grown_refl (w : World) (row : Option Nat) : w.grownBy w row := ⟨rfl, rfl, rfl, Nat.le_refl _, fun _ _ _ => rfl⟩
theorem Box.refl {w : World} {rb : Nat} {k : IntKind} {Y : Int} (h : w.cell? ⟨rb, 0, none⟩ = some (.int k Y)) (hf : w.frozen? ⟨rb, 0, none⟩ = false) : Box w rb k Y w := ⟨h, hf, grown_refl _ _⟩
theorem Box.trans {w W V : World} {rb : Nat} {k : IntKind} {Y Z : Int} (h : Box w rb k Y W) (i : Box W rb k Z V) : Box w rb k Z V := ⟨i.cell, i.open_, grown_trans h.grown i.grown⟩
theorem Box.set {w W : World} {rb : Nat} {k : IntKind} {Y : Int} (h : Box w rb k Y W) (Z : Int) : Box w rb k Z ((W.setCell ⟨rb, 0, none⟩ (.int k Z)).drew) :=
  ⟨by rw [World.cell?_drew]; exact World.cell?_setCell_same' _ _ _ (by rw [h.cell]; rfl), by rw [World.frozen?_drew, World.frozen?_setCell]; exact h.open_, grown_trans h.grown ⟨rfl, rfl, rfl, by simp [World.setCell, World.drew], fun k _ hk => Below.heap_setCell W ⟨rb, 0, none⟩ _ k (fun e => hk (by rw [e]))⟩⟩
theorem Box.set0 {w W : World} {rb : Nat} {k : IntKind} {Y : Int} (h : Box w rb k Y W) (Z : Int) : Box w rb k Z (W.setCell ⟨rb, 0, none⟩ (.int k Z)) :=
  ⟨World.cell?_setCell_same' _ _ _ (by rw [h.cell]; rfl), by rw [World.frozen?_setCell]; exact h.open_, grown_trans h.grown (touched W rb 0 _)⟩
theorem Box.drewN {w W : World} {rb : Nat} {k : IntKind} {Y : Int} (h : Box w rb k Y W) (n : Nat) : Box w rb k Y (W.drewN n) :=
  ⟨by rw [World.cell?_drewN]; exact h.cell, by rw [World.frozen?_drewN]; exact h.open_, grown_trans h.grown ⟨rfl, rfl, rfl, Nat.le_refl _, fun _ _ _ => rfl⟩⟩
theorem RowU.kept {w w' : World} {g : Nat} {d : Array Int} {row : Option Nat} (h : RowU w g d) (hg : g < w.heap.size) (k : w.grownBy w' row) (hne : some g ≠ row) : RowU w' g d := fun j hj => by
  have e := k.block g hg hne
  exact ⟨(World.cell?_of_block (w := w) e).trans (h j hj).1, (World.frozen?_of_block (w := w) e).trans (h j hj).2⟩
theorem xor_8192 (Y : Nat) (h : Y < 18446744073709551616) : ∃ Z : Nat, Z < 18446744073709551616 ∧ bits .xor .u64 (Y : Int) (IntKind.u64.wrap ((Y : Int) * 8192)) = (Z : Int) := by
  refine ⟨Y ^^^ (Y * 8192 % 18446744073709551616), Nat.xor_lt_two_pow (n := 64) (by omega) (by omega), ?_⟩
  rw [IntKind.wrap_u64, show ((Y : Int) * 8192 % 18446744073709551616) = ((Y * 8192 % 18446744073709551616 : Nat) : Int) by omega, bits_xor_u64_nat _ _ h (by omega)]
theorem xor_131072 (Y : Nat) (h : Y < 18446744073709551616) : ∃ Z : Nat, Z < 18446744073709551616 ∧ bits .xor .u64 (Y : Int) (IntKind.u64.wrap ((Y : Int) * 131072)) = (Z : Int) := by
  refine ⟨Y ^^^ (Y * 131072 % 18446744073709551616), Nat.xor_lt_two_pow (n := 64) (by omega) (by omega), ?_⟩
  rw [IntKind.wrap_u64, show ((Y : Int) * 131072 % 18446744073709551616) = ((Y * 131072 % 18446744073709551616 : Nat) : Int) by omega, bits_xor_u64_nat _ _ h (by omega)]
theorem xor7 (Y : Nat) (h : Y < 18446744073709551616) : ∃ Z : Nat, Z < 18446744073709551616 ∧ bits .xor .u64 (Y : Int) ((Y : Int) / 128) = (Z : Int) := by
  refine ⟨Y ^^^ (Y / 128), Nat.xor_lt_two_pow (n := 64) (by omega) (by omega), ?_⟩
  rw [show ((Y : Int) / 128) = ((Y / 128 : Nat) : Int) by omega, bits_xor_u64_nat _ _ h (by omega)]
theorem xor_any (rb : Nat) (X : Nat) (hX : X < 18446744073709551616) (w : World) (hp : w.cell? ⟨rb, 0, none⟩ = some (.int .u64 X)) (hpf : w.frozen? ⟨rb, 0, none⟩ = false) :
    Calls Try.prog 71 #[.pointer (some ⟨rb, 0, none⟩)] w fun e w' => ∃ Y : Nat, Y < 18446744073709551616 ∧ e = .returned (.int .u64 Y) ∧ Box w rb .u64 Y w' := by
  have HB := Lib.hid (show Box w rb .u64 X w from Box.refl hp hpf)
  go_enter Try.func71, Try.ntmps71
  go_wp2
  obtain ⟨Z1, hZ1, eZ1⟩ := xor_8192 X hX
  go_cut [2] from 3 (fun v wx => v = .int .u64 0 ∧ ∃ Y : Nat, Y < 18446744073709551616 ∧ Box w rb .u64 Y wx)
  case first =>
    go_region
    all_goals go_wp2_with (fail)
    all_goals go_meet
    all_goals exact ⟨rfl, _, hZ1, HB.out.set _⟩
  case rest =>
    obtain ⟨rfl, Y1, hY1, hb1⟩ := hcut
    clear eZ1
    have hp := hb1.cell
    have hpf := hb1.open_
    have HB := Lib.hid hb1
    clear hb1
    go_wp2
    obtain ⟨Z2, hZ2, eZ2⟩ := xor7 Y1 hY1
    go_cut [2] from 3 (fun v wx => v = .int .u64 0 ∧ ∃ Y : Nat, Y < 18446744073709551616 ∧ Box w rb .u64 Y wx)
    case first =>
      go_region
      all_goals go_wp2_with (fail)
      all_goals go_meet
      all_goals exact ⟨rfl, _, hZ2, HB.out.set _⟩
    case rest =>
      obtain ⟨rfl, Y2, hY2, hb2⟩ := hcut
      clear eZ2
      have hp := hb2.cell
      have hpf := hb2.open_
      have HB := Lib.hid hb2
      clear hb2
      go_wp2
      obtain ⟨Z3, hZ3, eZ3⟩ := xor_131072 Y2 hY2
      go_cut [2] from 3 (fun v wx => v = .int .u64 0 ∧ ∃ Y : Nat, Y < 18446744073709551616 ∧ Box w rb .u64 Y wx)
      case first =>
        go_region
        all_goals go_wp2_with (fail)
        all_goals go_meet
        all_goals exact ⟨rfl, _, hZ3, HB.out.set _⟩
      case rest =>
        obtain ⟨rfl, Y3, hY3, hb3⟩ := hcut
        clear eZ3
        have hp := hb3.cell
        have hpf := hb3.open_
        have HB := Lib.hid hb3
        clear hb3
        go_wp2
        go_ret
        exact ⟨_, hY3, rfl, HB.out⟩
theorem npt_any (x : Nat) (h1 : 1 ≤ x) (hx : x ≤ 1000000) (w : World) :
    Calls Try.prog 70 #[.int .i64 x] w fun e w' => ∃ m : Nat, 1 ≤ m ∧ m ≤ 2 * x ∧ e = .returned (.int .u64 m) ∧ w' = w := by
  have hLen : ∀ w, Calls Try.prog 35 #[.int .u64 (x : Int)] w fun e w' => e = .returned (.int .i64 (bitsLen x : Nat)) ∧ w' = w := fun w => by
    have h := Try.bits_Len (x : Int) w (by omega) (by omega)
    rwa [Int.toNat_natCast, bitLen_eq _ (by omega)] at h
  have hk : bitsLen x ≤ 62 := (bitsLen_le_iff x 62).2 (by omega)
  have hp := wrap_two_pow (bitsLen x) hk
  have hm := two_pow_bitsLen_le (n := x) (by omega)
  have hm0 : 1 ≤ 2 ^ bitsLen x := Nat.one_le_two_pow
  have HM := Lib.hid hm
  have HM0 := Lib.hid hm0
  clear hm hm0
  go_enter Try.func70, Try.ntmps70
  go_wp2_with (first | (go_at_call 35; refine (hLen _).mono ?_; rintro e w' ⟨rfl, rfl⟩))
  go_ret
  exact ⟨1 <<< bitsLen x, by rw [Nat.one_shiftLeft]; exact HM0.out, by rw [Nat.one_shiftLeft]; exact HM.out, rfl, rfl⟩
set_option maxRecDepth 100000 in
set_option maxHeartbeats 2000000 in
theorem order2_any (g n c : Nat) (d : Array Int) (hd : d.size = n) (hn : n ≤ 1000000) (lo hi x y : Nat) (hx : lo ≤ x ∧ x < hi) (hy : lo ≤ y ∧ y < hi) (hh : hi ≤ n) (rb : Nat) (hne : rb ≠ g) (k : Nat) (hk : k < 1000) (w : World) (hrow : RowU w g d) (hg : g < w.heap.size) (hp : w.cell? ⟨rb, 0, none⟩ = some (.int .i64 k)) (hpf : w.frozen? ⟨rb, 0, none⟩ = false) :
    Calls Try.prog 86 #[.slice (some ⟨g, 0, none⟩) n c, .int .i64 x, .int .i64 y, .pointer (some ⟨rb, 0, none⟩)] w fun e w' => ∃ (p q k' : Nat), (lo ≤ p ∧ p < hi) ∧ (lo ≤ q ∧ q < hi) ∧ k' ≤ k + 1 ∧ e = .returned (.tuple #[.int .i64 p, .int .i64 q]) ∧ Box w rb .i64 k' w' := by
  have HB := Lib.hid (show Box w rb .i64 k w from Box.refl hp hpf)
  have hs0 := Sorting.refl hrow
  have HD := Lib.hid hd
  have H0 := Lib.hid hs0
  have sz0 : d.size = n := hs0.size.trans HD.out
  obtain ⟨G0, hG0⟩ : ∃ G : Nat → Int, ∀ t, G t = d[t]! := ⟨fun t => d[t]!, fun _ => rfl⟩
  have cw0 : ∀ t, t < n → World.cell? w ⟨g, t, none⟩ = some (.int .u32 (G0 t)) := fun t ht => by rw [hG0]; exact (hs0.row t (by omega)).1
  have fw0 : ∀ t, t < n → World.frozen? w ⟨g, t, none⟩ = false := fun t ht => (hs0.row t (by omega)).2
  have HG0 := Lib.hid hG0
  have HSZ0 := Lib.hid sz0
  clear hs0 hG0 sz0
  clear hd hrow
  have a1 : (0 : Int) ≤ (x : Int) := by omega
  have a2 : (x : Int) < n := by omega
  have a3 : (0 : Int) ≤ (y : Int) := by omega
  have a4 : (y : Int) < n := by omega
  have b2 : x < n := by omega
  have b4 : y < n := by omega
  go_enter Try.func86, Try.ntmps86
  go_wp2
  go_quiet (first | (go_at_call 56; first | exact Calls.quiet_of_same (less_any _ _ _) | exact less_quiet _ _ _ _ _))
  go_wp2
  · go_ret2
    refine ⟨y, x, k + 1, hy, hx, by omega, rfl, ?_⟩
    exact (HB.out.drewN _).set0 _
  · go_ret2
    exact ⟨x, y, k, hx, hy, by omega, rfl, HB.out.drewN _⟩
set_option maxRecDepth 100000 in
set_option maxHeartbeats 2000000 in
theorem median_any (g n c : Nat) (d : Array Int) (hd : d.size = n) (hn : n ≤ 1000000) (lo hi x y z : Nat) (hx : lo ≤ x ∧ x < hi) (hy : lo ≤ y ∧ y < hi) (hz : lo ≤ z ∧ z < hi) (hh : hi ≤ n) (rb : Nat) (hne : rb ≠ g) (k : Nat) (hk : k < 900) (w : World) (hrow : RowU w g d) (hg : g < w.heap.size) (hp : w.cell? ⟨rb, 0, none⟩ = some (.int .i64 k)) (hpf : w.frozen? ⟨rb, 0, none⟩ = false) :
    Calls Try.prog 73 #[.slice (some ⟨g, 0, none⟩) n c, .int .i64 x, .int .i64 y, .int .i64 z, .pointer (some ⟨rb, 0, none⟩)] w fun e w' => ∃ (p k' : Nat), (lo ≤ p ∧ p < hi) ∧ k' ≤ k + 3 ∧ e = .returned (.int .i64 p) ∧ Box w rb .i64 k' w' := by
  have HB : Box w rb .i64 k w := Box.refl hp hpf
  have hne' : some g ≠ some rb := fun e => hne (by injection e with e; exact e.symm)
  have HD := Lib.hid hd
  have HROW := Lib.hid hrow
  clear hd hrow
  clear hp hpf
  go_enter Try.func73, Try.ntmps73
  go_wp2_with (go_at_call 86; (with_reducible refine (order2_any g n c d HD.out hn lo hi _ _ (by omega) (by omega) hh rb hne _ (by omega) _ (HROW.out.kept hg HB.grown hne') (Nat.lt_of_lt_of_le hg HB.grown.size) HB.cell HB.open_).mono ?_); rintro e w1 ⟨p, q, k', h1, h2, h3, rfl, hb⟩; replace HB := HB.trans hb)
  go_ret
  exact ⟨_, _, by assumption, by omega, rfl, HB⟩
theorem median_int (g n c : Nat) (d : Array Int) (hd : d.size = n) (hn : n ≤ 1000000) (lo hi : Nat) (x y z : Int) (hx : (lo : Int) ≤ x ∧ x < hi) (hy : (lo : Int) ≤ y ∧ y < hi) (hz : (lo : Int) ≤ z ∧ z < hi) (hh : hi ≤ n) (rb : Nat) (hne : rb ≠ g) (k : Nat) (hk : k < 900) (w : World) (hrow : RowU w g d) (hg : g < w.heap.size) (hp : w.cell? ⟨rb, 0, none⟩ = some (.int .i64 k)) (hpf : w.frozen? ⟨rb, 0, none⟩ = false) :
    Calls Try.prog 73 #[.slice (some ⟨g, 0, none⟩) n c, .int .i64 x, .int .i64 y, .int .i64 z, .pointer (some ⟨rb, 0, none⟩)] w fun e w' => ∃ (p k' : Nat), (lo ≤ p ∧ p < hi) ∧ k' ≤ k + 3 ∧ e = .returned (.int .i64 p) ∧ Box w rb .i64 k' w' := by
  obtain ⟨x, rfl⟩ := Int.eq_ofNat_of_zero_le (show 0 ≤ x by omega)
  obtain ⟨y, rfl⟩ := Int.eq_ofNat_of_zero_le (show 0 ≤ y by omega)
  obtain ⟨z, rfl⟩ := Int.eq_ofNat_of_zero_le (show 0 ≤ z by omega)
  exact median_any g n c d hd hn lo hi x y z (by omega) (by omega) (by omega) hh rb hne k hk w hrow hg hp hpf
set_option maxRecDepth 100000 in
set_option maxHeartbeats 2000000 in
theorem medadj_any (g n c : Nat) (d : Array Int) (hd : d.size = n) (hn : n ≤ 1000000) (lo hi : Nat) (x : Int) (hx : (lo : Int) ≤ x - 1 ∧ x + 1 < hi) (hh : hi ≤ n) (rb : Nat) (hne : rb ≠ g) (k : Nat) (hk : k < 900) (w : World) (hrow : RowU w g d) (hg : g < w.heap.size) (hp : w.cell? ⟨rb, 0, none⟩ = some (.int .i64 k)) (hpf : w.frozen? ⟨rb, 0, none⟩ = false) :
    Calls Try.prog 72 #[.slice (some ⟨g, 0, none⟩) n c, .int .i64 x, .pointer (some ⟨rb, 0, none⟩)] w fun e w' => ∃ (p k' : Nat), (lo ≤ p ∧ p < hi) ∧ k' ≤ k + 3 ∧ e = .returned (.int .i64 p) ∧ Box w rb .i64 k' w' := by
  have HB : Box w rb .i64 k w := Box.refl hp hpf
  have hne' : some g ≠ some rb := fun e => hne (by injection e with e; exact e.symm)
  have HD := Lib.hid hd
  have HROW := Lib.hid hrow
  clear hd hrow
  clear hp hpf
  go_enter Try.func72, Try.ntmps72
  go_wp2_with (go_at_call 73; (with_reducible refine (median_int g n c d HD.out hn lo hi _ _ _ (by omega) (by omega) (by omega) hh rb hne _ (by omega) _ (HROW.out.kept hg HB.grown hne') (Nat.lt_of_lt_of_le hg HB.grown.size) HB.cell HB.open_).mono ?_); rintro e w1 ⟨p, k', h1, h3, rfl, hb⟩; replace HB := HB.trans hb)
  go_ret
  exact ⟨_, _, by assumption, by omega, rfl, HB⟩
set_option maxRecDepth 100000 in
set_option maxHeartbeats 2000000 in
theorem choose_any (g n c : Nat) (d : Array Int) (hd : d.size = n) (hn : n ≤ 1000000) (a b : Nat) (hab : a + 8 ≤ b) (hh : b ≤ n) (w : World) (hrow : RowU w g d) (hg : g < w.heap.size) :
    Calls Try.prog 53 #[.slice (some ⟨g, 0, none⟩) n c, .int .i64 a, .int .i64 b] w fun e w' => ∃ (p : Nat) (h : Int), (a ≤ p ∧ p < b) ∧ e = .returned (.tuple #[.int .i64 p, .int .i64 h]) ∧ w.grownBy w' none := by
  have HD := Lib.hid hd
  have HROW := Lib.hid hrow
  clear hd hrow
  obtain ⟨z, hz, hz4⟩ : ∃ z : Nat, ((b : Int) - a).tdiv 4 = z ∧ z = (b - a) / 4 := ⟨(b - a) / 4, by rw [Int.tdiv_eq_ediv_of_nonneg (by omega)]; omega, rfl⟩
  have hz5 : a + 4 * z ≤ b := by omega
  have HZ4 := Lib.hid hz4
  clear hz4
  go_enter Try.func53, Try.ntmps53
  go_upto_region 3 with (fail)
  have hcN := cell_of_row (w.alloc (.cells #[.int .i64 0] 3)) w.heap.size 0 #[.int .i64 0] 3 _ (heap_alloc_new w _)
  have hfN := frozen_of_row (w.alloc (.cells #[.int .i64 0] 3)) w.heap.size 0 #[.int .i64 0] 3 (heap_alloc_new w _)
  have hGN : w.grownBy (w.alloc (.cells #[.int .i64 0] 3)) none := World.grownBy_alloc w _ none
  have hROWN := HROW.out.kept hg hGN (by simp)
  have hgN : g < (w.alloc (.cells #[.int .i64 0] 3)).heap.size := Nat.lt_of_lt_of_le hg hGN.size
  generalize w.alloc (.cells #[.int .i64 0] 3) = W at hcN hfN hGN hROWN hgN ⊢
  have HROW := Lib.hid hROWN
  have hne : w.heap.size ≠ g := by omega
  have hne' : some g ≠ some w.heap.size := by simp; omega
  obtain ⟨rb, hrb⟩ : ∃ rb, rb = w.heap.size := ⟨_, rfl⟩
  rw [← hrb] at hcN hfN hne hne' ⊢
  have HB : Box W rb .i64 ((0 : Nat) : Int) W := Box.refl hcN hfN
  have HRB := Lib.hid hrb
  have hg := hgN
  clear hcN hfN hROWN hrb hgN
  go_wp2_with (first | (go_at_call 72; (with_reducible refine (medadj_any g n c d HD.out hn a b _ (by have h4 := HZ4.out; omega) hh rb hne _ (by omega) _ (HROW.out.kept hg HB.grown hne') (Nat.lt_of_lt_of_le hg HB.grown.size) HB.cell HB.open_).mono ?_); rintro e w1 ⟨p, k', h1, h3, rfl, hb⟩; replace HB := HB.trans hb) | (go_at_call 73; (with_reducible refine (median_int g n c d HD.out hn a b _ _ _ (by have h4 := HZ4.out; omega) (by have h4 := HZ4.out; omega) (by have h4 := HZ4.out; omega) hh rb hne _ (by omega) _ (HROW.out.kept hg HB.grown hne') (Nat.lt_of_lt_of_le hg HB.grown.size) HB.cell HB.open_).mono ?_); rintro e w1 ⟨p, k', h1, h3, rfl, hb⟩; replace HB := HB.trans hb; have hcell := HB.cell; have hfr := HB.open_))
  all_goals go_ret2
  all_goals exact ⟨_, _, by first | assumption | (have h4 := HZ4.out; constructor <;> omega), rfl, hGN.andThen HB.grown (fun j e => Or.inl (by injection e with e; have := HRB.out; omega))⟩
end Go.Proofs.Ytmncpcchdhieoaa
