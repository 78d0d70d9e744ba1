/- The law. -/
import Derived.Test.YtmncpcchdhieoaaSts
import Derived.Test.YtmncpcchdhieoaaPlx
import Derived.Deep.CutBlock
import Derived.Deep.DeepCutAuto
import Derived.Deep.LoopGhost
namespace Go.Proofs.Ytmncpcchdhieoaa
open Go.ChangeShapes Go.WideShapes Go.ChangeAt Go.RowKit
set_option linter.unusedVariables false
set_option linter.unusedSimpArgs false

open Flo (partV)

theorem run_store_float (P : Program) (w : World) (a : Addr) (k : FloatKind) (x : Nat) (m : Mode) : (store a (.float k x) m).run P w = stored P w a (.float k x) m := run_store P w a _ m rfl
attribute [local go_sem] run_store_float

theorem st_set {W : World} {tb m : Nat} {X : Array Value} {t : TypeId} {nn : Nat} {f : Int → Le} {w w' : World} {r : Int} {l : Le} (h : StT W tb m W.heap.size X t nn f w) (hg : w.grownBy w' (some m)) (hsm : W.heap.size < m) (hne : tb ≠ m)
    (hs : (r = 0 ∧ SetOk l ∧ TabM w' m (nn + 1) 20 (upd f l.adr l)) ∨ (r ≠ 0 ∧ ¬ SetOk l ∧ TabM w' m nn 20 f)) : ∃ nn' f', nn' ≤ nn + 1 ∧ StT W tb m W.heap.size X t nn' f' w' := by
  rcases hs with ⟨_, hok, hm⟩ | ⟨_, _, hm⟩
  · exact ⟨nn + 1, _, Nat.le_refl _, h.set hg hne (by omega) (by omega) hm (inv_upd h.inv hok.1.1.2.2.2.2)⟩
  · exact ⟨nn, f, Nat.le_succ _, h.set hg hne (by omega) (by omega) hm h.inv⟩

set_option maxRecDepth 100000 in
set_option maxHeartbeats 4000000 in
theorem walk_TopShares (a0_0 : Nat) (a0_1 : Nat) (a1 : Option Addr) (n1 : Nat) (c1 : Nat) (x1 : List (List Value)) (W : World) (w0_0 : (Lit.float .f64 a0_0).wf = true) (w0_1 : (Lit.float .f64 a0_1).wf = true) (sl1 : SliceIn W [.int .u32, .int .i64, .str, .int .i64, .int .i64, .int .i64, .int .i64, .int .i64] a1 n1 c1 x1) (z1 : n1 * 72 ≤ 140737488351232) :
    Calls Try.prog 3 #[.agg #[.float .f64 a0_0, .float .f64 a0_1], .slice a1 n1 c1] W fun e w' => e = .returned (.bool true) ∧ Below W.heap.size W w' := by
  obtain ⟨ls, hin, hwf⟩ := les_of sl1
  have HP64 := Lib.hid (show a0_0 < 2 ^ 64 from by simpa [Lit.wf] using w0_0)
  have HIN := Lib.hid hin
  have HWF := Lib.hid hwf
  have hnc := hin.2.1
  have hcm : c1 ≤ 9223372036854775807 := by have := hin.2.2.1; unfold maxLen at this; omega
  have hb0 := lowA (low0 W (.cells #[.float .f64 a0_0, .float .f64 a0_1] 23)) (.cells #[.int .u32 1, .int .u32 20] 32)
  have k1 := Blk.new2' W #[.float .f64 a0_0, .float .f64 a0_1] 23 (.cells #[.int .u32 1, .int .u32 20] 32)
  have k2 := (Blk.new2 W (.cells #[.float .f64 a0_0, .float .f64 a0_1] 23) #[.int .u32 1, .int .u32 20] 32).cells2
  have HRG := Lib.hid (show RgIs ((W.alloc (.cells #[.float .f64 a0_0, .float .f64 a0_1] 23)).alloc (.cells #[.int .u32 1, .int .u32 20] 32)) (W.heap.size + 1) from k2)
  have hs0 : ((W.alloc (.cells #[.float .f64 a0_0, .float .f64 a0_1] 23)).alloc (.cells #[.int .u32 1, .int .u32 20] 32)).heap.size = W.heap.size + 2 := by simp
  have HK1 := Lib.hid k1
  have HB0 := Lib.hid hb0
  have HS0 := Lib.hid hs0
  clear hin hwf hb0 k1 k2 hs0 sl1 z1 w0_0 w0_1
  go_enter Try.func3, Try.ntmps3
  go_upto_region 4 with (go_at_call 4; (with_reducible refine (new_any _ _ _ HRG.out).mono ?_); rintro e w1 ⟨tb, m, rfl, ht, htm, hb1, hb2, hne, hx⟩)
  have hsm : W.heap.size < m := by rw [HS0.out] at hb2; omega
  have HST := Lib.hid (show StT W tb m W.heap.size #[.float .f64 a0_0, .float .f64 a0_1] 23 20 bareF w1 from ⟨ht, htm, inv_bare, HK1.out.keep hx, low HB0.out hx⟩)
  have HSM := Lib.hid hsm
  have HTM := Lib.hid hne
  have HTB := Lib.hid hb1
  clear ht htm hb1 hb2 hne hx HRG HK1 HB0 HS0 hsm
  go_upto_block 0 with fail
  go_cut [7] from 30 to 52 (fun s wx => ∃ (nn : Nat) (f : Int → Le), nn ≤ 120 ∧ StT W tb m W.heap.size #[.float .f64 a0_0, .float .f64 a0_1] 23 nn f wx)
  case first =>
    go_wp2_with fail
    go_loopw [7] (fun i wr => ∃ (k nn : Nat) (f : Int → Le), k ≤ n1 ∧ k ≤ 100 ∧ nn ≤ 20 + k ∧ i = .int .i64 k ∧ StT W tb m W.heap.size #[.float .f64 a0_0, .float .f64 a0_1] 23 nn f wr) (fun i _ => n1 - (intOf i).toNat)
    case atStart => exact ⟨0, 20, bareF, by omega, by omega, by omega, rfl, HST.out⟩
    case round =>
      obtain ⟨k, nn, f, hk, hk2, hnn, rfl, hst⟩ := hrel
      have HSR := Lib.hid hst
      clear hst
      by_cases hlt : k < n1 ∧ k < 100
      · obtain ⟨hl1, hl2⟩ := hlt
        obtain ⟨g, o, p, rfl, hg, hp, c0, c1', c2, c3, c4, c5, c6, c7⟩ := (HIN.out.keep HSR.out.low).get hl1
        have HP := Lib.hid hp
        have hsz := HWF.out p (List.mem_of_getElem? hp)
        have HSZ := Lib.hid hsz
        clear hp hg hsz
        by_cases hs : 100 < p.cli.size
        · have g1 : decide ((100 : Int) < p.cli.size) = true := decide_eq_true (by omega)
          go_wp2
          go_ret
          exact ⟨rfl, HSR.out.low⟩
        · have g1 : decide ((100 : Int) < p.cli.size) = false := decide_eq_false (by omega)
          have HNN := Lib.hid (show nn < 10000 by omega)
          go_wp2_with (go_at_call 5; (with_reducible refine (set_any _ _ _ _ _ _ _ _ tb m nn f _ HSR.out.tab HSR.out.map HNN.out HSZ.out).mono ?_); rintro e w2 ⟨r, rfl, hgr, hset⟩; have HGR := Lib.hid hgr; have HSET := Lib.hid hset; clear hgr hset)
          go_roundw
          case rel =>
            obtain ⟨nn', f', hn', hst'⟩ := st_set HSR.out HGR.out HSM.out HTM.out HSET.out
            exact ⟨k + 1, nn', f', by omega, by omega, by omega, by first | rfl | go_num, hst'⟩
          case measure => simp [intOf]; omega
      · have HK9 := Lib.hid (show nn ≤ 120 by omega)
        by_cases hl1 : k < n1
        · have hl2 : ¬ k < 100 := fun h => hlt ⟨hl1, h⟩
          clear hlt
          go_wp2
          go_meet
          exact ⟨nn, f, HK9.out, HSR.out⟩
        · clear hlt
          go_wp2
          go_meet
          exact ⟨nn, f, HK9.out, HSR.out⟩

  case rest =>
    obtain ⟨nn, f, hnn, hst⟩ := hcut
    have HNN := Lib.hid hnn
    have HS1 := Lib.hid hst
    clear hnn hst HST HIN HWF hnc hcm
    obtain ⟨x0, x1'⟩ := HS1.out.blk.cells2
    go_upto_block 2 with fail
    have hbz := lowA (low0 wc (.cells #[.float .f64 a0_0, .float .f64 a0_1] 38)) (.cells #[.int .i64 0, .int .i64 0, .int .i64 0, .int .i64 0, .int .i64 0, .int .i64 0] 39)
    have hpb := Blk.new2' wc #[.float .f64 a0_0, .float .f64 a0_1] 38 (.cells #[.int .i64 0, .int .i64 0, .int .i64 0, .int .i64 0, .int .i64 0, .int .i64 0] 39)
    have hhb := Blk.new2 wc (.cells #[.float .f64 a0_0, .float .f64 a0_1] 38) #[.int .i64 0, .int .i64 0, .int .i64 0, .int .i64 0, .int .i64 0, .int .i64 0] 39
    have hst2 := HS1.out.keep hbz
    have hml := HS1.out.map.lt
    have htl := World.block_lt_of_cell? _ _ HS1.out.tab
    have hwl := HS1.out.low.size
    have hne2 : wc.heap.size ≠ wc.heap.size + 1 := by omega
    have hlow2 : W.heap.size ≤ wc.heap.size + 1 := by omega
    have hne3 : tb ≠ wc.heap.size + 1 := by simp only at htl; omega
    have hne4 : wc.heap.size + 1 ≠ m := by omega
    have hne5 : wc.heap.size ≠ m := by omega
    generalize (wc.alloc (.cells #[.float .f64 a0_0, .float .f64 a0_1] 38)).alloc (.cells #[.int .i64 0, .int .i64 0, .int .i64 0, .int .i64 0, .int .i64 0, .int .i64 0] 39) = w3 at *
    generalize wc.heap.size + 1 = hb at *
    generalize wc.heap.size = pb at *
    have HP2 := Lib.hid (show StP W tb m pb hb a0_0 a0_1 (heldA f 2) nn f w3 from ⟨⟨hst2.tab, hst2.map, hst2.inv, hpb, hst2.low⟩, hhb⟩)
    have HE2 := Lib.hid hne2
    have HL2 := Lib.hid hlow2
    have HE3 := Lib.hid hne3
    have HE4 := Lib.hid hne4
    have HE5 := Lib.hid hne5
    clear hbz hpb hhb hst2 hml htl hwl hne2 hlow2 hne3 hne4 hne5 x0 x1' HS1
    go_cut [10] from 59 to 67 (fun s wx => StP W tb m pb hb a0_0 a0_1 (heldA f 6) nn f wx)
    case first =>
      go_wp2_with fail
      go_loopw [10] (fun i wr => ∃ k : Nat, 2 ≤ k ∧ k ≤ 6 ∧ i = .int .i64 k ∧ StP W tb m pb hb a0_0 a0_1 (heldA f k) nn f wr) (fun i _ => 6 - (intOf i).toNat)
      case atStart => exact ⟨2, by omega, by omega, rfl, HP2.out⟩
      case round =>
        obtain ⟨k, hk2, hk6, rfl, hst⟩ := hrel
        have HST := Lib.hid hst
        clear hst
        have hkk : k = 2 ∨ k = 3 ∨ k = 4 ∨ k = 5 ∨ k = 6 := by omega
        clear hk2 hk6
        rcases hkk with rfl | rfl | rfl | rfl | rfl
        · go_wp2_with (go_at_call 6; (with_reducible refine (count_any tb m nn 2 f _ HST.out.st.tab HST.out.st.map).mono ?_); rintro e w4 ⟨rfl, hx⟩; have HX := Lib.hid (HST.out.keep hx); obtain ⟨v0, v1, v2, v3, v4, v5⟩ := HX.out.hd.cells6; have zf := HX.out.hd.free; clear hx)
          go_roundw
          case rel => exact ⟨3, by omega, by omega, by first | rfl | go_num, by have h := HX.out.put HE3.out HE2.out HL2.out 2 (.int .i64 (countL f 2 : Nat)); rw [show (heldA f 2).setIfInBounds 2 (.int .i64 (countL f 2 : Nat)) = heldA f 3 from by rw [countL_cnt]; simp [heldA]] at h; exact h⟩
          case measure => simp [intOf]
        · go_wp2_with (go_at_call 6; (with_reducible refine (count_any tb m nn 3 f _ HST.out.st.tab HST.out.st.map).mono ?_); rintro e w4 ⟨rfl, hx⟩; have HX := Lib.hid (HST.out.keep hx); obtain ⟨v0, v1, v2, v3, v4, v5⟩ := HX.out.hd.cells6; have zf := HX.out.hd.free; clear hx)
          go_roundw
          case rel => exact ⟨4, by omega, by omega, by first | rfl | go_num, by have h := HX.out.put HE3.out HE2.out HL2.out 3 (.int .i64 (countL f 3 : Nat)); rw [show (heldA f 3).setIfInBounds 3 (.int .i64 (countL f 3 : Nat)) = heldA f 4 from by rw [countL_cnt]; simp [heldA]] at h; exact h⟩
          case measure => simp [intOf]
        · go_wp2_with (go_at_call 6; (with_reducible refine (count_any tb m nn 4 f _ HST.out.st.tab HST.out.st.map).mono ?_); rintro e w4 ⟨rfl, hx⟩; have HX := Lib.hid (HST.out.keep hx); obtain ⟨v0, v1, v2, v3, v4, v5⟩ := HX.out.hd.cells6; have zf := HX.out.hd.free; clear hx)
          go_roundw
          case rel => exact ⟨5, by omega, by omega, by first | rfl | go_num, by have h := HX.out.put HE3.out HE2.out HL2.out 4 (.int .i64 (countL f 4 : Nat)); rw [show (heldA f 4).setIfInBounds 4 (.int .i64 (countL f 4 : Nat)) = heldA f 5 from by rw [countL_cnt]; simp [heldA]] at h; exact h⟩
          case measure => simp [intOf]
        · go_wp2_with (go_at_call 6; (with_reducible refine (count_any tb m nn 5 f _ HST.out.st.tab HST.out.st.map).mono ?_); rintro e w4 ⟨rfl, hx⟩; have HX := Lib.hid (HST.out.keep hx); obtain ⟨v0, v1, v2, v3, v4, v5⟩ := HX.out.hd.cells6; have zf := HX.out.hd.free; clear hx)
          go_roundw
          case rel => exact ⟨6, by omega, by omega, by first | rfl | go_num, by have h := HX.out.put HE3.out HE2.out HL2.out 5 (.int .i64 (countL f 5 : Nat)); rw [show (heldA f 5).setIfInBounds 5 (.int .i64 (countL f 5 : Nat)) = heldA f 6 from by rw [countL_cnt]; simp [heldA]] at h; exact h⟩
          case measure => simp [intOf]
        · go_wp2
          go_meet
          exact HST.out
    case rest =>
      have HPR := Lib.hid hcut
      clear hcut HP2
      go_upto_block 4 with fail
      go_cut [11, 12, 13, 14, 15, 16] from 68 to 110 (fun s1 s2 s3 s4 s5 s6 wx => ∃ (n2 : Nat) (f2 : Int → Le), Sh a0_0 a0_1 f f2 2 ∧ n2 ≤ 9000 ∧ StP W tb m pb hb a0_0 a0_1 (heldA f 6) n2 f2 wx)
      case first =>
        go_wp2_with fail
        go_loopw [11] (fun i wr => ∃ (d n2 : Nat) (f2 : Int → Le), d ≤ 2 ∧ i = .int .i64 d ∧ Sh a0_0 a0_1 f f2 d ∧ n2 ≤ 120 + 1000 * d ∧ StP W tb m pb hb a0_0 a0_1 (heldA f 6) n2 f2 wr) (fun i _ => 2 - (intOf i).toNat)
        case atStart => exact ⟨0, nn, f, by omega, rfl, Sh.start _ _ _, by have := HNN.out; omega, HPR.out⟩
        case round =>
          obtain ⟨d, n2, f2, hd, rfl, hsh, hn2, hst⟩ := hrel
          have HSH := Lib.hid hsh
          have HN2 := Lib.hid hn2
          have HST := Lib.hid hst
          clear hsh hn2 hst
          by_cases hlt : d < 2
          · have HLT := Lib.hid hlt
            go_upto_region 19 with (fail)
            have HID := Lib.hid (show (d : Int) = 0 ∨ (d : Int) = 1 from by omega)
            refine wp_region_noPanic ?_
            refine wp_region_held_drew (S := Below wr.heap.size wr) (by kernel_rfl) (Below.refl _ wr).drew (fun hHeld => ?_)
            generalize wr.drew = wd at *
            have HWD := Lib.hid hHeld
            refine wpAnyH_take (i := 0) (oi := { dst := some 72, op := Go.Op.load 38 (Go.Operand.tmp 8), type := 38, pos := "top.go:243", after := #[], guard := none }) (v := ?va0_0) rfl (by kernel_rfl) (by kernel_rfl) (by kernel_rfl) (fun _ _ _ h => h) (Or.inl ⟨by rfl, ?ya0_0⟩) (by assumption) ?ra0_0
            case ya0_0 => (intro wS hSw; have hbl := hSw; obtain ⟨q0, q1⟩ := (HST.out.keep hbl).st.blk.cells2; clear hSw hbl; go_simp; try (with_reducible rfl))
            try simp only [Act.put, List.setIfInBounds_toArray, List.set_cons_zero, List.set_cons_succ]
            refine wpAnyH_take (i := 1) (oi := { dst := some 73, op := Go.Op.move (Go.Operand.tmp 11), type := 3, pos := "top.go:243", after := #[], guard := none }) (v := ?va1_1) rfl (by kernel_rfl) (by kernel_rfl) (by kernel_rfl) (fun _ _ _ h => h) (Or.inl ⟨by rfl, ?ya1_1⟩) (by assumption) ?ra1_1
            case ya1_1 => (intro wS hSw; go_simp; try (with_reducible rfl))
            try simp only [Act.put, List.setIfInBounds_toArray, List.set_cons_zero, List.set_cons_succ]
            refine wpAnyH_take (i := 2) (oi := { dst := some 74, op := Go.Op.move (Go.Operand.tmp 5), type := 25, pos := "top.go:243", after := #[], guard := none }) (v := ?va2_2) rfl (by kernel_rfl) (by kernel_rfl) (by kernel_rfl) (fun _ _ _ h => h) (Or.inl ⟨by rfl, ?ya2_2⟩) (by assumption) ?ra2_2
            case ya2_2 => (intro wS hSw; go_simp; try (with_reducible rfl))
            try simp only [Act.put, List.setIfInBounds_toArray, List.set_cons_zero, List.set_cons_succ]
            refine wpAnyH_ready (rs := [3]) (by kernel_rfl) (by simp) ?_
            refine AllReadyH.cons (o := { dst := some 75, op := Go.Op.call { callee := Go.Callee.value (Go.Operand.func 8), args := #[Go.Operand.tmp 74], argTypes := #[25] }, type := 24, pos := "top.go:243", after := #[{ on := 2, ground := Go.Ground.data }], guard := none }) rfl (fun K hK => ?_) AllReadyH.nil
            go_simp
            (go_at_call 8; (with_reducible refine (all_any tb m n2 f2 _ (HST.out.keep HWD.out).st.tab (HST.out.keep HWD.out).st.map).mono ?_); rintro e w5 ⟨a5, n5, c5, ls5, rfl, hin, hp, hx⟩)
            go_wp2_with fail
            refine hK.out _ _ (low hHeld hx) (fun hHeld => ?_)
            have HIN5 := Lib.hid hin
            have HP5 := Lib.hid hp
            have HN5 := Lib.hid (show n5 ≤ 1000 from by have h1 := hin.1; have h2 := all_len hp; omega)
            clear hK K hx hin hp
            try simp only [Act.put, List.setIfInBounds_toArray, List.set_cons_zero, List.set_cons_succ]
            refine wpAnyH_ready (rs := [4]) (by kernel_rfl) (by simp) ?_
            refine AllReadyH.cons (o := { dst := some 76, op := Go.Op.call { callee := Go.Callee.value (Go.Operand.func 7), args := #[Go.Operand.tmp 72, Go.Operand.tmp 73, Go.Operand.tmp 75], argTypes := #[38, 3, 24] }, type := 41, pos := "top.go:243", after := #[{ on := 0, ground := Go.Ground.data }, { on := 1, ground := Go.Ground.data }, { on := 3, ground := Go.Ground.data }, { on := 3, ground := Go.Ground.chain }], guard := none }) rfl (fun K hK => ?_) AllReadyH.nil
            go_simp
            (go_at_call 7; (with_reducible refine (chosen_any (d : Int) a0_0 a0_1 a5 n5 c5 ls5 _ HID.out HP64.out HIN5.out HN5.out).mono ?_); rintro e w6 ⟨a6, n6, c6, xs, ys, rfl, hin6, hn6, hp6, hx⟩)
            go_wp2_with fail
            refine hK.out _ _ (low hHeld hx) (fun hHeld => ?_)
            have HIN6 := Lib.hid hin6
            have HN6 := Lib.hid hn6
            have HP6 := Lib.hid hp6
            clear hK K hx hin6 hn6 hp6
            try simp only [Act.put, List.setIfInBounds_toArray, List.set_cons_zero, List.set_cons_succ]
            refine wpAnyH_take (i := 5) (oi := { dst := some 12, op := Go.Op.assign (Go.Operand.tmp 76), type := 41, pos := "top.go:243", after := #[{ on := 4, ground := Go.Ground.data }, { on := 4, ground := Go.Ground.chain }, { on := 0, ground := Go.Ground.phase }, { on := 1, ground := Go.Ground.phase }, { on := 2, ground := Go.Ground.phase }, { on := 3, ground := Go.Ground.phase }, { on := 4, ground := Go.Ground.phase }], guard := none }) (v := ?va5_3) rfl (by kernel_rfl) (by kernel_rfl) (by kernel_rfl) (fun _ _ _ h => h) (Or.inl ⟨by rfl, ?ya5_3⟩) (by assumption) ?ra5_3
            case ya5_3 => (intro wS hSw; go_simp; try (with_reducible rfl))
            try simp only [Act.put, List.setIfInBounds_toArray, List.set_cons_zero, List.set_cons_succ]
            refine wpAnyH_done (by kernel_rfl) ?_ _
            refine NoPanic.normal ?_
            have HS6 := Lib.hid (HST.out.keep hHeld)
            obtain ⟨hxn, hxb, hl0, hl1⟩ := chosen_facts HS6.out.st.inv HP5.out HP6.out
            have HXN := Lib.hid hxn
            have HXB := Lib.hid hxb
            have HG6 := Lib.hid (show (xs.length : Int) = givesV d (cnt f2 0) (cnt f2 1) a0_0 a0_1 from by rw [HIN6.out.1, HN6.out, hl0, hl1])
            have HX9 := Lib.hid (show n6 ≤ 1000 from by have h1 := HP6.out.length_eq; have h2 := chL_len d ls5; have h3 := all_len HP5.out; have h4 := HIN6.out.1; rw [List.length_append] at h1; omega)
            clear hHeld hxn hxb hl0 hl1
            go_wp2_with fail
            go_loopw [13] (fun i wr => ∃ j : Nat, j ≤ n6 ∧ i = .int .i64 j ∧ StP W tb m pb hb a0_0 a0_1 (heldA f 6) (n2 + j) (gives d f2 (xs.take j)) wr ∧ AdrIn wr a6 n6 c6 xs) (fun i _ => n6 - (intOf i).toNat)
            case atStart => exact ⟨0, by omega, rfl, HS6.out, HIN6.out⟩
            case round =>
              obtain ⟨j, hj, rfl, hst, hin⟩ := hrel
              have HST4 := Lib.hid hst
              have HIN4 := Lib.hid hin
              clear hst hin
              have hn6c := HIN4.out.2.1
              have hc6m : c6 ≤ 9223372036854775807 := by have := HIN4.out.2.2.1; unfold maxLen at this; omega
              by_cases hl4 : j < n6
              · obtain ⟨g, o, x, rfl, hg, hx, c0⟩ := HIN4.out.get hl4
                have hxm := HXB.out x (List.mem_of_getElem? hx)
                have hfx := gives_other (id := (d : Int)) (xs.take j) f2 (not_before HXN.out hx)
                have hmore := gives_more (id := (d : Int)) (f := f2) hx
                obtain ⟨f4, hf4⟩ : ∃ f4, gives (d : Int) f2 (xs.take j) = f4 := ⟨_, rfl⟩
                rw [hf4] at HST4 hfx hmore
                obtain ⟨l, hl⟩ : ∃ l, f4 x = l := ⟨_, rfl⟩
                have hlb : l.bind = d := by rw [← hl, hfx]; exact hxm.2
                have HOK := Lib.hid (show SetOk ⟨x, 1 - (d : Int), { data := #[] }, 0, 0, 0, 0, l.ver⟩ from hl ▸ give_ok HST4.out.st.inv hxm.1.1 hxm.1.2 HLT.out)
                have HINV := Lib.hid (give_inv (id := (d : Int)) HST4.out.st.inv hxm.1.1 hxm.1.2)
                have HGF := Lib.hid (show give (d : Int) f4 x = upd f4 x ⟨x, 1 - (d : Int), { data := #[] }, 0, 0, 0, 0, l.ver⟩ from by unfold give; rw [hl])
                have HMORE := Lib.hid hmore
                have HGET := Lib.hid (fun (w : World) (hT : w.cell? ⟨tb, 0, none⟩ = some (.map (some m))) (htm : TabM w m (n2 + j) 20 f4) => hl ▸ get_any x tb m (n2 + j) f4 w hT htm hxm.1.1 hxm.1.2)
                have HXR := Lib.hid (show 0 ≤ x ∧ x ≤ 4294967295 from by omega)
                have HNJ := Lib.hid (show n2 + j < 10000 from by have h1 := HN2.out; have h2 := HX9.out; omega)
                have HC4 := Lib.hid c0
                have HG4 := Lib.hid hg
                clear hfx hmore hf4 hl hx hxm hg
                obtain ⟨la, lb, lc, lu, lk, lt, lz, lv⟩ := l
                simp only at hlb
                subst hlb
                simp only [Le.val] at HGET HOK HGF
                go_upto_region 24 with (go_at_call 9; (with_reducible refine (HGET.out _ HST4.out.st.tab HST4.out.st.map).mono ?_); rintro e w7 ⟨rfl, hx7⟩; have HX7 := Lib.hid hx7; clear hx7)
                have hb8 := low HX7.out (low0 w7 (.cells #[.int .u32 la, .int .i64 (d : Int), .string lc, .int .i64 lu, .int .i64 lk, .int .i64 lt, .int .i64 lz, .int .i64 lv] 35))
                have HB8 := Lib.hid (Blk.new w7 #[.int .u32 la, .int .i64 (d : Int), .string lc, .int .i64 lu, .int .i64 lk, .int .i64 lt, .int .i64 lz, .int .i64 lv] 35)
                have HS8 := Lib.hid (HST4.out.keep hb8)
                have HA8 := Lib.hid (HIN4.out.keep hb8)
                have HC0 := Lib.hid ((hb8.cell (p := ⟨g, o + j, none⟩) HG4.out).trans HC4.out)
                have HGL := Lib.hid (World.block_lt_of_cell? _ _ HC0.out)
                have HMG := Lib.hid (show w7.heap.size ≠ m from by have h1 := HST4.out.st.map.lt; have h2 := HX7.out.size; omega)
                clear hb8 c0
                generalize w7.alloc (.cells #[.int .u32 la, .int .i64 (d : Int), .string lc, .int .i64 lu, .int .i64 lk, .int .i64 lt, .int .i64 lz, .int .i64 lv] 35) = w8 at *
                generalize w7.heap.size = g7 at *
                refine wp_region_seq (S := Below w8.heap.size w8) 10 (by kernel_rfl) (by kernel_rfl) (Below.refl _ w8).drew ?_
                simp only [List.take_succ_cons, List.take_zero, List.drop_succ_cons, List.drop_zero]
                refine wpHeld_val (v := ?vg0) (by rfl) ?yg0 ?rg0
                case yg0 => (intro wS hSw; go_simp; try (with_reducible rfl))
                try simp only [Act.put, List.setIfInBounds_toArray, List.set_cons_zero, List.set_cons_succ]
                refine wpHeld_val (v := ?vg1) (by rfl) ?yg1 ?rg1
                case yg1 => (intro wS hSw; go_simp; try (with_reducible rfl))
                try simp only [Act.put, List.setIfInBounds_toArray, List.set_cons_zero, List.set_cons_succ]
                refine wpHeld_val (v := ?vg2) (by rfl) ?yg2 ?rg2
                case yg2 => (intro wS hSw; go_simp; try (with_reducible rfl))
                try simp only [Act.put, List.setIfInBounds_toArray, List.set_cons_zero, List.set_cons_succ]
                refine wpHeld_val (v := ?vg3) (by rfl) ?yg3 ?rg3
                case yg3 => (intro wS hSw; go_simp; try (with_reducible rfl))
                try simp only [Act.put, List.setIfInBounds_toArray, List.set_cons_zero, List.set_cons_succ]
                refine wpHeld_val (v := ?vg4) (by rfl) ?yg4 ?rg4
                case yg4 => (intro wS hSw; have c0 := (hSw.cell (p := ⟨g, o + j, none⟩) HGL.out).trans HC0.out; obtain ⟨y0, y1, y2, y3, y4, y5, y6, y7⟩ := (HB8.out.keep hSw).cells8; clear hSw; go_simp; try (with_reducible rfl))
                try simp only [Act.put, List.setIfInBounds_toArray, List.set_cons_zero, List.set_cons_succ]
                refine wpHeld_val (v := ?vg5) (by rfl) ?yg5 ?rg5
                case yg5 => (intro wS hSw; go_simp; try (with_reducible rfl))
                try simp only [Act.put, List.setIfInBounds_toArray, List.set_cons_zero, List.set_cons_succ]
                refine wpHeld_val (v := .int .i64 (1 - (d : Int))) (by rfl) ?yg6 ?rg6
                case yg6 => (intro wS hSw; go_simp; try (exact IntWalk.i64_in _ (by omega)))
                try simp only [Act.put, List.setIfInBounds_toArray, List.set_cons_zero, List.set_cons_succ]
                refine wpHeld_val (v := ?vg7) (by rfl) ?yg7 ?rg7
                case yg7 => (intro wS hSw; go_simp; try (with_reducible rfl))
                try simp only [Act.put, List.setIfInBounds_toArray, List.set_cons_zero, List.set_cons_succ]
                refine wpHeld_val (v := ?vg8) (by rfl) ?yg8 ?rg8
                case yg8 => (intro wS hSw; have c0 := (hSw.cell (p := ⟨g, o + j, none⟩) HGL.out).trans HC0.out; obtain ⟨y0, y1, y2, y3, y4, y5, y6, y7⟩ := (HB8.out.keep hSw).cells8; clear hSw; go_simp; try (with_reducible rfl))
                try simp only [Act.put, List.setIfInBounds_toArray, List.set_cons_zero, List.set_cons_succ]
                refine wpHeld_val (v := ?vg9) (by rfl) ?yg9 ?rg9
                case yg9 => (intro wS hSw; go_simp; try (with_reducible rfl))
                try simp only [Act.put, List.setIfInBounds_toArray, List.set_cons_zero, List.set_cons_succ]
                refine wpHeld_nil ?_
                intro wS hSw
                have HSS := Lib.hid (HS8.out.keep hSw)
                have HAS := Lib.hid (HA8.out.keep hSw)
                have HBS := Lib.hid (HB8.out.keep hSw)
                clear hSw
                go_wp2_with (go_at_call 5; (with_reducible refine (set_any x (1 - (d : Int)) { data := #[] } 0 0 0 0 lv tb m (n2 + j) f4 _ HSS.out.st.tab HSS.out.st.map HNJ.out HXR.out).mono ?_); rintro e w9 ⟨r, rfl, hgr, hset⟩; obtain ⟨rfl, hm9⟩ := set_yes HOK.out hset; have HG9 := Lib.hid hgr; have HM9 := Lib.hid hm9; have hb9 := (show Blk w9 g7 #[.int .u32 la, .int .i64 (d : Int), .string lc, .int .i64 lu, .int .i64 lk, .int .i64 lt, .int .i64 lz, .int .i64 lv] 35 from (hgr.block g7 HBS.out.lt (fun e => HMG.out (by cases e; rfl))).trans HBS.out); obtain ⟨z0, z1, z2, z3, z4, z5, z6, z7⟩ := hb9.cells8; clear hgr hset hm9 hb9)
                go_roundw
                case rel => exact ⟨j + 1, by omega, by first | rfl | go_num, by rw [HMORE.out, HGF.out]; exact HSS.out.set HG9.out HTM.out HE5.out HE4.out (Nat.le_of_lt HSM.out) HM9.out (HGF.out ▸ HINV.out), HAS.out.grownM HSS.out.st.map HG9.out⟩
                case measure => simp [intOf]; omega
              · obtain rfl : j = n6 := by omega
                have htk : xs.take j = xs := List.take_of_length_le (by have := HIN4.out.1; omega)
                rw [htk] at HST4
                go_wp2
                go_roundw
                case rel => exact ⟨d + 1, n2 + j, gives d f2 xs, by omega, by first | rfl | go_num, HSH.out.step HLT.out HXN.out HXB.out HG6.out, by have h1 := HN2.out; have h2 := HX9.out; omega, HST4.out⟩
                case measure => simp [intOf]; omega
          · obtain rfl : d = 2 := by omega
            go_wp2
            go_meet
            exact ⟨n2, f2, HSH.out, by have := HN2.out; omega, HST.out⟩
      case rest =>
        obtain ⟨n2, f2, hsh, hn2, hst⟩ := hcut
        have HSH := Lib.hid hsh
        have HN2 := Lib.hid hn2
        have HSE := Lib.hid hst
        clear hsh hn2 hst HPR
        have hd6 : heldA f 6 = #[.int .i64 0, .int .i64 0, .int .i64 (cnt f 2 : Int), .int .i64 (cnt f 3 : Int), .int .i64 (cnt f 4 : Int), .int .i64 (cnt f 5 : Int)] := by simp [heldA]
        have hC2 := fun (w : World) (h1 : w.cell? ⟨tb, 0, none⟩ = some (.map (some m))) (h2 : TabM w m n2 20 f2) => (show countL f2 2 = cnt f 2 from (countL_cnt f2 2).trans (HSH.out.same 2 (by omega))) ▸ count_any tb m n2 2 f2 w h1 h2
        have hC3 := fun (w : World) (h1 : w.cell? ⟨tb, 0, none⟩ = some (.map (some m))) (h2 : TabM w m n2 20 f2) => (show countL f2 3 = cnt f 3 from (countL_cnt f2 3).trans (HSH.out.same 3 (by omega))) ▸ count_any tb m n2 3 f2 w h1 h2
        have hC4 := fun (w : World) (h1 : w.cell? ⟨tb, 0, none⟩ = some (.map (some m))) (h2 : TabM w m n2 20 f2) => (show countL f2 4 = cnt f 4 from (countL_cnt f2 4).trans (HSH.out.same 4 (by omega))) ▸ count_any tb m n2 4 f2 w h1 h2
        have hC5 := fun (w : World) (h1 : w.cell? ⟨tb, 0, none⟩ = some (.map (some m))) (h2 : TabM w m n2 20 f2) => (show countL f2 5 = cnt f 5 from (countL_cnt f2 5).trans (HSH.out.same 5 (by omega))) ▸ count_any tb m n2 5 f2 w h1 h2
        obtain ⟨v2, hv2⟩ : ∃ x : Int, (cnt f 2 : Int) = x := ⟨_, rfl⟩
        obtain ⟨v3, hv3⟩ : ∃ x : Int, (cnt f 3 : Int) = x := ⟨_, rfl⟩
        obtain ⟨v4, hv4⟩ : ∃ x : Int, (cnt f 4 : Int) = x := ⟨_, rfl⟩
        obtain ⟨v5, hv5⟩ : ∃ x : Int, (cnt f 5 : Int) = x := ⟨_, rfl⟩
        rw [hv2] at hC2 hd6
        rw [hv3] at hC3 hd6
        rw [hv4] at hC4 hd6
        rw [hv5] at hC5 hd6
        have HC2 := Lib.hid hC2
        have HC3 := Lib.hid hC3
        have HC4 := Lib.hid hC4
        have HC5 := Lib.hid hC5
        rw [hd6] at HSE
        obtain ⟨z0, z1⟩ := HSH.out.done HP64.out
        have HZ0 := Lib.hid z0
        have HZ1 := Lib.hid z1
        clear hC2 hC3 hC4 hC5 hv2 hv3 hv4 hv5 hd6 z0 z1
        go_upto_block 8 with fail
        go_cut [17] from 111 to 121 (fun s wx => StP W tb m pb hb a0_0 a0_1 #[.int .i64 0, .int .i64 0, .int .i64 v2, .int .i64 v3, .int .i64 v4, .int .i64 v5] n2 f2 wx)
        case first =>
          go_wp2_with fail
          go_loopw [17] (fun i wr => ∃ k : Nat, 2 ≤ k ∧ k ≤ 6 ∧ i = .int .i64 k ∧ StP W tb m pb hb a0_0 a0_1 #[.int .i64 0, .int .i64 0, .int .i64 v2, .int .i64 v3, .int .i64 v4, .int .i64 v5] n2 f2 wr) (fun i _ => 6 - (intOf i).toNat)
          case atStart => exact ⟨2, by omega, by omega, rfl, HSE.out⟩
          case round =>
            obtain ⟨k, hk2, hk6, rfl, hst⟩ := hrel
            have HST := Lib.hid hst
            clear hst
            have hkk : k = 2 ∨ k = 3 ∨ k = 4 ∨ k = 5 ∨ k = 6 := by omega
            clear hk2 hk6
            rcases hkk with rfl | rfl | rfl | rfl | rfl
            · go_upto_region 30 with (fail)
              refine wp_region_seq (S := Below wr.heap.size wr) 7 (by kernel_rfl) (by kernel_rfl) (Below.refl _ wr).drew ?_
              simp only [List.take_succ_cons, List.take_zero, List.drop_succ_cons, List.drop_zero]
              refine wpHeld_val (v := ?vk20) (by rfl) ?yk20 ?rk20
              case yk20 => (intro wS hSw; go_simp; try (with_reducible rfl))
              try simp only [Act.put, List.setIfInBounds_toArray, List.set_cons_zero, List.set_cons_succ]
              refine wpHeld_val (v := ?vk21) (by rfl) ?yk21 ?rk21
              case yk21 => (intro wS hSw; go_simp; try (with_reducible rfl))
              try simp only [Act.put, List.setIfInBounds_toArray, List.set_cons_zero, List.set_cons_succ]
              refine wpHeld_val (v := ?vk22) (by rfl) ?yk22 ?rk22
              case yk22 => (intro wS hSw; obtain ⟨u0, u1, u2, u3, u4, u5⟩ := (HST.out.keep hSw).hd.cells6; clear hSw; go_simp; try (with_reducible rfl))
              try simp only [Act.put, List.setIfInBounds_toArray, List.set_cons_zero, List.set_cons_succ]
              refine wpHeld_val (v := ?vk23) (by rfl) ?yk23 ?rk23
              case yk23 => (intro wS hSw; go_simp; try (with_reducible rfl))
              try simp only [Act.put, List.setIfInBounds_toArray, List.set_cons_zero, List.set_cons_succ]
              refine wpHeld_val (v := ?vk24) (by rfl) ?yk24 ?rk24
              case yk24 => (intro wS hSw; go_simp; try (with_reducible rfl))
              try simp only [Act.put, List.setIfInBounds_toArray, List.set_cons_zero, List.set_cons_succ]
              refine wpHeld_run (.int .i64 v2) (by rfl) ?ck25 ?rk25
              case ck25 => (intro wS hSw K hK; go_simp; (go_at_call 6; with_reducible refine (HC2.out _ (HST.out.keep hSw).st.tab (HST.out.keep hSw).st.map).mono ?_; rintro e w5 ⟨rfl, hx⟩); go_wp2_with fail; exact hK.out _ (low hSw hx))
              try simp only [Act.put, List.setIfInBounds_toArray, List.set_cons_zero, List.set_cons_succ]
              refine wpHeld_val (v := .bool false) (by rfl) ?yk26 ?rk26
              case yk26 => (intro wS hSw; go_simp; try (first | rfl | simp))
              try simp only [Act.put, List.setIfInBounds_toArray, List.set_cons_zero, List.set_cons_succ]
              refine wpHeld_nil ?_
              intro wS hSw
              have HSS := Lib.hid (HST.out.keep hSw)
              clear hSw
              go_wp2
              go_roundw
              case rel => exact ⟨3, by omega, by omega, by first | rfl | go_num, HSS.out⟩
              case measure => simp [intOf]
            · go_upto_region 30 with (fail)
              refine wp_region_seq (S := Below wr.heap.size wr) 7 (by kernel_rfl) (by kernel_rfl) (Below.refl _ wr).drew ?_
              simp only [List.take_succ_cons, List.take_zero, List.drop_succ_cons, List.drop_zero]
              refine wpHeld_val (v := ?vk30) (by rfl) ?yk30 ?rk30
              case yk30 => (intro wS hSw; go_simp; try (with_reducible rfl))
              try simp only [Act.put, List.setIfInBounds_toArray, List.set_cons_zero, List.set_cons_succ]
              refine wpHeld_val (v := ?vk31) (by rfl) ?yk31 ?rk31
              case yk31 => (intro wS hSw; go_simp; try (with_reducible rfl))
              try simp only [Act.put, List.setIfInBounds_toArray, List.set_cons_zero, List.set_cons_succ]
              refine wpHeld_val (v := ?vk32) (by rfl) ?yk32 ?rk32
              case yk32 => (intro wS hSw; obtain ⟨u0, u1, u2, u3, u4, u5⟩ := (HST.out.keep hSw).hd.cells6; clear hSw; go_simp; try (with_reducible rfl))
              try simp only [Act.put, List.setIfInBounds_toArray, List.set_cons_zero, List.set_cons_succ]
              refine wpHeld_val (v := ?vk33) (by rfl) ?yk33 ?rk33
              case yk33 => (intro wS hSw; go_simp; try (with_reducible rfl))
              try simp only [Act.put, List.setIfInBounds_toArray, List.set_cons_zero, List.set_cons_succ]
              refine wpHeld_val (v := ?vk34) (by rfl) ?yk34 ?rk34
              case yk34 => (intro wS hSw; go_simp; try (with_reducible rfl))
              try simp only [Act.put, List.setIfInBounds_toArray, List.set_cons_zero, List.set_cons_succ]
              refine wpHeld_run (.int .i64 v3) (by rfl) ?ck35 ?rk35
              case ck35 => (intro wS hSw K hK; go_simp; (go_at_call 6; with_reducible refine (HC3.out _ (HST.out.keep hSw).st.tab (HST.out.keep hSw).st.map).mono ?_; rintro e w5 ⟨rfl, hx⟩); go_wp2_with fail; exact hK.out _ (low hSw hx))
              try simp only [Act.put, List.setIfInBounds_toArray, List.set_cons_zero, List.set_cons_succ]
              refine wpHeld_val (v := .bool false) (by rfl) ?yk36 ?rk36
              case yk36 => (intro wS hSw; go_simp; try (first | rfl | simp))
              try simp only [Act.put, List.setIfInBounds_toArray, List.set_cons_zero, List.set_cons_succ]
              refine wpHeld_nil ?_
              intro wS hSw
              have HSS := Lib.hid (HST.out.keep hSw)
              clear hSw
              go_wp2
              go_roundw
              case rel => exact ⟨4, by omega, by omega, by first | rfl | go_num, HSS.out⟩
              case measure => simp [intOf]
            · go_upto_region 30 with (fail)
              refine wp_region_seq (S := Below wr.heap.size wr) 7 (by kernel_rfl) (by kernel_rfl) (Below.refl _ wr).drew ?_
              simp only [List.take_succ_cons, List.take_zero, List.drop_succ_cons, List.drop_zero]
              refine wpHeld_val (v := ?vk40) (by rfl) ?yk40 ?rk40
              case yk40 => (intro wS hSw; go_simp; try (with_reducible rfl))
              try simp only [Act.put, List.setIfInBounds_toArray, List.set_cons_zero, List.set_cons_succ]
              refine wpHeld_val (v := ?vk41) (by rfl) ?yk41 ?rk41
              case yk41 => (intro wS hSw; go_simp; try (with_reducible rfl))
              try simp only [Act.put, List.setIfInBounds_toArray, List.set_cons_zero, List.set_cons_succ]
              refine wpHeld_val (v := ?vk42) (by rfl) ?yk42 ?rk42
              case yk42 => (intro wS hSw; obtain ⟨u0, u1, u2, u3, u4, u5⟩ := (HST.out.keep hSw).hd.cells6; clear hSw; go_simp; try (with_reducible rfl))
              try simp only [Act.put, List.setIfInBounds_toArray, List.set_cons_zero, List.set_cons_succ]
              refine wpHeld_val (v := ?vk43) (by rfl) ?yk43 ?rk43
              case yk43 => (intro wS hSw; go_simp; try (with_reducible rfl))
              try simp only [Act.put, List.setIfInBounds_toArray, List.set_cons_zero, List.set_cons_succ]
              refine wpHeld_val (v := ?vk44) (by rfl) ?yk44 ?rk44
              case yk44 => (intro wS hSw; go_simp; try (with_reducible rfl))
              try simp only [Act.put, List.setIfInBounds_toArray, List.set_cons_zero, List.set_cons_succ]
              refine wpHeld_run (.int .i64 v4) (by rfl) ?ck45 ?rk45
              case ck45 => (intro wS hSw K hK; go_simp; (go_at_call 6; with_reducible refine (HC4.out _ (HST.out.keep hSw).st.tab (HST.out.keep hSw).st.map).mono ?_; rintro e w5 ⟨rfl, hx⟩); go_wp2_with fail; exact hK.out _ (low hSw hx))
              try simp only [Act.put, List.setIfInBounds_toArray, List.set_cons_zero, List.set_cons_succ]
              refine wpHeld_val (v := .bool false) (by rfl) ?yk46 ?rk46
              case yk46 => (intro wS hSw; go_simp; try (first | rfl | simp))
              try simp only [Act.put, List.setIfInBounds_toArray, List.set_cons_zero, List.set_cons_succ]
              refine wpHeld_nil ?_
              intro wS hSw
              have HSS := Lib.hid (HST.out.keep hSw)
              clear hSw
              go_wp2
              go_roundw
              case rel => exact ⟨5, by omega, by omega, by first | rfl | go_num, HSS.out⟩
              case measure => simp [intOf]
            · go_upto_region 30 with (fail)
              refine wp_region_seq (S := Below wr.heap.size wr) 7 (by kernel_rfl) (by kernel_rfl) (Below.refl _ wr).drew ?_
              simp only [List.take_succ_cons, List.take_zero, List.drop_succ_cons, List.drop_zero]
              refine wpHeld_val (v := ?vk50) (by rfl) ?yk50 ?rk50
              case yk50 => (intro wS hSw; go_simp; try (with_reducible rfl))
              try simp only [Act.put, List.setIfInBounds_toArray, List.set_cons_zero, List.set_cons_succ]
              refine wpHeld_val (v := ?vk51) (by rfl) ?yk51 ?rk51
              case yk51 => (intro wS hSw; go_simp; try (with_reducible rfl))
              try simp only [Act.put, List.setIfInBounds_toArray, List.set_cons_zero, List.set_cons_succ]
              refine wpHeld_val (v := ?vk52) (by rfl) ?yk52 ?rk52
              case yk52 => (intro wS hSw; obtain ⟨u0, u1, u2, u3, u4, u5⟩ := (HST.out.keep hSw).hd.cells6; clear hSw; go_simp; try (with_reducible rfl))
              try simp only [Act.put, List.setIfInBounds_toArray, List.set_cons_zero, List.set_cons_succ]
              refine wpHeld_val (v := ?vk53) (by rfl) ?yk53 ?rk53
              case yk53 => (intro wS hSw; go_simp; try (with_reducible rfl))
              try simp only [Act.put, List.setIfInBounds_toArray, List.set_cons_zero, List.set_cons_succ]
              refine wpHeld_val (v := ?vk54) (by rfl) ?yk54 ?rk54
              case yk54 => (intro wS hSw; go_simp; try (with_reducible rfl))
              try simp only [Act.put, List.setIfInBounds_toArray, List.set_cons_zero, List.set_cons_succ]
              refine wpHeld_run (.int .i64 v5) (by rfl) ?ck55 ?rk55
              case ck55 => (intro wS hSw K hK; go_simp; (go_at_call 6; with_reducible refine (HC5.out _ (HST.out.keep hSw).st.tab (HST.out.keep hSw).st.map).mono ?_; rintro e w5 ⟨rfl, hx⟩); go_wp2_with fail; exact hK.out _ (low hSw hx))
              try simp only [Act.put, List.setIfInBounds_toArray, List.set_cons_zero, List.set_cons_succ]
              refine wpHeld_val (v := .bool false) (by rfl) ?yk56 ?rk56
              case yk56 => (intro wS hSw; go_simp; try (first | rfl | simp))
              try simp only [Act.put, List.setIfInBounds_toArray, List.set_cons_zero, List.set_cons_succ]
              refine wpHeld_nil ?_
              intro wS hSw
              have HSS := Lib.hid (HST.out.keep hSw)
              clear hSw
              go_wp2
              go_roundw
              case rel => exact ⟨6, by omega, by omega, by first | rfl | go_num, HSS.out⟩
              case measure => simp [intOf]
            · go_wp2
              go_meet
              exact HST.out
        case rest =>
          have HSF := Lib.hid hcut
          clear hcut HSE
          go_upto_region 32 with (fail)
          refine wp_region_noPanic ?_
          refine wp_region_held_drew (S := Below wc.heap.size wc) (by kernel_rfl) (Below.refl _ wc).drew (fun hHeld => ?_)
          generalize wc.drew = wd at *
          have HWD := Lib.hid hHeld
          refine wpAnyH_take (i := 0) (oi := { dst := some 122, op := Go.Op.load 38 (Go.Operand.tmp 8), type := 38, pos := "top.go:257", after := #[], guard := none }) (v := ?vz0_0) rfl (by kernel_rfl) (by kernel_rfl) (by kernel_rfl) (fun _ _ _ h => h) (Or.inl ⟨by rfl, ?yz0_0⟩) (by assumption) ?rz0_0
          case yz0_0 => (intro wS hSw; obtain ⟨q0, q1⟩ := (HSF.out.keep hSw).st.blk.cells2; clear hSw; go_simp; try (with_reducible rfl))
          try simp only [Act.put, List.setIfInBounds_toArray, List.set_cons_zero, List.set_cons_succ]
          refine wpAnyH_take (i := 1) (oi := { dst := some 123, op := Go.Op.move (Go.Operand.tmp 5), type := 25, pos := "top.go:257", after := #[], guard := none }) (v := ?vz1_1) rfl (by kernel_rfl) (by kernel_rfl) (by kernel_rfl) (fun _ _ _ h => h) (Or.inl ⟨by rfl, ?yz1_1⟩) (by assumption) ?rz1_1
          case yz1_1 => (intro wS hSw; go_simp; try (with_reducible rfl))
          try simp only [Act.put, List.setIfInBounds_toArray, List.set_cons_zero, List.set_cons_succ]
          refine wpAnyH_ready (rs := [2]) (by kernel_rfl) (by simp) ?_
          refine AllReadyH.cons (o := { dst := some 124, op := Go.Op.call { callee := Go.Callee.value (Go.Operand.func 8), args := #[Go.Operand.tmp 123], argTypes := #[25] }, type := 24, pos := "top.go:257", after := #[{ on := 1, ground := Go.Ground.data }], guard := none }) rfl (fun K hK => ?_) AllReadyH.nil
          go_simp
          (go_at_call 8; (with_reducible refine (all_any tb m n2 f2 _ (HSF.out.keep HWD.out).st.tab (HSF.out.keep HWD.out).st.map).mono ?_); rintro e w5 ⟨a5, n5, c5, ls5, rfl, hin, hp, hx⟩)
          go_wp2_with fail
          refine hK.out _ _ (low hHeld hx) (fun hHeld => ?_)
          have HIN5 := Lib.hid hin
          have HP5 := Lib.hid hp
          have HN5 := Lib.hid (show n5 ≤ 1000 from by have h1 := hin.1; have h2 := all_len hp; omega)
          clear hK K hx hin hp
          try simp only [Act.put, List.setIfInBounds_toArray, List.set_cons_zero, List.set_cons_succ]
          refine wpAnyH_ready (rs := [3]) (by kernel_rfl) (by simp) ?_
          refine AllReadyH.cons (o := { dst := some 125, op := Go.Op.call { callee := Go.Callee.value (Go.Operand.func 7), args := #[Go.Operand.tmp 122, Go.Operand.const (Go.Value.int Go.IntKind.i64 0), Go.Operand.tmp 124], argTypes := #[38, 3, 24] }, type := 41, pos := "top.go:257", after := #[{ on := 0, ground := Go.Ground.data }, { on := 2, ground := Go.Ground.data }, { on := 2, ground := Go.Ground.chain }], guard := none }) rfl (fun K hK => ?_) AllReadyH.nil
          go_simp
          (go_at_call 7; (with_reducible refine (chosen_any 0 a0_0 a0_1 a5 n5 c5 ls5 _ (by first | exact .inl rfl | exact .inr rfl) HP64.out HIN5.out HN5.out).mono ?_); rintro e w6 ⟨a6, n6, c6, xs6, ys6, rfl, hin6, hn6, hp6, hx⟩)
          obtain rfl : n6 = 0 := by (obtain ⟨_, _, e0, e1⟩ := chosen_facts HSF.out.st.inv HP5.out hp6; rw [e0, e1, HZ0.out] at hn6; omega)
          go_wp2_with fail
          refine hK.out _ _ (low hHeld hx) (fun hHeld => ?_)
          have HW6 := Lib.hid hHeld
          clear hK K hx hin6 hn6 hp6
          try simp only [Act.put, List.setIfInBounds_toArray, List.set_cons_zero, List.set_cons_succ]
          refine wpAnyH_take (i := 4) (oi := { dst := some 126, op := Go.Op.call { callee := Go.Callee.builtin Go.Builtin.len, args := #[Go.Operand.tmp 125], argTypes := #[41] }, type := 3, pos := "top.go:257", after := #[{ on := 3, ground := Go.Ground.data }], guard := none }) (v := .int .i64 0) rfl (by kernel_rfl) (by kernel_rfl) (by kernel_rfl) (fun _ _ _ h => h) (Or.inl ⟨by rfl, ?yz4_2⟩) (by assumption) ?rz4_2
          case yz4_2 => (intro wS hSw; go_simp; try (first | with_reducible rfl | (split <;> omega)))
          try simp only [Act.put, List.setIfInBounds_toArray, List.set_cons_zero, List.set_cons_succ]
          refine wpAnyH_take (i := 5) (oi := { dst := some 127, op := Go.Op.binOp Go.BinOp.eql 3 (Go.Operand.tmp 126) (Go.Operand.const (Go.Value.int Go.IntKind.i64 0)) 3, type := 4, pos := "top.go:257", after := #[{ on := 4, ground := Go.Ground.data }], guard := none }) (v := .bool true) rfl (by kernel_rfl) (by kernel_rfl) (by kernel_rfl) (fun _ _ _ h => h) (Or.inl ⟨by rfl, ?yz5_3⟩) (by assumption) ?rz5_3
          case yz5_3 => (intro wS hSw; go_simp; try (first | with_reducible rfl | (split <;> omega)))
          try simp only [Act.put, List.setIfInBounds_toArray, List.set_cons_zero, List.set_cons_succ]
          refine wpAnyH_take (i := 6) (oi := { dst := some 128, op := Go.Op.move (Go.Operand.tmp 127), type := 4, pos := "top.go:257", after := #[{ on := 5, ground := Go.Ground.data }, { on := 3, ground := Go.Ground.chain }], guard := none }) (v := .bool true) rfl (by kernel_rfl) (by kernel_rfl) (by kernel_rfl) (fun _ _ _ h => h) (Or.inl ⟨by rfl, ?yz6_4⟩) (by assumption) ?rz6_4
          case yz6_4 => (intro wS hSw; go_simp; try (first | with_reducible rfl | (split <;> omega)))
          try simp only [Act.put, List.setIfInBounds_toArray, List.set_cons_zero, List.set_cons_succ]
          refine wpAnyH_take (i := 7) (oi := { dst := some 129, op := Go.Op.load 38 (Go.Operand.tmp 8), type := 38, pos := "top.go:257", after := #[{ on := 6, ground := Go.Ground.guard }], guard := some (6, true) }) (v := ?vz7_5) rfl (by kernel_rfl) (by kernel_rfl) (by kernel_rfl) (fun _ _ _ h => h) (Or.inl ⟨by rfl, ?yz7_5⟩) (by assumption) ?rz7_5
          case yz7_5 => (intro wS hSw; obtain ⟨q0, q1⟩ := (HSF.out.keep hSw).st.blk.cells2; clear hSw; go_simp; try (with_reducible rfl))
          try simp only [Act.put, List.setIfInBounds_toArray, List.set_cons_zero, List.set_cons_succ]
          refine wpAnyH_take (i := 8) (oi := { dst := some 130, op := Go.Op.move (Go.Operand.tmp 5), type := 25, pos := "top.go:257", after := #[{ on := 6, ground := Go.Ground.guard }], guard := some (6, true) }) (v := ?vz8_6) rfl (by kernel_rfl) (by kernel_rfl) (by kernel_rfl) (fun _ _ _ h => h) (Or.inl ⟨by rfl, ?yz8_6⟩) (by assumption) ?rz8_6
          case yz8_6 => (intro wS hSw; go_simp; try (with_reducible rfl))
          try simp only [Act.put, List.setIfInBounds_toArray, List.set_cons_zero, List.set_cons_succ]
          refine wpAnyH_ready (rs := [9]) (by kernel_rfl) (by simp) ?_
          refine AllReadyH.cons (o := { dst := some 131, op := Go.Op.call { callee := Go.Callee.value (Go.Operand.func 8), args := #[Go.Operand.tmp 130], argTypes := #[25] }, type := 24, pos := "top.go:257", after := #[{ on := 8, ground := Go.Ground.data }, { on := 6, ground := Go.Ground.chain }, { on := 6, ground := Go.Ground.guard }], guard := some (6, true) }) rfl (fun K hK => ?_) AllReadyH.nil
          go_simp
          (go_at_call 8; (with_reducible refine (all_any tb m n2 f2 _ (HSF.out.keep HW6.out).st.tab (HSF.out.keep HW6.out).st.map).mono ?_); rintro e w7 ⟨a7, n7, c7, ls7, rfl, hin, hp, hx⟩)
          go_wp2_with fail
          refine hK.out _ _ (low hHeld hx) (fun hHeld => ?_)
          have HIN7 := Lib.hid hin
          have HP7 := Lib.hid hp
          have HN7 := Lib.hid (show n7 ≤ 1000 from by have h1 := hin.1; have h2 := all_len hp; omega)
          clear hK K hx hin hp
          try simp only [Act.put, List.setIfInBounds_toArray, List.set_cons_zero, List.set_cons_succ]
          refine wpAnyH_ready (rs := [10]) (by kernel_rfl) (by simp) ?_
          refine AllReadyH.cons (o := { dst := some 132, op := Go.Op.call { callee := Go.Callee.value (Go.Operand.func 7), args := #[Go.Operand.tmp 129, Go.Operand.const (Go.Value.int Go.IntKind.i64 1), Go.Operand.tmp 131], argTypes := #[38, 3, 24] }, type := 41, pos := "top.go:257", after := #[{ on := 7, ground := Go.Ground.data }, { on := 9, ground := Go.Ground.data }, { on := 9, ground := Go.Ground.chain }, { on := 6, ground := Go.Ground.guard }], guard := some (6, true) }) rfl (fun K hK => ?_) AllReadyH.nil
          go_simp
          (go_at_call 7; (with_reducible refine (chosen_any 1 a0_0 a0_1 a7 n7 c7 ls7 _ (by first | exact .inl rfl | exact .inr rfl) HP64.out HIN7.out HN7.out).mono ?_); rintro e w8 ⟨a8, n8, c8, xs8, ys8, rfl, hin6, hn6, hp6, hx⟩)
          obtain rfl : n8 = 0 := by (obtain ⟨_, _, e0, e1⟩ := chosen_facts HSF.out.st.inv HP7.out hp6; rw [e0, e1, HZ1.out] at hn6; omega)
          go_wp2_with fail
          refine hK.out _ _ (low hHeld hx) (fun hHeld => ?_)
          have HW8 := Lib.hid hHeld
          clear hK K hx hin6 hn6 hp6
          try simp only [Act.put, List.setIfInBounds_toArray, List.set_cons_zero, List.set_cons_succ]
          refine wpAnyH_take (i := 11) (oi := { dst := some 133, op := Go.Op.call { callee := Go.Callee.builtin Go.Builtin.len, args := #[Go.Operand.tmp 132], argTypes := #[41] }, type := 3, pos := "top.go:257", after := #[{ on := 10, ground := Go.Ground.data }, { on := 6, ground := Go.Ground.guard }], guard := some (6, true) }) (v := .int .i64 0) rfl (by kernel_rfl) (by kernel_rfl) (by kernel_rfl) (fun _ _ _ h => h) (Or.inl ⟨by rfl, ?yz11_7⟩) (by assumption) ?rz11_7
          case yz11_7 => (intro wS hSw; go_simp; try (first | with_reducible rfl | (split <;> omega)))
          try simp only [Act.put, List.setIfInBounds_toArray, List.set_cons_zero, List.set_cons_succ]
          refine wpAnyH_take (i := 12) (oi := { dst := some 134, op := Go.Op.binOp Go.BinOp.eql 3 (Go.Operand.tmp 133) (Go.Operand.const (Go.Value.int Go.IntKind.i64 0)) 3, type := 4, pos := "top.go:257", after := #[{ on := 11, ground := Go.Ground.data }, { on := 6, ground := Go.Ground.guard }], guard := some (6, true) }) (v := .bool true) rfl (by kernel_rfl) (by kernel_rfl) (by kernel_rfl) (fun _ _ _ h => h) (Or.inl ⟨by rfl, ?yz12_8⟩) (by assumption) ?rz12_8
          case yz12_8 => (intro wS hSw; go_simp; try (first | with_reducible rfl | (split <;> omega)))
          try simp only [Act.put, List.setIfInBounds_toArray, List.set_cons_zero, List.set_cons_succ]
          refine wpAnyH_take (i := 13) (oi := { dst := some 135, op := Go.Op.pick (Go.Operand.tmp 128) (Go.Operand.tmp 134) (Go.Operand.const (Go.Value.bool false)), type := 4, pos := "top.go:257", after := #[{ on := 6, ground := Go.Ground.data }, { on := 12, ground := Go.Ground.data }], guard := none }) (v := .bool true) rfl (by kernel_rfl) (by kernel_rfl) (by kernel_rfl) (fun _ _ _ h => h) (Or.inl ⟨by rfl, ?yz13_9⟩) (by assumption) ?rz13_9
          case yz13_9 => (intro wS hSw; go_simp; try (first | with_reducible rfl | (split <;> omega)))
          try simp only [Act.put, List.setIfInBounds_toArray, List.set_cons_zero, List.set_cons_succ]
          refine wpAnyH_take (i := 14) (oi := { dst := some 4, op := Go.Op.assign (Go.Operand.tmp 135), type := 4, pos := "top.go:257", after := #[{ on := 13, ground := Go.Ground.data }, { on := 10, ground := Go.Ground.chain }, { on := 0, ground := Go.Ground.phase }, { on := 1, ground := Go.Ground.phase }, { on := 2, ground := Go.Ground.phase }, { on := 3, ground := Go.Ground.phase }, { on := 4, ground := Go.Ground.phase }, { on := 5, ground := Go.Ground.phase }, { on := 6, ground := Go.Ground.phase }, { on := 7, ground := Go.Ground.phase }, { on := 8, ground := Go.Ground.phase }, { on := 9, ground := Go.Ground.phase }, { on := 10, ground := Go.Ground.phase }, { on := 11, ground := Go.Ground.phase }, { on := 12, ground := Go.Ground.phase }, { on := 13, ground := Go.Ground.phase }], guard := none }) (v := ?vz14_10) rfl (by kernel_rfl) (by kernel_rfl) (by kernel_rfl) (fun _ _ _ h => h) (Or.inl ⟨by rfl, ?yz14_10⟩) (by assumption) ?rz14_10
          case yz14_10 => (intro wS hSw; go_simp; try (with_reducible rfl))
          try simp only [Act.put, List.setIfInBounds_toArray, List.set_cons_zero, List.set_cons_succ]
          refine wpAnyH_done (by kernel_rfl) ?_ _
          refine NoPanic.normal ?_
          go_wp2
          go_ret
          exact ⟨rfl, low HSF.out.st.low HW8.out⟩

end Go.Proofs.Ytmncpcchdhieoaa
