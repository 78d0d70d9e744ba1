/- The lines of a text, as an iterator hands them over. -/
import Derived.Test.YtodjeidofgbdlaaGreatDoorRrd
import Derived.Test.YtodjeidofgbdlaaGreatDoorRng
import Derived.Shelf.Abstract
import Derived.WalkKit
import Derived.OwnWalkIn
import Derived.TacticsInMore
import Derived.LoopNIn
import Derived.LoopIn
namespace Go.Proofs.YtodjeidofgbdlaaGreatDoor
open Go.ChangeShapes Go.WideShapes Go.ChangeAt Go.RowKit
set_option linter.unusedVariables false
set_option linter.unusedSimpArgs false

theorem idx_miss (c : UInt8) : ∀ l : List UInt8, (∀ b ∈ l, b ≠ c) → Lib.index l [c] = -1
  | [], _ => by unfold Lib.index; rfl
  | b :: l, h => by
    have hb : ([c] : List UInt8).isPrefixOf (b :: l) = false := by simp [List.isPrefixOf]; exact fun e => h b (.head _) e.symm
    rw [Lib.index, hb, idx_miss c l (fun x hx => h x (.tail _ hx))]
    rfl
theorem idx_hit (c : UInt8) (r : List UInt8) : ∀ u : List UInt8, (∀ b ∈ u, b ≠ c) → Lib.index (u ++ c :: r) [c] = u.length
  | [], _ => by
    have hb : ([c] : List UInt8).isPrefixOf (c :: r) = true := by simp [List.isPrefixOf]
    rw [List.nil_append, Lib.index, hb]
    rfl
  | b :: u, h => by
    have hb : ([c] : List UInt8).isPrefixOf (b :: (u ++ c :: r)) = false := by simp [List.isPrefixOf]; exact fun e => h b (.head _) e.symm
    rw [List.cons_append, Lib.index, hb, idx_hit c r u (fun x hx => h x (.tail _ hx))]
    have e : ((u.length : Int) == -1) = false := beq_eq_false_iff_ne.2 (by omega)
    rw [e]
    simp
theorem first10 : ∀ l : List UInt8, (∀ b ∈ l, b ≠ 10) ∨ ∃ u r, l = u ++ 10 :: r ∧ ∀ b ∈ u, b ≠ 10
  | [] => .inl (fun _ h => by cases h)
  | b :: l => by
    by_cases hb : b = 10
    · exact .inr ⟨[], l, by rw [hb]; rfl, fun _ h => by cases h⟩
    · rcases first10 l with h | ⟨u, r, rfl, h⟩
      · exact .inl (fun x hx => by rcases List.mem_cons.1 hx with rfl | hx; exact hb; exact h x hx)
      · exact .inr ⟨b :: u, r, rfl, fun x hx => by rcases List.mem_cons.1 hx with rfl | hx; exact hb; exact h x hx⟩
theorem cut_miss {l : List UInt8} (h : ∀ b ∈ l, b ≠ 10) : Lib.cut l [10] = (l, [], false) := by
  unfold Lib.cut
  rw [idx_miss 10 l h]
  rfl
theorem cut_hit {u r : List UInt8} (h : ∀ b ∈ u, b ≠ 10) : Lib.cut (u ++ 10 :: r) [10] = (u, r, true) := by
  unfold Lib.cut
  rw [idx_hit 10 r u h, if_pos (by omega)]
  simp
/-- A line of bounded length, with its number. -/
abbrev NL := { x : Nat × ByteArray // x.2.size ≤ 100000 }
def clip (x : Nat × ByteArray) : NL := if h : x.2.size ≤ 100000 then ⟨x, h⟩ else ⟨(x.1, { data := #[] }), Nat.zero_le _⟩
theorem clip_is {no : Nat} {l : ByteArray} (h : l.size ≤ 100000) : clip (no, l) = ⟨(no, l), h⟩ := by unfold clip; rw [dif_pos h]
def linesS (s : ByteArray) : List NL := (linesP 1 (cutsL 10 s.data.toList)).map clip
/-- What a round keeps for the iterator: its box, the library's variable. -/
def KeepsTwo (Bs : Nat) (W W' : World) : Prop := W'.heap[Bs]? = W.heap[Bs]? ∧ W'.heap[0]? = W.heap[0]?
theorem KeepsTwo.trans {Bs : Nat} {A B C : World} (h : KeepsTwo Bs A B) (k : KeepsTwo Bs B C) : KeepsTwo Bs A C := ⟨k.1.trans h.1, k.2.trans h.2⟩
theorem KeepsTwo.put {Bs : Nat} (W : World) {l : Nat} (o : Obj) (h1 : Bs < l) (h2 : 0 < l) : KeepsTwo Bs W (W.putObj l o) := ⟨World.putObj_heap_other (by omega), World.putObj_heap_other (by omega)⟩
theorem KeepsTwo.below {Bs B : Nat} {W W' : World} (h : Below B W W') (h1 : Bs < B) (h2 : 0 < B) : KeepsTwo Bs W W' := ⟨h.block Bs h1, h.block 0 h2⟩
def leftIn (Bs : Nat) (W : World) : Nat := match W.cell? ⟨Bs, 0, none⟩ with
  | some (.string s) => s.size
  | _ => 0
theorem leftIn_eq {Bs : Nat} {W : World} {s : ByteArray} (h : W.cell? ⟨Bs, 0, none⟩ = some (.string s)) : leftIn Bs W = s.size := by unfold leftIn; rw [h]

attribute [local go_sem] Oper.semAt_some
set_option maxRecDepth 100000 in
set_option maxHeartbeats 1000000 in
theorem lines_call (s : ByteArray) (w : World) : Calls Tryz.prog 13 #[.string s] w fun e w' => e = .returned (.func (.func 28) #[] #[.pointer (some ⟨w.heap.size, 0, none⟩)]) ∧ w' = w.alloc (.cells #[.string s] 9) := by
  go_enter Tryz.func13, Tryz.ntmps13
  go_wp2
  go_ret
  exact ⟨rfl, rfl⟩
set_option maxRecDepth 100000 in
set_option maxHeartbeats 1000000 in
theorem lines_iter (s : ByteArray) (hs : s.size ≤ 100000) (Bs n : Nat) (w : World) (hB3 : 0 < Bs) (hBw : Bs < w.heap.size) (hc : w.heap[Bs]? = some (.cells #[.string s] 9 (0, 0))) (hm : ∃ m, w.cell? ⟨0, 0, none⟩ = some (.int .i64 m)) :
    Iterates Bs Fence.wide n Tryz.prog 28 #[.pointer (some ⟨Bs, 0, none⟩)] (fun x : NL => #[Value.int .i64 x.1.1, Value.string x.1.2]) (KeepsTwo Bs) (fun xs => xs = linesS s) (fun pre => pre <+: linesS s) (s.size + 1) w := by
  intro l J Jx W hW hJ hJc hY h0
  have hcW : W.heap[Bs]? = some (.cells #[.string s] 9 (0, 0)) := (hW.block Bs hBw).trans hc
  have hmW : ∃ m, W.cell? ⟨0, 0, none⟩ = some (.int .i64 m) := by
    obtain ⟨m, h⟩ := hm
    exact ⟨m, (hW.cell (p := ⟨0, 0, none⟩) (show 0 < w.heap.size by omega)).trans h⟩
  have HJ := Lib.hid hJ
  have HJC := Lib.hid hJc
  have HY := Lib.hid hY
  clear hc hm hJ hJc hY
  refine callsIn_of_wp Tryz.func28 rfl trivial ?_ rfl
  simp only [Tryz.ntmps28, List.size_toArray, List.length_cons, List.length_nil, Nat.reduceAdd, Nat.reduceSub, Array.replicate_succ, Array.replicate_zero, List.push_toArray, List.append_toArray, List.nil_append, List.cons_append]
  gi_wp2
  gi_loopw [3] (fun i wr => ∃ (no : Nat) (s' : ByteArray) (pre : List NL), i = .int .i64 no ∧ no = pre.length + 1 ∧ wr.heap[Bs]? = some (.cells #[.string s'] 9 (0, 0)) ∧ (∃ m, wr.cell? ⟨0, 0, none⟩ = some (.int .i64 m)) ∧ linesS s = pre ++ (linesP no (cutsL 10 s'.data.toList)).map clip ∧ s'.size + pre.length ≤ s.size ∧ J pre wr) (fun _ wr => leftIn Bs wr)
  case atStart => exact ⟨1, s, [], rfl, rfl, hcW, hmW, rfl, by simp, h0⟩
  case round =>
    obtain ⟨no, s', pre, rfl, hno, hcell, ⟨m, hm3⟩, hl, hsz, hj⟩ := hrel
    have HNO := Lib.hid hno
    have hnb : no ≤ 100001 := by omega
    have HL := Lib.hid hl
    have HJP := Lib.hid hj
    have hB : Blk wr Bs #[.string s'] 9 := hcell
    have HBL := Lib.hid hB
    have hcs := hB.cells1
    have HLEFT := Lib.hid (leftIn_eq hcs)
    clear hno hl hj hcell hcW hmW h0
    by_cases he : s' = { data := #[] }
    · subst he
      have b1 : (({ data := #[] } : ByteArray).toList != ({ data := #[] } : ByteArray).toList) = false := str_eqb' rfl
      gi_wp2
      go_end0
      have e : linesS s = pre := by rw [HL.out]; simp [cutsL, linesP]
      refine ⟨⟨_, rfl⟩, .inl ?_⟩
      first | exact ⟨pre, e.symm, HJP.out⟩ | (rw [e]; exact HJP.out)
    · have b1 : (s'.toList != ({ data := #[] } : ByteArray).toList) = true := str_ne' he
      have hne : s'.data.toList ≠ [] := fun h => he (by rw [← bl_of s', h]; rfl)
      have b2 : s'.toList.isEmpty = false := by
        rw [Lib.toList_data]
        cases h : s'.data.toList with
        | nil => exact absurd h hne
        | cons _ _ => rfl
      rcases first10 s'.data.toList with h10 | ⟨u, r, hur, h10⟩
      · have HCUT := Lib.hid (show Calls Tryz.prog 29 #[.string s', .string { data := #[10] }] wr fun e w' => e = .returned (.tuple #[.string s', .string { data := #[] }, .bool false]) ∧ ∃ n, w' = wr.drewN n from by
          have h := Tryz.strings_Cut s' { data := #[10] } m wr (by omega) hm3
          rw [show ({ data := #[10] } : ByteArray).data.toList = [10] from rfl, cut_miss h10] at h
          refine h.mono ?_
          rintro e w' ⟨rfl, hw⟩
          exact ⟨by rw [Lib.mk_data], hw⟩)
        have hz1 : ({ data := #[10] } : ByteArray).size ≤ 100000 := by decide
        have hzz : 0 < s'.size := by
          rcases Nat.eq_zero_or_pos s'.size with h | h
          · exact absurd (List.length_eq_zero_iff.1 (by rw [Array.length_toList]; exact h)) hne
          · exact h
        have hz0 : ({ data := #[] } : ByteArray).size = 0 := rfl
        have HLS := Lib.hid (show linesS s = pre ++ [⟨(no, { data := #[10] }), hz1⟩] from by
          rw [HL.out, cutsL_none _ _ h10, linesP, if_neg hne, List.map_cons, List.map_nil, clip_is hz1])
        clear h10 hne
        gi_wp2_with (refine ⟨trivial, (fun h => absurd h (by decide)), ?_⟩; refine (callsIn_wide.2 HCUT.out).mono ?_; rintro e w' ⟨rfl, q, rfl⟩; have c1 : (wr.drewN q).cell? ⟨Bs, 0, none⟩ = some (.string s') := hcs; have f1 : (wr.drewN q).frozen? ⟨Bs, 0, none⟩ = false := HBL.out.free 0; have HB2 := Lib.hid (show Blk ((wr.drewN q).setCell ⟨Bs, 0, none⟩ (.string ({ data := #[] } : ByteArray))) Bs #[.string ({ data := #[] } : ByteArray)] 9 from (show Blk (wr.drewN q) Bs #[.string s'] 9 from HBL.out).set 0 _); have c3 : ((wr.drewN q).setCell ⟨Bs, 0, none⟩ (.string ({ data := #[] } : ByteArray))).cell? ⟨0, 0, none⟩ = some (.int .i64 m) := (World.cell?_setCell_other _ _ _ _ (by intro h; cases h; omega)).trans hm3; obtain ⟨fn, tmps, assign, body, hy, hR⟩ := HY.out pre ⟨(no, { data := #[10] }), hz1⟩ ((wr.drewN q).setCell ⟨Bs, 0, none⟩ (.string ({ data := #[] } : ByteArray))) (HJC.out _ _ _ (HJ.out pre wr (wr.drewN q) none HJP.out ⟨rfl, rfl, rfl, Nat.le_refl _, fun _ _ _ => rfl⟩ (fun r h => by cases h))) (by omega); dsimp only at hy; have C3 := Lib.hid c3; clear c3)
        refine ⟨(fun h => absurd h (by decide)), hR.mono ?_⟩
        rintro e W3 (⟨rfl, hJ3, hk3⟩ | ⟨rfl, hJx3⟩)
        · have HB3 := Lib.hid (show Blk W3 Bs #[.string ({ data := #[] } : ByteArray)] 9 from hk3.1.trans HB2.out)
          have HM3 := Lib.hid (show W3.cell? ⟨0, 0, none⟩ = some (.int .i64 m) from (World.cell?_of_block (a := ⟨0, 0, none⟩) hk3.2).trans C3.out)
          have HL3 := Lib.hid (leftIn_eq HB3.out.cells1)
          have HJ3 := Lib.hid hJ3
          clear hJ3 hk3
          gi_wp2
          go_roundw
          case rel => exact ⟨no + 1, ({ data := #[] } : ByteArray), pre ++ [⟨(no, { data := #[10] }), hz1⟩], by go_num, by have := HNO.out; rw [List.length_append, List.length_singleton]; omega, HB3.out, ⟨m, HM3.out⟩, by rw [HLS.out]; simp [cutsL, linesP], by rw [List.length_append, List.length_singleton]; omega, HJ3.out⟩
          case measure => rw [HL3.out, HLEFT.out]; omega
        · gi_wp2
          refine bodyPost_ret (results_none rfl _ _ _) rfl ?_
          exact ⟨⟨_, rfl⟩, .inr ⟨pre ++ [⟨(no, { data := #[10] }), hz1⟩], ⟨[], by rw [HLS.out]; simp⟩, hJx3⟩⟩
      · have hur2 : s'.size = u.length + (r.length + 1) := by
          have h := congrArg List.length hur
          rw [Array.length_toList, List.length_append, List.length_cons] at h
          exact h
        have hz1 : (bl u).size ≤ 100000 := by rw [bl_size]; omega
        have hz2 : (bl r).size = r.length := bl_size r
        have HLS := Lib.hid (show linesS s = pre ++ ⟨(no, bl u), hz1⟩ :: (linesP (no + 1) (cutsL 10 r)).map clip from by
          rw [HL.out, hur, cutsL_word _ _ _ h10, linesP_cons _ _ (cutsL_ne _ _), List.map_cons, clip_is hz1])
        have HCUT := Lib.hid (show Calls Tryz.prog 29 #[.string s', .string { data := #[10] }] wr fun e w' => e = .returned (.tuple #[.string (bl u), .string (bl r), .bool true]) ∧ ∃ n, w' = wr.drewN n from by
          have h := Tryz.strings_Cut s' { data := #[10] } m wr (by omega) hm3
          rw [show ({ data := #[10] } : ByteArray).data.toList = [10] from rfl, hur, cut_hit h10] at h
          exact h)
        clear h10 hne hur
        gi_wp2_with (refine ⟨trivial, (fun h => absurd h (by decide)), ?_⟩; refine (callsIn_wide.2 HCUT.out).mono ?_; rintro e w' ⟨rfl, q, rfl⟩; have c1 : (wr.drewN q).cell? ⟨Bs, 0, none⟩ = some (.string s') := hcs; have f1 : (wr.drewN q).frozen? ⟨Bs, 0, none⟩ = false := HBL.out.free 0; have HB2 := Lib.hid (show Blk ((wr.drewN q).setCell ⟨Bs, 0, none⟩ (.string (bl r))) Bs #[.string (bl r)] 9 from (show Blk (wr.drewN q) Bs #[.string s'] 9 from HBL.out).set 0 _); have c3 : ((wr.drewN q).setCell ⟨Bs, 0, none⟩ (.string (bl r))).cell? ⟨0, 0, none⟩ = some (.int .i64 m) := (World.cell?_setCell_other _ _ _ _ (by intro h; cases h; omega)).trans hm3; obtain ⟨fn, tmps, assign, body, hy, hR⟩ := HY.out pre ⟨(no, bl u), hz1⟩ ((wr.drewN q).setCell ⟨Bs, 0, none⟩ (.string (bl r))) (HJC.out _ _ _ (HJ.out pre wr (wr.drewN q) none HJP.out ⟨rfl, rfl, rfl, Nat.le_refl _, fun _ _ _ => rfl⟩ (fun r h => by cases h))) (by omega); dsimp only at hy; have C3 := Lib.hid c3; clear c3)
        refine ⟨(fun h => absurd h (by decide)), hR.mono ?_⟩
        rintro e W3 (⟨rfl, hJ3, hk3⟩ | ⟨rfl, hJx3⟩)
        · have HB3 := Lib.hid (show Blk W3 Bs #[.string (bl r)] 9 from hk3.1.trans HB2.out)
          have HM3 := Lib.hid (show W3.cell? ⟨0, 0, none⟩ = some (.int .i64 m) from (World.cell?_of_block (a := ⟨0, 0, none⟩) hk3.2).trans C3.out)
          have HL3 := Lib.hid (leftIn_eq HB3.out.cells1)
          have HJ3 := Lib.hid hJ3
          clear hJ3 hk3
          gi_wp2
          go_roundw
          case rel => exact ⟨no + 1, (bl r), pre ++ [⟨(no, bl u), hz1⟩], by go_num, by have := HNO.out; rw [List.length_append, List.length_singleton]; omega, HB3.out, ⟨m, HM3.out⟩, by rw [HLS.out, bl_data, List.append_assoc]; rfl, by rw [List.length_append, List.length_singleton]; omega, HJ3.out⟩
          case measure => rw [HL3.out, HLEFT.out]; omega
        · gi_wp2
          refine bodyPost_ret (results_none rfl _ _ _) rfl ?_
          exact ⟨⟨_, rfl⟩, .inr ⟨pre ++ [⟨(no, bl u), hz1⟩], ⟨_, by rw [HLS.out, List.append_assoc]; rfl⟩, hJx3⟩⟩

end Go.Proofs.YtodjeidofgbdlaaGreatDoor
