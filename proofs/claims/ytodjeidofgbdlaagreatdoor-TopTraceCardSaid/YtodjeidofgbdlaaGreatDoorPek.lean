/- What was promised, looked over: the most at a moment. -/
import Derived.Test.YtodjeidofgbdlaaGreatDoorAug
import Derived.Test.YtodjeidofgbdlaaGreatDoorSoi
namespace Go.Proofs.YtodjeidofgbdlaaGreatDoor
open Go.ChangeShapes Go.WideShapes Go.ChangeAt Go.RowKit Go.Maps
set_option linter.unusedVariables false
set_option linter.unusedSimpArgs false
/-- The moments at which something begins. -/
def momL (l : List Pr) : List Int := (l.filter (fun p => decide (rightPr p))).map (·.frm)
theorem momL_more {l : List Pr} {k : Nat} {p : Pr} (h : l[k]? = some p) : momL (l.take (k + 1)) = momL (l.take k) ++ (if rightPr p then [p.frm] else []) := by
  unfold momL
  rw [List.take_add_one, h, List.filter_append, List.map_append]
  congr 1
  by_cases hr : rightPr p <;> simp [hr]
/-- The most, and when first. -/
def peakGo (ps : List Pr) : List Int → Int × Int → Int × Int
  | [], r => r
  | now :: l, r => peakGo ps l (if r.1 < ((keysU (heldD now ps)).length : Int) then (((keysU (heldD now ps)).length : Int), now) else r)
def peakF (ps : List Pr) : Int × Int := peakGo ps ((momL ps).mergeSort fun x y => decide (x ≤ y)) (0, 0)
theorem Tryz.infoI : (Tryz.prog.info? 3).map (fun i => (i.zero, i.size, i.bytes)) = some (some (.int .i64 0), 1, 8) := by kernel_rfl
set_option maxRecDepth 100000 in
set_option maxHeartbeats 1000000 in
theorem peak_any (a : Option Addr) (n c : Nat) (ps : List Pr) (w : World) (hin : PrsIn w a n c ps) (hn : n ≤ 100) :
    Calls Tryz.prog 8 #[.slice a n c] w fun e w' => e = .returned (.tuple #[.int .i64 (peakF ps).1, .int .i64 (peakF ps).2]) ∧ Below w.heap.size w w' := by
  obtain ⟨i0, hi, hz0, hz1, hz2⟩ := info_parts3 Tryz.infoI
  have HIN := Lib.hid hin
  have HLEN := Lib.hid hin.1
  clear hin
  go_enter Tryz.func8, Tryz.ntmps8
  go_wp2
  go_loopw [4, 14] (fun v i wr => ∃ k : Nat, k ≤ n ∧ i = .int .i64 k ∧ wr.ownsRow w.heap.size 3 1 v (momL (ps.take k)).length ((momL (ps.take k)).map (Value.int .i64)) ∧ Below w.heap.size w wr) (fun _ i _ => n - (intOf i).toNat)
  case atStart => exact ⟨0, by omega, rfl, World.ownsRow_nil _ _ _ _, Below.refl _ _⟩
  case round =>
    obtain ⟨k, hk, rfl, hown, hb⟩ := hrel
    have HB := Lib.hid hb
    have HOWN := Lib.hid hown
    have hml : (momL (ps.take k)).length ≤ k := by unfold momL; rw [List.length_map]; exact Nat.le_trans (List.length_filter_le _ _) (by rw [List.length_take]; omega)
    clear hb hown
    by_cases hlt : k < n
    · obtain ⟨p, hp⟩ : ∃ p, ps[k]? = some p := ⟨ps[k]'(by rw [HLEN.out]; exact hlt), List.getElem?_eq_getElem _⟩
      obtain ⟨g, o, rfl, z0, z1, z2, z3, z4⟩ := (HIN.out.keep HB.out).at hp
      have HP := Lib.hid hp
      clear hp
      have HOA := Lib.hid (HOWN.out.alloc (.cells #[.int .i64 p.srv, .int .u32 p.adr, .string p.cli, .int .i64 p.frm, .int .i64 p.unt] 29))
      have HBA := Lib.hid (show Below w.heap.size w (wr.alloc (.cells #[.int .i64 p.srv, .int .u32 p.adr, .string p.cli, .int .i64 p.frm, .int .i64 p.unt] 29)) from lowA HB.out _)
      have HN := Lib.hid ((HeldB.nil (Below.refl wr.heap.size wr)).new #[.int .i64 p.srv, .int .u32 p.adr, .string p.cli, .int .i64 p.frm, .int .i64 p.unt] 29)
      have HHO := Lib.hid (fun w => tright_any p.srv p.adr p.cli p.frm p.unt w)
      by_cases hh : rightPr p
      · have HT := Lib.hid (show decide (rightPr ⟨p.srv, p.adr, p.cli, p.frm, p.unt⟩) = true from decide_eq_true hh)
        have HH := Lib.hid hh
        clear hh
        go_wp2_with (first | (go_at_call 18; refine (HHO.out _).mono ?_; rintro e w1 ⟨he, hx⟩; rw [HT.out] at he; subst he; obtain ⟨q0, q1, q2, q3, q4⟩ := (HN.out.keep hx).b0.cells5; have hown1 := own_keep HOA.out hx; have HX := Lib.hid hx; have hs1 := (low HBA.out hx).size; clear hx) | (at_builtin; refine wpList_append_own _ rfl (.tmp 20) (.tmp 23) 56 rfl w.heap.size 3 i0 (.int .i64 0) 1 8 Tryz.underlying56 hi hz0 hz1 hz2 rfl (by decide) _ _ _ rfl (hown1.alloc (.cells #[.int .i64 p.frm] 3)) ⟨_, 0, none⟩ 1 1 [.int .i64 p.frm] rfl rfl (cell_one_new _ _ _) (by intro u hu; simp at hu; rcases hu with rfl; rfl) (by unfold maxLen; omega) (by omega) (by simp at hs1 ⊢; omega) ?_; intro v3 w3 hown3 hgr3 _))
        refine ⟨⟨k + 1, by omega, by go_num, by rw [momL_more HP.out, if_pos HH.out, List.length_append, List.map_append]; exact hown3, ?_⟩, by simp [intOf]; omega⟩
        have hbb := lowA (low HBA.out HX.out) (.cells #[.int .i64 p.frm] 3)
        refine hbb.grown hgr3 hbb.size (fun j ej => ?_)
        rcases hown1.2 with ⟨rfl, _⟩ | ⟨g1, cap1, cur1, rfl, hg1, _⟩
        · cases ej
        · cases ej
          exact hg1
      · have HT := Lib.hid (show decide (rightPr ⟨p.srv, p.adr, p.cli, p.frm, p.unt⟩) = false from decide_eq_false hh)
        have HH := Lib.hid hh
        clear hh
        go_wp2_with (go_at_call 18; refine (HHO.out _).mono ?_; rintro e w1 ⟨he, hx⟩; rw [HT.out] at he; subst he; have hown1 := own_keep HOA.out hx; have HX := Lib.hid hx; clear hx)
        go_roundw
        case rel => exact ⟨k + 1, by omega, by go_num, by rw [momL_more HP.out, if_neg HH.out, List.append_nil]; exact hown1, low HBA.out HX.out⟩
        case measure => simp [intOf]; omega
    · obtain rfl : k = n := by omega
      have hown := HOWN.out
      rw [List.take_of_length_le (by rw [HLEN.out]; omega)] at hown
      have HML := Lib.hid (show (momL ps).length ≤ 100 by rw [List.take_of_length_le (by rw [HLEN.out]; omega)] at hml; omega)
      obtain ⟨zs, hzs⟩ : ∃ zs, zs = (momL ps).mergeSort fun x y => decide (x ≤ y) := ⟨_, rfl⟩
      have hzl : zs.length = (momL ps).length := by rw [hzs]; exact List.length_mergeSort _
      obtain ⟨m, hm⟩ : ∃ m, m = (momL ps).length := ⟨_, rfl⟩
      rw [← hm] at hown hzl HML
      obtain ⟨ao, cp, rfl⟩ : ∃ ao cp, u4 = .slice ao m cp := by
        rcases hown.2 with ⟨rfl, h0⟩ | ⟨g, cap, cur, rfl, _⟩
        · exact ⟨none, 0, by rw [h0]⟩
        · exact ⟨_, _, rfl⟩
      have HSO := Lib.hid (sorti_own hown hm.symm (by have := HML.out; omega))
      rw [← hzs] at HSO
      have HZL := Lib.hid hzl
      have HZS := Lib.hid hzs
      have hm100 := HML.out
      clear hown hzl hzs hm
      go_wp2_with (go_at_call 19; refine (HSO.out).mono ?_; rintro e w1 ⟨rfl, hr1, hg1⟩)
      have HB1 := Lib.hid (show Below w.heap.size w w1 from HB.out.grown hg1 HB.out.size (fun j ej => by
        rcases hr1.2 with ⟨h, _⟩ | ⟨g1, cap1, cur1, h, hgb, _⟩ <;> cases h
        · cases ej
        · cases ej
          exact hgb))
      go_loopw [7, 8, 30] (fun v7 v8 i wr2 => ∃ (j : Nat) (r0 r1 : Int), v7 = .int .i64 r0 ∧ v8 = .int .i64 r1 ∧ i = .int .i64 j ∧ j ≤ m ∧ Hid (peakGo ps (zs.drop j) (r0, r1) = peakF ps) ∧ Below w.heap.size w wr2 ∧ wr2.ownsRow w.heap.size 3 1 (.slice ao m cp) m (zs.map (Value.int .i64))) (fun _ _ i _ => m - (intOf i).toNat)
      case atStart => exact ⟨0, 0, 0, rfl, rfl, rfl, by omega, Lib.hid (by unfold peakF; rw [← HZS.out]; rfl), HB1.out, hr1⟩
      case round =>
        obtain ⟨j, r0, r1, rfl, rfl, rfl, hj, HPK, hb2, hr2⟩ := hrel
        have HB2 := Lib.hid hb2
        have HR2 := Lib.hid hr2
        clear hb2 hr2 hr1
        by_cases hjm : j < m
        · obtain ⟨z, hz⟩ : ∃ z, zs[j]? = some z := ⟨zs[j]'(by rw [HZL.out]; exact hjm), List.getElem?_eq_getElem _⟩
          have hpk := HPK.out
          rw [List.drop_eq_getElem_cons (by rw [HZL.out]; exact hjm), show zs[j]'(by rw [HZL.out]; exact hjm) = z from (List.getElem_eq_iff _).2 hz, peakGo] at hpk
          rcases HR2.out.2 with ⟨_, h0⟩ | ⟨g, cap, cur, hv, hgb, hg, _, _, _, ht⟩
          · omega
          · cases hv
            have hcell : wr.cell? ⟨g, j, none⟩ = some (.int .i64 z) := by
              rw [cell_of_row _ _ _ _ _ _ hg, ← Array.getElem?_toList]
              have h1 := congrArg (fun l => l[j]?) ht
              simp only [Nat.mul_one] at h1
              rw [List.getElem?_take_of_lt (by omega), List.getElem?_map, hz] at h1
              exact h1
            obtain ⟨K, hK⟩ : ∃ K, K = (keysU (heldD z ps)).length := ⟨_, rfl⟩
            have HHE := Lib.hid (held_any a k c ps z wr (HIN.out.keep HB2.out) hn)
            rw [← hK] at hpk HHE
            have HPK2 := Lib.hid hpk
            clear hpk hK hz ht hg
            have hj100 : j < 100 := by omega
            go_wp2_with (go_at_call 9; refine (HHE.out).mono ?_; rintro e w3 ⟨a3, c3, rfl, hx⟩)
            · rename_i hgt
              have e := HPK2.out
              rw [if_pos (show r0 < (K : Int) by omega)] at e
              go_roundw
              case rel => exact ⟨j + 1, _, _, rfl, rfl, by go_num, by omega, Lib.hid e, low HB2.out hx, own_keep HR2.out hx⟩
              case measure => simp [intOf]; omega
            · rename_i hgt
              have e := HPK2.out
              rw [if_neg (show ¬ r0 < (K : Int) by omega)] at e
              go_roundw
              case rel => exact ⟨j + 1, _, _, rfl, rfl, by go_num, by omega, Lib.hid e, low HB2.out hx, own_keep HR2.out hx⟩
              case measure => simp [intOf]; omega
        · have e := HPK.out
          rw [List.drop_of_length_le (by rw [HZL.out]; omega)] at e
          unfold peakGo at e
          have HE := Lib.hid e
          clear e
          go_wp2
          go_ret2
          exact ⟨by rw [← HE.out]; rfl, HB2.out⟩
end Go.Proofs.YtodjeidofgbdlaaGreatDoor
