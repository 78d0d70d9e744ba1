/- The words of a line, by the reference. -/
import Derived.Test.YtodjeidofgbdlaaDoorVal
import Derived.Test.YtodjeidofgbdlaaDoorCut
namespace Go.Proofs.YtodjeidofgbdlaaDoor
open Go.ChangeShapes Go.WideShapes Go.ChangeAt Go.RowKit
set_option linter.unusedVariables false
set_option linter.unusedSimpArgs false

theorem Tryd.info9 : (Tryd.prog.info? 9).map (fun i => (i.zero, i.size, i.bytes)) = some (some (.string { data := #[] }), 1, 16) := by kernel_rfl
theorem info_parts3 {x : Option TypeInfo} {z : Value} {a c : Nat} (h : x.map (fun i => (i.zero, i.size, i.bytes)) = some (some z, a, c)) : ∃ i, x = some i ∧ i.zero = some z ∧ i.size = a ∧ i.bytes = c := by
  cases x with
  | none => cases h
  | some i =>
    simp only [Option.map_some, Option.some.injEq, Prod.mk.injEq] at h
    exact ⟨i, rfl, h.1, h.2.1, h.2.2⟩
theorem set_last {α : Type} {ws : List α} {y : α} (h : ws[ws.length - 1]? = some y) : ∃ init, ws = init ++ [y] ∧ ∀ z, ws.set (ws.length - 1) z = init ++ [z] := by
  rcases List.eq_nil_or_concat ws with rfl | ⟨init, x, rfl⟩
  · simp at h
  · simp only [List.concat_eq_append] at h ⊢
    rw [List.length_append, List.length_singleton, Nat.add_sub_cancel] at h ⊢
    have hx : x = y := by simpa using h
    subst hx
    exact ⟨init, rfl, fun z => by simp⟩
theorem ext_one {s : ByteArray} {k : Nat} (h : k < s.size) : (s.extract k (k + 1)).data.toList = [s[k]] := by
  have hl : k < s.data.toList.length := by rw [Array.length_toList]; exact h
  rw [Lib.extract_data]
  have e : k + 1 - k = 1 := by omega
  simp only [e]
  rw [List.drop_eq_getElem_cons hl]
  rfl
theorem below_set {B : Nat} {a w : World} (h : Below B a w) {g i : Nat} (hp : B ≤ g) (u : Value) : Below B a (w.setCell ⟨g, i, none⟩ u) := h.setCell hp u
def strs (ws : List ByteArray) : List Value := ws.map Value.string
set_option maxRecDepth 100000 in
set_option maxHeartbeats 1000000 in
theorem words_any (s : ByteArray) (hs : s.size ≤ 1000) (w : World) : Calls Tryd.prog 32 #[.string s] w fun e w' => ∃ v ws, e = .returned v ∧ w'.ownsRow w.heap.size 9 1 v ws.length (strs ws) ∧ ws.map (·.data.toList) = cutsL 32 s.data.toList ∧ Below w.heap.size w w' := by
  obtain ⟨i0, hi, hz0, hz1, hz2⟩ := info_parts3 Tryd.info9
  go_enter Tryd.func32, Tryd.ntmps32
  go_wp2
  go_loopw [3, 4] (fun v i wr => ∃ (k : Nat) (ws : List ByteArray), k ≤ s.size ∧ i = .int .i64 k ∧ wr.ownsRow w.heap.size 9 1 v ws.length (strs ws) ∧ ws ≠ [] ∧ ws.length ≤ k + 1 ∧ (∀ x ∈ ws, x.size ≤ k) ∧ glue (ws.map (·.data.toList)) (cutsL 32 (s.data.toList.drop k)) = cutsL 32 s.data.toList ∧ Below w.heap.size w wr) (fun _ i _ => s.size - (intOf i).toNat)
  case atStart => exact ⟨0, [{ data := #[] }], by omega, rfl, World.ownsRow_lit (base := w.heap.size) (e := 9) (size := 1) w #[.string { data := #[] }] 1 (Nat.le_refl _) (by decide) rfl, by simp, by simp, (fun y hy => by rw [List.mem_singleton.1 hy]; exact Nat.le_refl _), by rw [List.drop_zero]; cases hc : cutsL 32 s.data.toList with | nil => exact absurd hc (cutsL_ne _ _) | cons c cs => rfl, low0 w _⟩
  case round =>
    obtain ⟨k, ws, hk, rfl, hown, hne, hlen, hsz, hgl, hb⟩ := hrel
    have HO := Lib.hid hown
    have HNE := Lib.hid hne
    have HSZ := Lib.hid hsz
    have HGL := Lib.hid hgl
    have HB := Lib.hid hb
    clear hown hne hsz hgl hb
    by_cases hlt : k < s.size
    · obtain ⟨x, hx⟩ : ∃ x : Nat, x = (s[k]'hlt).toNat := ⟨_, rfl⟩
      have HG := Lib.hid (drop_get s k hlt)
      have hx2 : x < 256 := by rw [hx]; exact UInt8.toNat_lt _
      have hb : (s[k]'hlt).toNat = x := hx.symm
      clear hx
      by_cases h32 : x = 32
      · have q1 : ((x : Int) == 32) = true := by simp [h32]
        have e32 : s[k]'hlt = 32 := UInt8.toNat_inj.1 (by rw [hb, h32]; rfl)
        have HE := Lib.hid (show glue ((ws ++ [({ data := #[] } : ByteArray)]).map (·.data.toList)) (cutsL 32 (s.data.toList.drop (k + 1))) = cutsL 32 s.data.toList from by
          rw [← HGL.out, HG.out, cuts_same e32, List.map_append]
          exact (glue_new _ _ (by simpa using HNE.out) (cutsL_ne _ _)).symm)
        clear e32
        go_wp2_with (at_builtin; refine wpList_append_own _ rfl (.tmp 16) (.tmp 17) 45 rfl w.heap.size 9 i0 (.string { data := #[] }) 1 16 Tryd.underlying45 hi hz0 hz1 hz2 rfl (by decide) _ ws.length (strs ws) rfl (HO.out.alloc _) ⟨wr.heap.size, 0, none⟩ 1 1 [.string { data := #[] }] rfl rfl (cell_one_new _ _ _) (by intro u hu; simp at hu; subst hu; rfl) (by unfold maxLen; omega) (by omega) (by have := HB.out.size; simp; omega) ?_; intro v1 w3 hown3 hgr3 _; have HO3 := Lib.hid hown3; have HB3 := Lib.hid (Below.grownOwn (lowA HB.out (.cells #[.string { data := #[] }] 9)) (HO.out.alloc (.cells #[.string { data := #[] }] 9)) hgr3 (Nat.le_refl _)); clear hown3 hgr3)
        exact ⟨⟨k + 1, ws ++ [{ data := #[] }], by omega, by go_num, by rw [List.length_append]; unfold strs; rw [List.map_append]; exact HO3.out, by simp, by rw [List.length_append, List.length_singleton]; omega, (fun y hy => by rcases List.mem_append.1 hy with h | h; exact Nat.le_trans (HSZ.out y h) (by omega); rw [List.mem_singleton.1 h]; exact Nat.zero_le _), HE.out, HB3.out⟩, by simp [intOf]; omega⟩
      · have q1 : ((x : Int) == 32) = false := by simp; omega
        have n32 : s[k]'hlt ≠ 32 := fun h => h32 (by rw [← hb, h]; rfl)
        have hn1 : 0 < ws.length := by cases ws with | nil => exact absurd rfl HNE.out | cons _ _ => simp
        obtain ⟨g, cap, hv, hg1, hg2, hcell, hfz, hset⟩ := own_set HO.out (j := ws.length - 1) (by omega)
        have HSET := Lib.hid hset
        obtain ⟨y, hy⟩ : ∃ y : ByteArray, ws[ws.length - 1]? = some y := ⟨ws[ws.length - 1]'(by omega), List.getElem?_eq_getElem (by omega)⟩
        have hcy : wr.cell? ⟨g, ws.length - 1, none⟩ = some (.string y) := by rw [hcell]; unfold strs; rw [List.getElem?_map, hy]; rfl
        have hys : y.size ≤ k := HSZ.out y (List.mem_of_getElem? hy)
        have hex : (s.extract k (k + 1)).size = 1 := by rw [ByteArray.size_extract]; omega
        have HY := Lib.hid hy
        have H32 := Lib.hid n32
        clear hset hcell hy n32
        have HCY := Lib.hid hcy
        have HFZ := Lib.hid hfz
        clear hcy hfz
        subst hv
        have hmi : ((ws.length : Int) - 1) = ((ws.length - 1 : Nat) : Int) := by omega
        go_upto_region 7 with (fail)
        refine wp_region_seq (S := fun wS => Hid (wS = wr.drew)) 17 (by kernel_rfl) (by kernel_rfl) (Lib.hid rfl) ?_
        simp only [List.take_succ_cons, List.take_zero, List.drop_succ_cons, List.drop_zero]
        refine wpHeld_val (v := ?vx0) (by rfl) ?yx0 ?rx0
        case yx0 => (intro wS hSw; go_simp; try (with_reducible rfl))
        try simp only [Act.put, List.setIfInBounds_toArray, List.set_cons_zero, List.set_cons_succ]
        refine wpHeld_val (v := ?vx1) (by rfl) ?yx1 ?rx1
        case yx1 => (intro wS hSw; go_simp; try (with_reducible rfl))
        try simp only [Act.put, List.setIfInBounds_toArray, List.set_cons_zero, List.set_cons_succ]
        refine wpHeld_val (v := ?vx2) (by rfl) ?yx2 ?rx2
        case yx2 => (intro wS hSw; go_simp; try (with_reducible rfl))
        try simp only [Act.put, List.setIfInBounds_toArray, List.set_cons_zero, List.set_cons_succ]
        refine wpHeld_val (v := .int .i64 ((ws.length - 1 : Nat) : Int)) (by rfl) ?yx3 ?rx3
        case yx3 => (intro wS hSw; go_simp; try (first | with_reducible rfl | exact IntWalk.i64_in _ (by omega)))
        try simp only [Act.put, List.setIfInBounds_toArray, List.set_cons_zero, List.set_cons_succ]
        refine wpHeld_val (v := ?vx4) (by rfl) ?yx4 ?rx4
        case yx4 => (intro wS hSw; go_simp; try (with_reducible rfl))
        try simp only [Act.put, List.setIfInBounds_toArray, List.set_cons_zero, List.set_cons_succ]
        refine wpHeld_val (v := ?vx5) (by rfl) ?yx5 ?rx5
        case yx5 => (intro wS hSw; go_simp; try (with_reducible rfl))
        try simp only [Act.put, List.setIfInBounds_toArray, List.set_cons_zero, List.set_cons_succ]
        refine wpHeld_val (v := ?vx6) (by rfl) ?yx6 ?rx6
        case yx6 => (intro wS hSw; go_simp; try (with_reducible rfl))
        try simp only [Act.put, List.setIfInBounds_toArray, List.set_cons_zero, List.set_cons_succ]
        refine wpHeld_val (v := .int .i64 ((ws.length - 1 : Nat) : Int)) (by rfl) ?yx7 ?rx7
        case yx7 => (intro wS hSw; go_simp; try (first | with_reducible rfl | exact IntWalk.i64_in _ (by omega)))
        try simp only [Act.put, List.setIfInBounds_toArray, List.set_cons_zero, List.set_cons_succ]
        refine wpHeld_val (v := .pointer (some ⟨g, ws.length - 1, none⟩)) (by rfl) ?yx8 ?rx8
        case yx8 => (intro wS hSw; go_simp; try (first | with_reducible rfl | omega | (rw [if_pos (by omega)]; rfl)))
        try simp only [Act.put, List.setIfInBounds_toArray, List.set_cons_zero, List.set_cons_succ]
        refine wpHeld_val (v := ?vx9) (by rfl) ?yx9 ?rx9
        case yx9 => (intro wS hSw; have hcw : wS.cell? ⟨g, ws.length - 1, none⟩ = some (.string y) := hSw.out ▸ HCY.out; go_simp; try (with_reducible rfl))
        try simp only [Act.put, List.setIfInBounds_toArray, List.set_cons_zero, List.set_cons_succ]
        refine wpHeld_val (v := ?vx10) (by rfl) ?yx10 ?rx10
        case yx10 => (intro wS hSw; go_simp; try (with_reducible rfl))
        try simp only [Act.put, List.setIfInBounds_toArray, List.set_cons_zero, List.set_cons_succ]
        refine wpHeld_val (v := ?vx11) (by rfl) ?yx11 ?rx11
        case yx11 => (intro wS hSw; go_simp; try (with_reducible rfl))
        try simp only [Act.put, List.setIfInBounds_toArray, List.set_cons_zero, List.set_cons_succ]
        refine wpHeld_val (v := ?vx12) (by rfl) ?yx12 ?rx12
        case yx12 => (intro wS hSw; go_simp; try (with_reducible rfl))
        try simp only [Act.put, List.setIfInBounds_toArray, List.set_cons_zero, List.set_cons_succ]
        refine wpHeld_val (v := .int .i64 ((k : Int) + 1)) (by rfl) ?yx13 ?rx13
        case yx13 => (intro wS hSw; go_simp; try (first | with_reducible rfl | exact IntWalk.i64_in _ (by omega)))
        try simp only [Act.put, List.setIfInBounds_toArray, List.set_cons_zero, List.set_cons_succ]
        refine wpHeld_val (v := .string (s.extract k (k + 1))) (by rfl) ?yx14 ?rx14
        case yx14 => (intro wS hSw; go_simp; try (first | with_reducible rfl | (rw [if_pos (by omega), if_pos (by omega)])))
        try simp only [Act.put, List.setIfInBounds_toArray, List.set_cons_zero, List.set_cons_succ]
        refine wpHeld_val (v := .string (y ++ s.extract k (k + 1))) (by rfl) ?yx15 ?rx15
        case yx15 => (intro wS hSw; go_simp; try (first | with_reducible rfl | omega | (rw [if_neg (by omega)])))
        try simp only [Act.put, List.setIfInBounds_toArray, List.set_cons_zero, List.set_cons_succ]
        refine wpHeld_val (v := .pointer (some ⟨g, ws.length - 1, none⟩)) (by rfl) ?yx16 ?rx16
        case yx16 => (intro wS hSw; go_simp; try (first | with_reducible rfl | omega | (rw [if_pos (by omega)]; rfl)))
        try simp only [Act.put, List.setIfInBounds_toArray, List.set_cons_zero, List.set_cons_succ]
        refine wpHeld_nil ?_
        intro wS hSw
        have hw := hSw.out
        clear hSw
        subst hw
        have hfz2 := HFZ.out
        have hcy2 := HCY.out
        go_wp2
        obtain ⟨init, hw1, hw2⟩ := set_last HY.out
        obtain ⟨c, cs, hc1, hc2⟩ := cuts_other H32.out
        have hbel : Below w.heap.size w (wr.setCell ⟨g, ws.length - 1, none⟩ (.string (y ++ s.extract k (k + 1)))).drew := (below_set HB.out hg1 _).drew
        refine ⟨⟨k + 1, ws.set (ws.length - 1) (y ++ s.extract k (k + 1)), by omega, by go_num, ?_, ?_, ?_, ?_, ?_, hbel⟩, by simp [intOf]; omega⟩
        · rw [List.length_set]
          unfold strs
          rw [List.map_set]
          exact (HSET.out _).drew
        · rw [hw2]; simp
        · rw [List.length_set]; omega
        · intro z hz
          rw [hw2] at hz
          rcases List.mem_append.1 hz with h | h
          · exact Nat.le_trans (HSZ.out z (by rw [hw1]; exact List.mem_append_left _ h)) (by omega)
          · rw [List.mem_singleton.1 h, ByteArray.size_append]; omega
        · rw [hw2, ← HGL.out, HG.out, hc1, hc2, hw1]
          simp only [List.map_append, List.map_cons, List.map_nil, app_data, ext_one hlt]
          exact (glue_more _ _ _ _ _).symm
    · obtain rfl : k = s.size := by omega
      have HE := Lib.hid (show ws.map (·.data.toList) = cutsL 32 s.data.toList from by rw [← HGL.out, drop_end]; exact (glue_nil _ (by simpa using HNE.out)).symm)
      go_wp2
      go_ret
      exact ⟨_, ws, rfl, HO.out, HE.out, HB.out⟩

end Go.Proofs.YtodjeidofgbdlaaDoor
