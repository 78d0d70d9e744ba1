/- What was promised, looked over: who holds at a moment. -/
import Derived.Test.YtodjeidofgbdlaaGreatDoorAud
import Derived.Test.YtodjeidofgbdlaaGreatDoorTxt
import Derived.Maps.Own
import Derived.Test.YtodjeidofgbdlaaGreatDoorSrt
namespace Go.Proofs.YtodjeidofgbdlaaGreatDoor
open Go.ChangeShapes Go.WideShapes Go.ChangeAt Go.RowKit Go.Maps
set_option linter.unusedVariables false
set_option linter.unusedSimpArgs false
/-- The set of those who hold. -/
def heldStep (now : Int) (D : DataW Unit) (p : Pr) : DataW Unit := if holdsP p now then D.put (.int .u32 p.adr) (.lit (.bool true)) else D
def heldD (now : Int) (l : List Pr) : DataW Unit := l.foldl (heldStep now) (.map [])
theorem heldD_more {now : Int} {l : List Pr} {k : Nat} {p : Pr} (h : l[k]? = some p) : heldD now (l.take (k + 1)) = heldStep now (heldD now (l.take k)) p := by
  unfold heldD
  rw [List.take_add_one, h, List.foldl_append]
  rfl
theorem akeyed : Keyed Tryz.prog 27 := int_keyed Tryz.underlying27
theorem keys_few {w : World} {R : Value → Option (DataW Unit × List MemPlace)} {b n : Nat} {D : DataW Unit} (h : w.ownsMap Tryz.prog 27 R b n D) : (keysU D).length ≤ n := by
  obtain ⟨es, clock, _, _, hs, rfl⟩ := h
  show (List.map (fun p : Lit × DataW Unit => litNum p.1) _).length ≤ n
  rw [List.length_map, length_sorted]
  simpa using hs
theorem wfU {x : Int} (h : 0 ≤ x ∧ x ≤ 4294967295) : (Lit.int .u32 x).wf = true := by
  have e1 : IntKind.u32.min = 0 := by decide
  have e2 : IntKind.u32.max = 4294967295 := by decide
  simp [Lit.wf, e1, e2]
  omega
theorem ownsMap_below {w w' : World} {P : Program} {k : TypeId} {R : Value → Option (DataW Unit × List MemPlace)} {b n : Nat} {D : DataW Unit} (h : w.ownsMap P k R b n D) (hb : Below w.heap.size w w') : w'.ownsMap P k R b n D :=
  h.kept (row := none) ⟨hb.os, hb.tape, hb.output, hb.size, fun i hi _ => hb.block i hi⟩ (by simp)
set_option maxRecDepth 100000 in
set_option maxHeartbeats 1000000 in
theorem held_any (a : Option Addr) (n c : Nat) (ps : List Pr) (now : Int) (w : World) (hin : PrsIn w a n c ps) (hn : n ≤ 100) :
    Calls Tryz.prog 9 #[.slice a n c, .int .i64 now] w fun e w' => ∃ a c, e = .returned (.slice a (keysU (heldD now ps)).length c) ∧ Below w.heap.size w w' := by
  have HIN := Lib.hid hin
  have HLEN := Lib.hid hin.1
  clear hin
  have hmm := @run_makeMap Tryz.prog
  go_enter Tryz.func9, Tryz.ntmps9
  go_wp2
  go_loopw [11] (fun i wr => ∃ k : Nat, k ≤ n ∧ i = .int .i64 k ∧ wr.ownsMap Tryz.prog 27 (plainElem Tryz.prog 4) w.heap.size k (heldD now (ps.take k)) ∧ Below w.heap.size w wr) (fun i _ => n - (intOf i).toNat)
  case atStart => exact ⟨0, by omega, rfl, World.ownsMap_made _ _ _ _, (Below.refl _ _).alloc (Nat.le_refl _) _⟩
  case round =>
    obtain ⟨k, hk, rfl, hown, hb⟩ := hrel
    have HB := Lib.hid hb
    have HOWN := Lib.hid hown
    clear hb hown
    by_cases hlt : k < n
    · obtain ⟨p, hp⟩ : ∃ p, ps[k]? = some p := ⟨ps[k]'(by rw [HLEN.out]; exact hlt), List.getElem?_eq_getElem _⟩
      have hfit := HIN.out.fit hp
      obtain ⟨g, o, rfl, z0, z1, z2, z3, z4⟩ := (HIN.out.keep HB.out).at hp
      have HP := Lib.hid hp
      clear hp
      have HOA := Lib.hid (HOWN.out.alloc (.cells #[.int .i64 p.srv, .int .u32 p.adr, .string p.cli, .int .i64 p.frm, .int .i64 p.unt] 29))
      have HBA := Lib.hid (show Below w.heap.size w (wr.alloc (.cells #[.int .i64 p.srv, .int .u32 p.adr, .string p.cli, .int .i64 p.frm, .int .i64 p.unt] 29)) from lowA HB.out _)
      have HN := Lib.hid ((HeldB.nil (Below.refl wr.heap.size wr)).new #[.int .i64 p.srv, .int .u32 p.adr, .string p.cli, .int .i64 p.frm, .int .i64 p.unt] 29)
      have HF := Lib.hid hfit
      clear hfit
      have HHO := Lib.hid (fun w => holds_any ⟨p.srv, p.adr, p.cli, p.frm, p.unt⟩ now w)
      by_cases hh : holdsP p now
      · have HT := Lib.hid (show decide (holdsP ⟨p.srv, p.adr, p.cli, p.frm, p.unt⟩ now) = true from decide_eq_true hh)
        have HH := Lib.hid hh
        clear hh
        go_wp2_with (first | (go_at_call 20; refine (HHO.out _).mono ?_; rintro e w1 ⟨he, hx⟩; rw [HT.out] at he; subst he; obtain ⟨q0, q1, q2, q3, q4⟩ := (HN.out.keep hx).b0.cells5; have hown1 := (ownsMap_below HOA.out hx); have HX := Lib.hid hx; clear hx) | (at_mapUpdate; refine wpList_mapUpdate_own _ rfl _ _ _ 58 rfl 27 4 akeyed Tryz.underlying58 _ w.heap.size k _ rfl hown1 (by unfold maxLen; omega) _ _ _ rfl rfl (keyOf_int_mk Tryz.underlying27 (wfU HF.out)) _ [] (plainElem_bool Tryz.underlying4 true) ?_; intro w2 hown2 hgrow2))
        refine ⟨⟨k + 1, by omega, by go_num, by rw [heldD_more HP.out]; unfold heldStep; rw [if_pos HH.out]; exact hown2, ?_⟩, ?_⟩
        · have hbb := low HBA.out HX.out
          exact hbb.grown hgrow2 hbb.size (fun j hj => by cases hj; exact Nat.le_refl _)
        · simp [intOf]; omega
      · have HT := Lib.hid (show decide (holdsP ⟨p.srv, p.adr, p.cli, p.frm, p.unt⟩ now) = false from decide_eq_false hh)
        have HH := Lib.hid hh
        clear hh
        go_wp2_with (go_at_call 20; refine (HHO.out _).mono ?_; rintro e w1 ⟨he, hx⟩; rw [HT.out] at he; subst he; have hown1 := (ownsMap_below HOA.out hx); have HX := Lib.hid hx; clear hx)
        go_roundw
        case rel => exact ⟨k + 1, by omega, by go_num, by rw [heldD_more HP.out]; unfold heldStep; rw [if_neg HH.out]; exact hown1.mono (by omega), low HBA.out HX.out⟩
        case measure => simp [intOf]; omega
    · obtain rfl : k = n := by omega
      have hown := HOWN.out
      rw [List.take_of_length_le (by rw [HLEN.out]; omega)] at hown
      have hlen : (keysU (heldD now ps)).length ≤ k := keys_few hown
      have hs := HB.out.size
      have HS := Lib.hid (asorted_any wr.heap.size w.heap.size k ((keysU (heldD now ps)).length + 1) (heldD now ps) (wr.alloc (.cells #[.map (some w.heap.size)] 58)) _ (by simp) (cell_of_row _ _ 0 _ _ _ (heap_alloc_new wr _)) (hown.alloc _) (by omega) (by omega) hown.lt)
      clear hown
      go_wp2_with (first | (go_at_call 22; refine (akeys_call _ _).mono ?_; rintro e w1 ⟨rfl, rfl⟩) | (go_at_call 21; refine (HS.out).mono ?_; rintro e w1 ⟨a1, c1, rfl, hx⟩))
      go_ret
      exact ⟨a1, c1, rfl, low (lowA HB.out _) hx⟩
end Go.Proofs.YtodjeidofgbdlaaGreatDoor
