/- What the library gives: numerals, words joined. -/
import Derived.Test.YtodjeidofgbdlaaGreatDoorUnh
import Derived.Lib.AppendIntMem
namespace Go.Proofs.YtodjeidofgbdlaaGreatDoor
open Go.ChangeShapes Go.WideShapes Go.ChangeAt Go.RowKit
set_option linter.unusedVariables false
set_option linter.unusedSimpArgs false

/-- What the library's variables hold. -/
structure Env (w : World) : Prop where
  tab : Lib.TabIs Tryz.prog w "internal/strconv.uint64pow10" .u64 Lib.pow10Tab
  syn : ∃ tp p, w.var? Tryz.prog "strconv.ErrSyntax" = some #[.iface tp p]
  rng : ∃ tp p, w.var? Tryz.prog "strconv.ErrRange" = some #[.iface tp p]
  len : ∃ m, w.cell? ⟨0, 0, none⟩ = some (.int .i64 m)
theorem var_keep {n : String} {g : Nat} {w w' : World} {x : Array Value} (hg : Tryz.prog.globalNamed n = some g) (h : w.var? Tryz.prog n = some x) (hb : Below w.heap.size w w') : w'.var? Tryz.prog n = some x := by
  unfold World.var? at h ⊢
  rw [hg] at h ⊢
  simp only [Option.bind_some] at h ⊢
  have hlt : g < w.heap.size := by
    rcases Nat.lt_or_ge g w.heap.size with h' | h'
    · exact h'
    · rw [Array.getElem?_eq_none h'] at h; cases h
  rw [hb.block g hlt]
  exact h
theorem gl1 : ∃ g, Tryz.prog.globalNamed "internal/strconv.uint64pow10" = some g := Option.isSome_iff_exists.1 (by kernel_rfl)
theorem gl2 : ∃ g, Tryz.prog.globalNamed "strconv.ErrSyntax" = some g := Option.isSome_iff_exists.1 (by kernel_rfl)
theorem gl3 : ∃ g, Tryz.prog.globalNamed "strconv.ErrRange" = some g := Option.isSome_iff_exists.1 (by kernel_rfl)
theorem Env.keep {w w' : World} (h : Env w) (hb : Below w.heap.size w w') : Env w' := by
  obtain ⟨g1, h1⟩ := gl1
  obtain ⟨g2, h2⟩ := gl2
  obtain ⟨g3, h3⟩ := gl3
  obtain ⟨tp, p, hs⟩ := h.syn
  obtain ⟨tq, q, hr⟩ := h.rng
  obtain ⟨m, hm⟩ := h.len
  refine ⟨var_keep h1 h.tab hb, ⟨tp, p, var_keep h2 hs hb⟩, ⟨tq, q, var_keep h3 hr hb⟩, ⟨m, ?_⟩⟩
  exact (hb.cell (World.block_lt_of_cell? w _ hm)).trans hm
theorem Env.alloc {w : World} (h : Env w) (o : Obj) : Env (w.alloc o) := h.keep (low0 w o)
theorem Env.drew {w : World} (h : Env w) : Env w.drew := h.keep (Below.drew (Below.refl _ _))

theorem tfigs_any (n : Int) (h0 : 0 ≤ n) (h : n ≤ 1099511627776) (w : World) (he : Env w) : Calls Tryz.prog 23 #[.int .i64 n] w fun e w' => e = .returned (.string (decB n.toNat)) ∧ Below w.heap.size w w' := by
  have HC := Lib.hid (Tryz.strconv_FormatInt_10 n (by omega) (by omega) w he.tab)
  have HE := Lib.hid (show bl (Lib.itoa n) = decB n.toNat from by
    obtain ⟨m, rfl⟩ := Int.eq_ofNat_of_zero_le h0
    rw [itoa_nat]
    rfl)
  clear he
  go_enter Tryz.func23, Tryz.ntmps23
  go_wp2_with (go_at_call 40; (with_reducible refine HC.out.mono ?_); rintro e w1 ⟨rfl, hx⟩; have H1 := Lib.hid hx; clear hx)
  go_ret
  obtain ⟨k, os, hw⟩ := H1.out
  exact ⟨ret_str HE.out, by rw [hw]; exact Lib.below_grow _ w (Nat.le_refl _) k os⟩

theorem join5 (a c d e f : ByteArray) (ha : a.size ≤ 1000) (hc : c.size ≤ 1000) (hd : d.size ≤ 1000) (he : e.size ≤ 1000) (hf : f.size ≤ 1000) (w : World) :
    Calls Tryz.prog 26 #[.slice (some ⟨w.heap.size, 0, none⟩) 5 5, .string { data := #[32] }] (w.alloc (.cells #[.string a, .string c, .string d, .string e, .string f] 9))
      fun r w' => r = .returned (.string (bl (a.data.toList ++ 32 :: (c.data.toList ++ 32 :: (d.data.toList ++ 32 :: (e.data.toList ++ 32 :: f.data.toList)))))) ∧ Below (w.alloc (.cells #[.string a, .string c, .string d, .string e, .string f] 9)).heap.size (w.alloc (.cells #[.string a, .string c, .string d, .string e, .string f] 9)) w' := by
  have hb := Blk.new w #[.string a, .string c, .string d, .string e, .string f] 9
  have hj : Lib.join ([a, c, d, e, f].map (·.data.toList)) ({ data := #[32] } : ByteArray).data.toList = a.data.toList ++ 32 :: (c.data.toList ++ 32 :: (d.data.toList ++ 32 :: (e.data.toList ++ 32 :: f.data.toList))) := by
    simp [Lib.join, List.intercalate, List.intersperse]
  have hl : ∀ s : ByteArray, s.data.toList.length = s.size := fun s => Array.length_toList
  have h := Tryz.strings_Join w.heap.size 0 5 [a, c, d, e, f] { data := #[32] } (w.alloc (.cells #[.string a, .string c, .string d, .string e, .string f] 9)) (fun j x hj => by
    rw [Nat.zero_add, hb.cell j]
    have : j < 5 := by
      have := (List.getElem?_eq_some_iff.1 hj).1
      simpa using this
    rcases (show j = 0 ∨ j = 1 ∨ j = 2 ∨ j = 3 ∨ j = 4 by omega) with rfl | rfl | rfl | rfl | rfl <;> (simp at hj; subst hj; rfl)) hb.lt (by simp) (by simp) (by rw [hj]; simp only [List.length_append, List.length_cons, hl]; omega)
  rw [hj] at h
  exact h

end Go.Proofs.YtodjeidofgbdlaaGreatDoor
