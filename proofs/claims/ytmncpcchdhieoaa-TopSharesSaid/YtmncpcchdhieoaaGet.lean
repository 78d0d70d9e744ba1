/- What a table tells. -/
import Derived.Test.YtmncpcchdhieoaaSet
namespace Go.Proofs.Ytmncpcchdhieoaa
open Go.ChangeShapes Go.WideShapes Go.ChangeAt Go.RowKit
set_option linter.unusedVariables false
set_option linter.unusedSimpArgs false

open Go.Maps
set_option maxRecDepth 100000 in
set_option maxHeartbeats 4000000 in
theorem get_any (a : Int) (tb m n : Nat) (f : Int → Le) (w : World) (hT : w.cell? ⟨tb, 0, none⟩ = some (.map (some m))) (htm : TabM w m n 20 f) (h1 : 1 ≤ a) (h2 : a ≤ 20) :
    Calls Try.prog 9 #[.pointer (some ⟨tb, 0, none⟩), .int .u32 a] w fun e w' => e = .returned (.tuple #[(f a).val, .int .i64 0]) ∧ Below w.heap.size w w' := by
  have HTL := Lib.hid (World.block_lt_of_cell? w _ hT)
  obtain ⟨lx, hlk, hlx⟩ := htm.look1 (a := a) (by omega) (by omega)
  rw [hlx h1 h2] at hlk
  have HT := Lib.hid hT
  have HTM := Lib.hid htm
  clear htm hT hlx
  obtain ⟨l, hl⟩ : ∃ l, f a = l := ⟨_, rfl⟩
  rw [hl] at hlk ⊢
  clear hl lx
  obtain ⟨xa, xb, xc, xu, xk, xt, xz, xv⟩ := l
  have HLK := Lib.hid (show ∀ w', Below w.heap.size w w' → (Instr.lookup 49 (.map (some m)) (.int .u32 a) true).run Try.prog w' = .ok (.tuple #[.agg #[.int .u32 xa, .int .i64 xb, .string xc, .int .i64 xu, .int .i64 xk, .int .i64 xt, .int .i64 xz, .int .i64 xv], .bool true]) w' from fun w' hb => (hlk w' hb).trans (by rw [decide_eq_true (show 1 ≤ a ∧ a ≤ ((20 : Nat) : Int) from ⟨h1, h2⟩)]; rfl))
  clear hlk h1 h2
  have HB0 := Lib.hid (low0 w (.cells #[.int .u32 0, .int .i64 0, .string { data := #[] }, .int .i64 0, .int .i64 0, .int .i64 0, .int .i64 0, .int .i64 0] 35))
  have HN0 := Lib.hid (Blk.new w #[.int .u32 0, .int .i64 0, .string { data := #[] }, .int .i64 0, .int .i64 0, .int .i64 0, .int .i64 0, .int .i64 0] 35)
  go_enter Try.func9, Try.ntmps9
  have q0 := HLK.out _ HB0.out
  have hs1 : (w.alloc (.cells #[.int .u32 0, .int .i64 0, .string { data := #[] }, .int .i64 0, .int .i64 0, .int .i64 0, .int .i64 0, .int .i64 0] 35)).heap.size = w.heap.size + 1 := by simp
  have cT := (HB0.out.cell (p := ⟨tb, 0, none⟩) HTL.out).trans HT.out
  go_wp2
  refine bodyPost_ret (v := .tuple #[.agg #[.int .u32 xa, .int .i64 xb, .string xc, .int .i64 xu, .int .i64 xk, .int .i64 xt, .int .i64 xz, .int .i64 xv], .int .i64 0]) (by simp [results, Try.results9, go_sem]) rfl ⟨rfl, lowA (low0 _ _) _⟩

end Go.Proofs.Ytmncpcchdhieoaa
