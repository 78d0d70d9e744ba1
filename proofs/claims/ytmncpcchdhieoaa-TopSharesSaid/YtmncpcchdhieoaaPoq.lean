/- The pool of one range. -/
import Derived.Test.YtmncpcchdhieoaaPoo
namespace Go.Proofs.Ytmncpcchdhieoaa
open Go.ChangeShapes Go.WideShapes Go.ChangeAt Go.RowKit
set_option linter.unusedVariables false
set_option linter.unusedSimpArgs false

open Go.Maps

theorem own_rg {base : Nat} {v : Value} {w : World} (h : w.ownsRow base 32 2 v 1 RL) : ∃ g c, v = .slice (some ⟨g, 0, none⟩) 1 c ∧ RgIs w g := by
  rcases h.2 with ⟨rfl, h0⟩ | ⟨g, cap, cur, rfl, hb, hgb, hc, hm, hs, ht⟩
  · omega
  · have hBk : Blk w g cur 32 := hgb
    refine ⟨g, cap, rfl, ?_, ?_⟩
    · rw [hBk.cell]
      have := congrArg (fun l => l[0]?) ht
      simpa [List.getElem?_take, RL] using this
    · rw [hBk.cell]
      have := congrArg (fun l => l[1]?) ht
      simpa [List.getElem?_take, RL] using this
set_option maxRecDepth 100000 in
set_option maxHeartbeats 2000000 in
theorem pool_any (g c : Nat) (w : World) (hg : RgIs w g) : Calls Try.prog 10 #[.slice (some ⟨g, 0, none⟩) 1 c] w fun e w' => ∃ (q d : Nat), e = .returned (.tuple #[.slice (some ⟨q, 0, none⟩) 1 d, .int .i64 0]) ∧ RgIs w' q ∧ Below w.heap.size w w' := by
  obtain ⟨i0, hi, hz0, hz1, hz2⟩ := info_parts3 Try.infoR
  have HG := Lib.hid hg
  clear hg
  go_enter Try.func10, Try.ntmps10
  go_wp2_with (first | (go_at_call 24; refine (rcontains_any _ _ _ HG.out).mono ?_; rintro e w1 ⟨rfl, hx⟩; have HB1 := Lib.hid hx; have HG1 := Lib.hid (HG.out.keep hx); clear hx) | (go_at_call 26; refine (rvalues_any _ _ _).mono ?_; rintro e w2 ⟨rfl, rfl⟩) | (go_at_call 25; refine (rsorted_any w1.heap.size g c _ (Blk.new w1 #[.slice (some ⟨g, 0, none⟩) 1 c] 33).cells1 (HG1.out.keep (low0 w1 _))).mono ?_; rintro e w3 ⟨q, d, rfl, hq, hx⟩; have HG3 := Lib.hid hq; have HB3 := Lib.hid (low HB1.out (low (low0 w1 _) hx)); clear hq hx))
  go_loopw [5, 17] (fun v i wr => (v = .slice none 0 0 ∧ i = .int .i64 0 ∧ wr = w3) ∨ (i = .int .i64 1 ∧ wr.ownsRow w.heap.size 32 2 v 1 RL ∧ Below w.heap.size w wr)) (fun _ i _ => 1 - (intOf i).toNat)
  case atStart => exact .inl ⟨rfl, rfl, rfl⟩
  case round =>
    rcases hrel with ⟨rfl, rfl, rfl⟩ | ⟨rfl, ho, hb⟩
    · obtain ⟨c0, c1⟩ := HG3.out
      have hs3 := HB3.out.size
      have hbx := lowA HB3.out (.cells #[.int .u32 1, .int .u32 20] 32)
      obtain ⟨p0, p1⟩ := (Blk.new wr #[.int .u32 1, .int .u32 20] 32).cells2
      have HBX := Lib.hid hbx
      have hsx := HBX.out.size
      clear hbx
      go_wp2
      generalize (wr.alloc (.cells #[.int .u32 1, .int .u32 20] 32)) = wx at *
      go_quiet (fail)
      go_wp2_with (at_builtin; (refine wpList_append_own _ rfl (.tmp 53) (.tmp 55) 33 rfl w.heap.size 32 i0 (.agg #[.int .u32 0, .int .u32 0]) 2 8 Try.underlying33 hi hz0 hz1 hz2 rfl (by decide) _ 0 [] rfl (World.ownsRow_nil _ _ _ _) ⟨_, 0, none⟩ 1 1 [.int .u32 1, .int .u32 20] rfl rfl (rcells_new _ #[.int .u32 1, .int .u32 20] 32) (by intro u hu; simp at hu; rcases hu with rfl | rfl <;> rfl) (by unfold maxLen; omega) (by omega) (by simp [World.drewN]; omega) ?_); intro v3 w4 hown3 hgr3 _)
      go_roundw
      case rel => exact .inr ⟨by first | rfl | go_num, by simpa [RL] using hown3, (lowA (below_drewN HBX.out _) _).grown hgr3 (by simp [World.drewN]; omega) (fun k e => by cases e)⟩
      case measure => simp [intOf]
    · obtain ⟨q, d, rfl, hq⟩ := own_rg ho
      have HQ := Lib.hid hq
      have HB := Lib.hid hb
      clear ho hq hb
      go_wp2_with (go_at_call 11; refine (pcount_any q d _ HQ.out.1 HQ.out.2).mono ?_; rintro e w5 ⟨rfl, hx⟩; have HX := Lib.hid hx; clear hx)
      refine bodyPost_ret (v := .tuple #[.slice (some ⟨q, 0, none⟩) 1 d, .int .i64 0]) (by simp [results, Try.results10, go_sem]) rfl ?_
      exact ⟨q, d, rfl, HQ.out.keep HX.out, low HB.out HX.out⟩

end Go.Proofs.Ytmncpcchdhieoaa
