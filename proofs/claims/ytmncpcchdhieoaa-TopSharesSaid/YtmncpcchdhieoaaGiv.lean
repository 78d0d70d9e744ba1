/- How many a server gives. -/
import Derived.Test.YtmncpcchdhieoaaUne
import Derived.Test.YtmncpcchdhieoaaLz
import Derived.BigQuiet
import Derived.Deep.QuietTactic
namespace Go.Proofs.Ytmncpcchdhieoaa
open Go.ChangeShapes Go.WideShapes Go.ChangeAt Go.RowKit
set_option linter.unusedVariables false
set_option linter.unusedSimpArgs false

open Flo (partV nan key SC)

/-- Is it more uneven than may be? -/
def moreB (f b : Int) (p q : Nat) : Bool := match FloatKind.f64.format.order (unevV f b p) q with
  | some .gt => true
  | _ => false
def givesV (id f b : Int) (p q : Nat) : Int := if moreB f b p q = true then (if id = 0 then max (partV (f + b) p - b) 0 else max (b - partV (f + b) p) 0) else 0
theorem share_small {f b : Int} {p : Nat} (hp : p < 2 ^ 64) (hf : 0 ≤ f) (hf2 : f ≤ 1000) (hb : 0 ≤ b) (hb2 : b ≤ 1000) : shareV f b p = max (partV (f + b) p - b) 0 := by
  have h := Flo.part_range (f + b) hp
  unfold shareV
  rw [show bn f = f from by unfold bn; omega, show bn b = b from by unfold bn; omega]
  omega
set_option maxRecDepth 100000 in
set_option maxHeartbeats 1000000 in
theorem gives_any (id f b : Int) (p q : Nat) (hp : p < 2 ^ 64) (hid : id = 0 ∨ id = 1) (hf : 0 ≤ f) (hf2 : f ≤ 1000) (hb : 0 ≤ b) (hb2 : b ≤ 1000) (w : World) :
    Calls Try.prog 18 #[.agg #[.float .f64 p, .float .f64 q], .int .i64 id, .int .i64 f, .int .i64 b] w fun e w' => e = .returned (.int .i64 (givesV id f b p q)) ∧ Below w.heap.size w w' := by
  have hg : ∀ m, moreB f b p q = m → Hid (givesV id f b p q = if m = true then (if id = 0 then max (partV (f + b) p - b) 0 else max (b - partV (f + b) p) 0) else 0) := fun m h => Lib.hid (by unfold givesV; rw [h])
  have hsh := share_small hp hf hf2 hb hb2
  have HSH := Lib.hid (fun w => hsh ▸ share_any f b p hp w)
  have HPA := Lib.hid (fun w => ratpart_any (f + b) p hp w)
  have hpr := Flo.part_range (f + b) hp
  obtain ⟨P, hP⟩ : ∃ P, P = partV (f + b) p := ⟨_, rfl⟩
  rw [← hP] at HSH HPA hg hpr
  clear hsh hP
  obtain ⟨U, hU⟩ : ∃ U, U = unevV f b p := ⟨_, rfl⟩
  have HU := Lib.hid (fun w => (hU ▸ uneven_any f b p w : Calls Try.prog 36 #[.int .i64 f, .int .i64 b, .float .f64 p] w fun e w' => e = .returned (.float .f64 U) ∧ w = w').mono (fun e w' h => (⟨h.1, h.2.symm⟩ : e = .returned (.float .f64 U) ∧ w' = w)))
  have hm : moreB f b p q = match FloatKind.f64.format.order U q with
    | some .gt => true
    | _ => false := by unfold moreB; rw [hU]
  clear hU
  have HH := Lib.hid (low0 w (.cells #[.float .f64 p, .float .f64 q] 38))
  have cA := (Blk.new w #[.float .f64 p, .float .f64 q] 38).cells2
  obtain ⟨c0, c1⟩ := cA
  generalize hwq : w.alloc (.cells #[.float .f64 p, .float .f64 q] 38) = wq at HH c0 c1
  rcases hid with rfl | rfl
  all_goals
    cases ho : FloatKind.f64.format.order U q with
    | none =>
      rw [ho] at hm
      have HG := hg _ hm
      clear hm hg
      go_enter Try.func18, Try.ntmps18
      go_wp2
      go_quiet ((go_at_call 36; exact Calls.quiet_of_same (HU.out _)))
      go_wp2
      go_ret
      exact ⟨ret_int (HG.out.trans (by simp)).symm, below_drewN HH.out _⟩
    | some o =>
      rw [ho] at hm
      cases o
      all_goals
        have HG := hg _ hm
        clear hm hg
        go_enter Try.func18, Try.ntmps18
        go_wp2
        go_quiet ((go_at_call 36; exact Calls.quiet_of_same (HU.out _)))
        go_wp2_with (first | (go_at_call 37; (with_reducible refine (HSH.out _).mono ?_); rintro e w' ⟨rfl, rfl⟩) | (go_at_call 38; (with_reducible refine (HPA.out _).mono ?_); rintro e w' ⟨rfl, rfl⟩))
        all_goals
          go_ret
          exact ⟨ret_int (HG.out.trans (by first | (simp; done) | (simp; omega))).symm, below_drewN HH.out _⟩

end Go.Proofs.Ytmncpcchdhieoaa
