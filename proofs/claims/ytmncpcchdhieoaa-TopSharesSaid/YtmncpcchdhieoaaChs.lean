/- The addresses that a server gives. -/
import Derived.Test.YtmncpcchdhieoaaCho
import Derived.Test.YtmncpcchdhieoaaGiv
namespace Go.Proofs.Ytmncpcchdhieoaa
open Go.ChangeShapes Go.WideShapes Go.ChangeAt Go.RowKit
set_option linter.unusedVariables false
set_option linter.unusedSimpArgs false

open Flo (partV)

theorem AdrIn.cut {w : World} {a : Option Addr} {k G c : Nat} {xs : List Int} (h : AdrIn w a (k + G) c xs) : AdrIn w (a.map (fun x => x.add k)) G (c - k) (xs.drop k) := by
  obtain ⟨h1, h3, h4, h5⟩ := h
  refine ⟨by rw [List.length_drop]; omega, by omega, by omega, fun h0 => ?_⟩
  obtain ⟨g, o, rfl, hg, hc⟩ := h5 (by omega)
  refine ⟨g, o + k, congrArg some add_spot0, hg, fun j x hx => ?_⟩
  rw [List.getElem?_drop] at hx
  have h := hc (k + j) x hx
  rw [Nat.add_assoc]
  exact h
theorem AdrIn.cut0 {w : World} {a : Option Addr} {k G c : Nat} {xs : List Int} (h : AdrIn w a (k + G) c xs) (hc : c = k) : AdrIn w a G 0 (xs.drop k) := by
  subst hc
  obtain ⟨h1, h3, h4, h5⟩ := h
  exact ⟨by rw [List.length_drop]; omega, by omega, by unfold maxLen; omega, fun h0 => by omega⟩
theorem gives_range {id f b : Int} {p q : Nat} (hp : p < 2 ^ 64) (hid : id = 0 ∨ id = 1) (hf : 0 ≤ f) (hb : 0 ≤ b) : 0 ≤ givesV id f b p q ∧ (id = 0 → givesV id f b p q ≤ f) ∧ (id = 1 → givesV id f b p q ≤ b) := by
  have h := Flo.part_range (f + b) hp
  unfold givesV
  split
  · split
    · omega
    · omega
  · omega

set_option maxRecDepth 100000 in
set_option maxHeartbeats 4000000 in
theorem chosen_any (id : Int) (p q : Nat) (a : Option Addr) (n c : Nat) (ls : List Le) (w : World) (hid : id = 0 ∨ id = 1) (hp : p < 2 ^ 64) (hin : LesIn w a n c ls) (hn : n ≤ 1000) :
    Calls Try.prog 7 #[.agg #[.float .f64 p, .float .f64 q], .int .i64 id, .slice a n c] w fun e w' => ∃ a' n' c' xs ys, e = .returned (.slice a' n' c') ∧ AdrIn w' a' n' c' xs ∧ (n' : Int) = givesV id (chL 0 ls).length (chL 1 ls).length p q ∧ (ys ++ xs).Perm (chL id ls) ∧ Below w.heap.size w w' := by
  have HLEN := Lib.hid hin.1
  have HID := Lib.hid hid
  have hb2 := lowA (low0 w (.cells #[.float .f64 p, .float .f64 q] 38)) (.cells #[.slice a n c] 24)
  have k1 := (Blk.new2' w #[.float .f64 p, .float .f64 q] 38 (.cells #[.slice a n c] 24)).cells2
  have k2 := (Blk.new2 w (.cells #[.float .f64 p, .float .f64 q] 38) #[.slice a n c] 24).cells1
  have HL2 := Lib.hid (hin.keep hb2)
  have HC2 := Lib.hid k2
  have HB2 := Lib.hid hb2
  have HK1 := Lib.hid k1
  have HN := Lib.hid hn
  have hgr := fun (x y : Nat) => gives_range (q := q) hp hid (f := (x : Int)) (b := (y : Int)) (by omega) (by omega)
  have HGA := Lib.hid (fun (x y : Nat) (hx : x ≤ 1000) (hy : y ≤ 1000) (w : World) => gives_any id (x : Int) (y : Int) p q hp hid (by omega) (by omega) (by omega) (by omega) w)
  have HGR := Lib.hid hgr
  clear hb2 k1 k2 hin hn hid hp hgr
  go_enter Try.func7, Try.ntmps7
  go_upto_region 2 with (fail)
  generalize ((w.alloc (.cells #[.float .f64 p, .float .f64 q] 38)).alloc (.cells #[.slice a n c] 24)) = w2 at *
  go_upto_region 3 with (first | (go_at_call 16; (with_reducible refine (chb_any 0 _ a n c ls _ HC2.out HL2.out HN.out).mono ?_); rintro e w3 ⟨a3, c3, ys3, rfl, hp, hin, hx⟩; have HP3 := Lib.hid hp; have HIN3 := Lib.hid hin; have HX3 := Lib.hid hx; clear hp hin hx; have HC3 := Lib.hid ((HX3.out.cell (p := ⟨w.heap.size + 1, 0, none⟩) (World.block_lt_of_cell? _ _ HC2.out)).trans HC2.out); have HL3 := Lib.hid (HL2.out.keep HX3.out)) | (go_at_call 16; (with_reducible refine (chb_any 1 _ a n c ls _ HC3.out HL3.out HN.out).mono ?_); rintro e w4 ⟨a4, c4, ys4, rfl, hp, hin, hx⟩; have HP4 := Lib.hid hp; have HIN4 := Lib.hid hin; have HX4 := Lib.hid hx; clear hp hin hx))
  have HY3 := Lib.hid (show ys3.length ≤ 1000 from by have h1 := HP3.out.length_eq; have h2 := chL_len 0 ls; have := HLEN.out; have := HN.out; omega)
  have HY4 := Lib.hid (show ys4.length ≤ 1000 from by have h1 := HP4.out.length_eq; have h2 := chL_len 1 ls; have := HLEN.out; have := HN.out; omega)
  have HGV := Lib.hid (HGA.out ys3.length ys4.length HY3.out HY4.out)
  obtain ⟨g0, g1, g2⟩ := HGR.out ys3.length ys4.length
  obtain ⟨Gi, hGi⟩ : ∃ Gi, Gi = givesV id ys3.length ys4.length p q := ⟨_, rfl⟩
  rw [← hGi] at HGV g0 g1 g2
  obtain ⟨G, rfl⟩ := Int.eq_ofNat_of_zero_le g0
  have HGE := Lib.hid hGi
  have HB4 := Lib.hid (HB2.out.trans ((low HX3.out HX4.out).mono HB2.out.size))
  obtain ⟨f0, f1⟩ := HK1.out
  have hlt0 := World.block_lt_of_cell? _ _ HK1.out.1
  have f3 := ((low HX3.out HX4.out).cell (p := ⟨w.heap.size, 0, none⟩) hlt0).trans f0
  have f4 := ((low HX3.out HX4.out).cell (p := ⟨w.heap.size, 1, none⟩) hlt0).trans f1
  clear hGi g0 f0 f1 hlt0
  have HE3 := Lib.hid HP3.out.length_eq
  have HE4 := Lib.hid HP4.out.length_eq
  generalize ys3.length = n3 at *
  generalize ys4.length = n4 at *
  rcases HID.out with rfl | rfl
  · obtain ⟨k, rfl⟩ : ∃ k, n3 = k + G := ⟨n3 - G, by have := g1 rfl; omega⟩
    have hc3 := HIN3.out.2.1
    have hm3 := HIN3.out.2.2.1
    have hm4 : c3 ≤ 9223372036854775807 := by unfold maxLen at hm3; omega
    have hy3 := HY3.out
    simp only [Int.natCast_add] at HGV
    have q5 : k ≤ c3 := by omega
    have q6 : (k : Int) ≤ c3 := by omega
    clear g1 g2 hm3
    go_wp2_with (go_at_call 18; (with_reducible refine (HGV.out _).mono ?_); rintro e w5 ⟨rfl, hx⟩; have HX5 := Lib.hid hx; clear hx)
    all_goals
      go_ret
      first
        | exact ⟨_, _, _, rfl, _, (HIN3.out.keep (low HX4.out HX5.out)).cut, by rw [← HE3.out, ← HE4.out]; exact HGE.out, ⟨ys3.take k, by rw [List.take_append_drop]; exact HP3.out⟩, low HB4.out HX5.out⟩
        | exact ⟨_, _, _, rfl, _, (HIN3.out.keep (low HX4.out HX5.out)).cut0 (by omega), by rw [← HE3.out, ← HE4.out]; exact HGE.out, ⟨ys3.take k, by rw [List.take_append_drop]; exact HP3.out⟩, low HB4.out HX5.out⟩
  · obtain ⟨k, rfl⟩ : ∃ k, n4 = k + G := ⟨n4 - G, by have := g2 rfl; omega⟩
    have hc3 := HIN4.out.2.1
    have hm3 := HIN4.out.2.2.1
    have hm4 : c4 ≤ 9223372036854775807 := by unfold maxLen at hm3; omega
    have hy3 := HY4.out
    simp only [Int.natCast_add] at HGV
    have q5 : k ≤ c4 := by omega
    have q6 : (k : Int) ≤ c4 := by omega
    clear g1 g2 hm3
    go_wp2_with (go_at_call 18; (with_reducible refine (HGV.out _).mono ?_); rintro e w5 ⟨rfl, hx⟩; have HX5 := Lib.hid hx; clear hx)
    all_goals
      go_ret
      first
        | exact ⟨_, _, _, rfl, _, (HIN4.out.keep HX5.out).cut, by rw [← HE3.out, ← HE4.out]; exact HGE.out, ⟨ys4.take k, by rw [List.take_append_drop]; exact HP4.out⟩, low HB4.out HX5.out⟩
        | exact ⟨_, _, _, rfl, _, (HIN4.out.keep HX5.out).cut0 (by omega), by rw [← HE3.out, ← HE4.out]; exact HGE.out, ⟨ys4.take k, by rw [List.take_append_drop]; exact HP4.out⟩, low HB4.out HX5.out⟩

end Go.Proofs.Ytmncpcchdhieoaa
