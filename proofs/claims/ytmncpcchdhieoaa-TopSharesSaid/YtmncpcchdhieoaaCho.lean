/- The addresses that are bound so. -/
import Derived.Test.YtmncpcchdhieoaaLes
import Derived.Test.YtmncpcchdhieoaaBx
import Derived.Test.YtmncpcchdhieoaaSrh
import Derived.OwnWalk
import Derived.Maps.AppendAt
namespace Go.Proofs.Ytmncpcchdhieoaa
open Go.ChangeShapes Go.WideShapes Go.ChangeAt Go.RowKit
set_option linter.unusedVariables false
set_option linter.unusedSimpArgs false

/-- A slice whose elements are these addresses. -/
def AdrIn (w : World) (a : Option Addr) (n c : Nat) (xs : List Int) : Prop :=
  xs.length = n ∧ n ≤ c ∧ c ≤ maxLen ∧ (0 < n → ∃ g o, a = some ⟨g, o, none⟩ ∧ g < w.heap.size ∧ ∀ (j : Nat) x, xs[j]? = some x → w.cell? ⟨g, o + j, none⟩ = some (.int .u32 x))
theorem AdrIn.keep {w w' : World} {a : Option Addr} {n c : Nat} {xs : List Int} (h : AdrIn w a n c xs) (hb : Below w.heap.size w w') : AdrIn w' a n c xs := by
  obtain ⟨h1, h3, h4, h5⟩ := h
  refine ⟨h1, h3, h4, fun h0 => ?_⟩
  obtain ⟨g, o, rfl, hg, hc⟩ := h5 h0
  exact ⟨g, o, rfl, Nat.lt_of_lt_of_le hg hb.size, fun j p hp => (hb.cell hg).trans (hc j p hp)⟩
/-- The addresses of those that are bound so. -/
def chL (bd : Int) (ls : List Le) : List Int := (ls.filter (fun l => decide (l.bind = bd))).map Le.adr
theorem chL_yes {bd : Int} {ls : List Le} {k : Nat} {p : Le} (hp : ls[k]? = some p) (h : p.bind = bd) : chL bd (ls.take (k + 1)) = chL bd (ls.take k) ++ [p.adr] := by
  unfold chL
  rw [List.take_add_one, hp, List.filter_append, List.map_append]
  simp [h]
theorem chL_no {bd : Int} {ls : List Le} {k : Nat} {p : Le} (hp : ls[k]? = some p) (h : ¬ p.bind = bd) : chL bd (ls.take (k + 1)) = chL bd (ls.take k) := by
  unfold chL
  rw [List.take_add_one, hp, List.filter_append, List.map_append]
  simp [h]
theorem chL_len (bd : Int) (ls : List Le) : (chL bd ls).length ≤ ls.length := by
  unfold chL
  rw [List.length_map]
  exact List.length_filter_le _ _
theorem Try.infoU : (Try.prog.info? 30).map (fun i => (i.zero, i.size, i.bytes)) = some (some (.int .u32 0), 1, 4) := by kernel_rfl
theorem sort_adr {base n : Nat} {v : Value} {xs : List Int} {w : World} (h : w.ownsRow base 30 1 v n (xs.map (Value.int .u32))) (hl : xs.length = n) (hn : n ≤ 1000000) :
    Calls Try.prog 17 #[v] w fun e w' => e = .returned (.tuple #[]) ∧ ∃ a c ys, v = .slice a n c ∧ ys.Perm xs ∧ AdrIn w' a n c ys ∧ w.grownBy w' v.ownBlock := by
  rcases h.2 with ⟨rfl, h0⟩ | ⟨g, cap, cur, rfl, hb, hgb, hc, hm, hs, ht⟩
  · subst h0
    refine (sortU_nil 0 w).mono ?_
    rintro e w' ⟨rfl, rfl⟩
    exact ⟨rfl, none, 0, xs, rfl, List.Perm.refl _, ⟨hl, by omega, by unfold maxLen; omega, fun h => by omega⟩, ⟨rfl, rfl, rfl, Nat.le_refl _, fun _ _ _ => rfl⟩⟩
  · have hrow : RowU w g xs.toArray := by
      intro j hj
      have hj' : j < xs.length := by simpa using hj
      refine ⟨?_, frozen_of_row w g j cur _ hgb⟩
      rw [cell_of_row w g j cur _ _ hgb]
      have h1 := congrArg (fun l => l[j]?) ht
      simp only [Nat.mul_one] at h1
      rw [List.getElem?_take_of_lt (by omega), List.getElem?_map] at h1
      rw [← Array.getElem?_toList, h1, List.getElem?_eq_getElem hj']
      simp [hj']
    have hgl := (Array.getElem?_eq_some_iff.1 hgb).1
    refine (sortU_any g n cap xs.toArray (by simpa using hl) hn w hrow hgl).mono ?_
    rintro e w' ⟨rfl, d', hs⟩
    have hsz : d'.size = n := hs.size.trans (by simpa using hl)
    refine ⟨rfl, _, cap, d'.toList, rfl, hs.perm, ⟨by simpa using hsz, hc, hm, fun _ => ⟨g, 0, rfl, Nat.lt_of_lt_of_le hgl hs.grown.size, fun j x hx => ?_⟩⟩, hs.grown⟩
    have hj : j < d'.size := by simpa using (List.getElem?_eq_some_iff.1 hx).1
    have h1 := (hs.row j hj).1
    rw [Nat.zero_add, h1]
    congr 2
    rw [getElem!_pos d' j hj]
    obtain ⟨_, e⟩ := List.getElem?_eq_some_iff.1 hx
    simpa using e
set_option maxRecDepth 100000 in
set_option maxHeartbeats 4000000 in
theorem chb_any (bd : Int) (B : Nat) (a : Option Addr) (n c : Nat) (ls : List Le) (w : World) (hB : w.cell? ⟨B, 0, none⟩ = some (.slice a n c)) (hin : LesIn w a n c ls) (hn : n ≤ 1000) :
    Calls Try.prog 16 #[.int .i64 bd, .pointer (some ⟨B, 0, none⟩)] w fun e w' => ∃ a c ys, e = .returned (.slice a ys.length c) ∧ ys.Perm (chL bd ls) ∧ AdrIn w' a ys.length c ys ∧ Below w.heap.size w w' := by
  obtain ⟨i0, hi, hz0, hz1, hz2⟩ := info_parts3 Try.infoU
  have HIN := Lib.hid hin
  have HLEN := Lib.hid hin.1
  have hc8 := hin.2.1
  have hcm := hin.2.2.1
  clear hin
  go_enter Try.func16, Try.ntmps16
  go_wp2
  clear hB
  go_loopw [4, 9] (fun v i wr => ∃ k : Nat, k ≤ n ∧ i = .int .i64 k ∧ wr.ownsRow w.heap.size 30 1 v (chL bd (ls.take k)).length ((chL bd (ls.take k)).map (Value.int .u32)) ∧ Below w.heap.size w wr) (fun _ i _ => n - (intOf i).toNat)
  case atStart => exact ⟨0, by omega, rfl, World.ownsRow_nil _ _ _ _, Below.refl _ _⟩
  case round =>
    obtain ⟨k, hk, rfl, ho, hb⟩ := hrel
    have HO := Lib.hid ho
    have HB := Lib.hid hb
    clear ho hb
    by_cases hlt : k < n
    · obtain ⟨g, o, p, rfl, hg, hp, c0, c1, c2, c3, c4, c5, c6, c7⟩ := (HIN.out.keep HB.out).get hlt
      have HP := Lib.hid hp
      have hq := chL_len bd (ls.take k)
      rw [List.length_take] at hq
      have HQ := Lib.hid (show (chL bd (ls.take k)).length ≤ 1000 by omega)
      have hs1 := HB.out.size
      have HN := Lib.hid (Blk.new wr #[.int .u32 p.adr, .int .i64 p.bind, .string p.cli, .int .i64 p.unt, .int .i64 p.ack, .int .i64 p.tld, .int .i64 p.att, .int .i64 p.ver] 35)
      have HBA := Lib.hid (lowA HB.out (.cells #[.int .u32 p.adr, .int .i64 p.bind, .string p.cli, .int .i64 p.unt, .int .i64 p.ack, .int .i64 p.tld, .int .i64 p.att, .int .i64 p.ver] 35))
      clear hp hq hg
      by_cases hh : p.bind = bd
      · have kb : (p.bind == bd) = true := by simp [hh]
        have HH := Lib.hid hh
        clear hh
        have hcn := cell_one_new (wr.alloc (.cells #[.int .u32 p.adr, .int .i64 p.bind, .string p.cli, .int .i64 p.unt, .int .i64 p.ack, .int .i64 p.tld, .int .i64 p.att, .int .i64 p.ver] 35)) (.int .u32 p.adr) 30
        have hsz : (wr.alloc (.cells #[.int .u32 p.adr, .int .i64 p.bind, .string p.cli, .int .i64 p.unt, .int .i64 p.ack, .int .i64 p.tld, .int .i64 p.att, .int .i64 p.ver] 35)).heap.size = wr.heap.size + 1 := by simp
        rw [hsz] at hcn
        have HCN := Lib.hid hcn
        have hq9 := HQ.out
        clear hcn hsz
        go_wp2_with (at_builtin; refine wpList_append_own _ rfl (.tmp 17) (.tmp 20) 41 rfl w.heap.size 30 i0 (.int .u32 0) 1 4 Try.underlying41 hi hz0 hz1 hz2 rfl (by decide) _ _ _ rfl ((HO.out.alloc (.cells #[.int .u32 p.adr, .int .i64 p.bind, .string p.cli, .int .i64 p.unt, .int .i64 p.ack, .int .i64 p.tld, .int .i64 p.att, .int .i64 p.ver] 35)).alloc (.cells #[.int .u32 p.adr] 30)) ⟨_, 0, none⟩ 1 1 [.int .u32 p.adr] rfl rfl HCN.out (by intro u hu; simp at hu; rcases hu with rfl; rfl) (by unfold maxLen; omega) (by omega) (by simp; omega) ?_; intro v3 w3 hown3 hgr3 _)
        go_roundw
        case rel => exact ⟨k + 1, by omega, by first | rfl | go_num, by rw [chL_yes HP.out HH.out, List.length_append, List.map_append]; exact hown3, Below.grownOwn (lowA HBA.out _) ((HO.out.alloc (.cells #[.int .u32 p.adr, .int .i64 p.bind, .string p.cli, .int .i64 p.unt, .int .i64 p.ack, .int .i64 p.tld, .int .i64 p.att, .int .i64 p.ver] 35)).alloc (.cells #[.int .u32 p.adr] 30)) hgr3 (Nat.le_refl _)⟩
        case measure => simp [intOf]; omega
      · have kb : (p.bind == bd) = false := by simp [hh]
        have HH := Lib.hid hh
        clear hh
        go_wp2
        go_roundw
        case rel => exact ⟨k + 1, by omega, by first | rfl | go_num, by rw [chL_no HP.out HH.out]; exact own_keep HO.out (low0 _ _), HBA.out⟩
        case measure => simp [intOf]; omega
    · obtain rfl : k = n := by omega
      have htk : ls.take k = ls := List.take_of_length_le (by have := HLEN.out; omega)
      rw [htk] at HO
      have HLC := Lib.hid (chL_len bd ls)
      go_wp2_with (go_at_call 17; refine (sort_adr HO.out rfl (by have := HLC.out; have := HLEN.out; omega)).mono ?_; rintro e w2 ⟨rfl, hs⟩; have HS := Lib.hid hs; clear hs)
      go_ret
      obtain ⟨a2, c2, ys, rfl, hp, hin, hg⟩ := HS.out
      rw [← hin.1]
      exact ⟨a2, c2, ys, rfl, hp, hin.1 ▸ hin, HB.out.grown hg HB.out.size (fun k e => own_low HO.out e)⟩

end Go.Proofs.Ytmncpcchdhieoaa
