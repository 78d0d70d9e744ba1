/- The keys of a map whose keys are addresses: a range over maps.Keys (own text, by the library's laws on maps and on ranges over functions). -/
import Derived.Test.YtodjeidofgbdlaaGreatDoorChecked
import Derived.Test.YtodjeidofgbdlaaGreatDoorRnw
import Derived.RangeFuncSeq
import Derived.Sort.MapsRangeIn
import Derived.Sort.KeysCollected
import Derived.Shelf.Abstract
import Derived.Shelf.AbstractIn
import Derived.WalkKit
import Derived.OwnWalkIn
import Derived.TacticsInMore
import Derived.RegionIn
import Derived.LoopNIn
import Derived.LoopIn
import Derived.Lib.Hide
import Derived.Test.YtodjeidofgbdlaaGreatDoorBlk
namespace Go.Proofs.YtodjeidofgbdlaaGreatDoor
open Go.RowKit Go.Maps Go.Sort
set_option linter.unusedVariables false
set_option linter.unusedSimpArgs false
/-- The number of a key. -/
def litNum : Lit → Int
  | .int _ a => a
  | _ => 0
/-- The keys of a map of addresses. -/
def keysU : DataW Unit → List Int
  | .map es => es.map fun p => litNum p.1
  | _ => []
theorem keyU {k : TypeId} (hk : Tryz.prog.underlying k = some (.int .u32)) {key : Value} {kl : Lit} (h : keyOf Tryz.prog k key = some kl) : ∃ x : Int, key = .int .u32 x ∧ kl = .int .u32 x := by
  cases key <;> simp [keyOf, hk, mapKey] at h
  rename_i q a
  obtain ⟨⟨rfl, hw⟩, rfl⟩ := h
  exact ⟨a, rfl, rfl⟩
/-- So far these keys have come, each once. -/
structure Gathered (D : DataW Unit) (left : Lit → Bool) (ss : List Int) : Prop where
  once : ss.Nodup
  mem : ∀ x, x ∈ ss ↔ (has D (.int .u32 x) = true ∧ left (.int .u32 x) = false)
theorem Gathered.none (D : DataW Unit) : Gathered D (has D) [] := ⟨List.nodup_nil, fun x => by cases has D (.int .u32 x) <;> simp⟩
theorem Gathered.more {D : DataW Unit} {left : Lit → Bool} {ss : List Int} (h : Gathered D left ss) {x : Int} {y : DataW Unit} (hlk : left (.int .u32 x) = true) (hat : ∀ zd, D.atKey (.int .u32 x) zd = y) : Gathered D (fun z => left z && !z.sameKey (.int .u32 x)) (ss ++ [x]) := by
  have hx : has D (.int .u32 x) = true := has_true_of_atKey hat
  have hn : x ∉ ss := fun hm => by
    have h2 := ((h.mem x).1 hm).2
    rw [hlk] at h2
    cases h2
  constructor
  · rw [List.nodup_append]
    refine ⟨h.once, by simp, fun a ha b hb => ?_⟩
    simp only [List.mem_singleton] at hb
    subst hb
    intro e
    exact hn (e ▸ ha)
  · intro y
    by_cases hy : y = x
    · subst hy
      simp [hx, Lit.sameKey]
    · simp [h.mem y, hy, Lit.sameKey]
theorem Gathered.all {D : DataW Unit} {left : Lit → Bool} {ss : List Int} (h : Gathered D left ss) {w : World} {k : TypeId} {R : Value → Option (DataW Unit × List MemPlace)} {b n : Nat} (hown : w.ownsMap Tryz.prog k R b n D) (K : Keyed Tryz.prog k) (hk : Tryz.prog.underlying k = some (.int .u32)) (hl : ∀ kl, left kl = false) : ss.Perm (keysU D) := by
  obtain ⟨es, hD, hpw, _⟩ := hown.entries K
  obtain ⟨es', hD', hko⟩ := hown.keysOf
  obtain rfl : es = es' := by rw [hD] at hD'; simpa using hD'
  subst hD
  have hkx : ∀ p ∈ es, ∃ x, p.1 = .int .u32 x := fun p hp => by
    obtain ⟨v, hv⟩ := hko p hp
    obtain ⟨x, _, hx⟩ := keyU hk hv
    exact ⟨x, hx⟩
  refine (List.perm_ext_iff_of_nodup h.once ?_).2 fun x => ?_
  · show (es.map fun p => litNum p.1).Nodup
    refine List.pairwise_map.2 (hpw.imp_of_mem fun {p q} hp hq hne e => hne ?_)
    obtain ⟨u, hu⟩ := hkx p hp
    obtain ⟨v, hv⟩ := hkx q hq
    rw [hu, hv] at e ⊢
    exact congrArg _ e
  · rw [h.mem x, hl, has_eq, List.any_eq_true]
    show _ ↔ x ∈ es.map fun p => litNum p.1
    rw [List.mem_map]
    constructor
    · rintro ⟨⟨p, hp, hs⟩, _⟩
      obtain ⟨u, hu⟩ := hkx p hp
      rw [hu] at hs
      exact ⟨p, hp, by rw [hu]; simpa [Lit.sameKey, litNum] using hs⟩
    · rintro ⟨p, hp, rfl⟩
      obtain ⟨u, hu⟩ := hkx p hp
      exact ⟨⟨p, hp, by rw [hu]; simp [Lit.sameKey, litNum]⟩, rfl⟩
theorem len_of_sub {l m : List Int} (hl : l.Nodup) (h : ∀ x ∈ l, x ∈ m) : l.length ≤ m.length := by
  induction l generalizing m with
  | nil => exact Nat.zero_le _
  | cons a l ih =>
    have ha := h a (.head _)
    have hp := List.perm_cons_erase ha
    have h2 : ∀ x ∈ l, x ∈ m.erase a := fun x hx => by
      have hne : x ≠ a := fun e => (List.nodup_cons.1 hl).1 (e ▸ hx)
      exact (List.mem_erase_of_ne hne).2 (h x (.tail _ hx))
    have := ih (List.nodup_cons.1 hl).2 h2
    have e := hp.length_eq
    simp only [List.length_cons] at e ⊢
    omega
theorem has_key {D : DataW Unit} {x : Int} (h : has D (.int .u32 x) = true) : x ∈ keysU D := by
  cases D with
  | map es =>
    rw [has_eq, List.any_eq_true] at h
    obtain ⟨⟨kl, v⟩, hp, hs⟩ := h
    show x ∈ es.map fun p => litNum p.1
    rw [List.mem_map]
    refine ⟨(kl, v), hp, ?_⟩
    cases kl <;> simp [Lit.sameKey, litNum] at hs ⊢
    exact hs.2
  | _ => simp [has] at h
theorem Gathered.less {D : DataW Unit} {left : Lit → Bool} {ss : List Int} (h : Gathered D left ss) {x : Int} {y : DataW Unit} (hlk : left (.int .u32 x) = true) (hat : ∀ zd, D.atKey (.int .u32 x) zd = y) : ss.length < (keysU D).length := by
  have h2 := h.more hlk hat
  have := len_of_sub h2.once (fun z hz => has_key ((h2.mem z).1 hz).1)
  simp only [List.length_append, List.length_cons, List.length_nil] at this
  omega
set_option maxRecDepth 100000 in
set_option maxHeartbeats 1000000 in
theorem akeys_call (mb : Option Nat) (w : World) : Calls Tryz.prog 22 #[.map mb] w fun e w' => e = .returned (.func (.func 39) #[] #[.pointer (some ⟨w.heap.size, 0, none⟩)]) ∧ w' = w.alloc (.cells #[.map mb] 58) := by
  go_enter Tryz.func22, Tryz.ntmps22
  go_wp2
  go_ret
  exact ⟨rfl, rfl⟩
theorem ak : Keyed Tryz.prog 27 := int_keyed Tryz.underlying27
attribute [local go_sem] Oper.semAt_some
set_option maxRecDepth 100000 in
set_option maxHeartbeats 1000000 in
theorem akeys_iter (Bs n b nn N : Nat) (D0 : DataW Unit) (w : World) (R : Value → Option (DataW Unit × List MemPlace)) (hBw : Bs < w.heap.size) (hc : w.cell? ⟨Bs, 0, none⟩ = some (.map (some b))) (hown : w.ownsMap Tryz.prog 27 R b nn D0) (hN : (keysU D0).length < N) (hb : b < Bs) (hn : 1 ≤ n) :
    IteratesW Fence.wide n Tryz.prog 39 #[.pointer (some ⟨Bs, 0, none⟩)] (fun x : Int => #[Value.int .u32 x]) KeepsWalks (fun xs => xs.Perm (keysU D0)) (fun _ => True) N w := by
  intro l J Jx W hW hJ hY h0
  have hm : W.cell? ⟨Bs, 0, none⟩ = some (.map (some b)) := (hW.cell (p := ⟨Bs, 0, none⟩) hBw).trans hc
  have hownW : W.ownsMap Tryz.prog 27 R b nn D0 := hown.kept (row := none) ⟨hW.os, hW.tape, hW.output, hW.size, fun i hi _ => hW.block i hi⟩ (by simp)
  have HJ := Lib.hid hJ
  have HY := Lib.hid hY
  have HOWN := Lib.hid hownW
  have H0 := Lib.hid h0
  clear hc hown hJ hY hownW h0
  refine callsIn_of_wp Tryz.func39 rfl trivial ?_ rfl
  simp only [Tryz.ntmps39, List.size_toArray, List.length_cons, List.length_nil, Nat.reduceAdd, Nat.reduceSub, Array.replicate_succ, Array.replicate_zero, List.push_toArray, List.append_toArray, List.nil_append, List.cons_append]
  gi_wp2_with (first
    | (gi_at_range; refine wpListIn_range_own _ rfl _ 58 rfl 27 4 ak Tryz.underlying58 _ b nn _ rfl HOWN.out ?_; intro w0 hrg0 hg0 hs0)
    | gi_in)
  gi_loopw [3] (fun _ wr => ∃ (left : Lit → Bool) (cnt : Nat) (ss : List Int), wr.ranges Tryz.prog 27 R b W.heap.size nn D0 left cnt ∧ Gathered D0 left ss ∧ J ss wr)
    (fun _ wr => wr.rangeLeft b W.heap.size)
  case atStart => exact ⟨_, _, [], hrg0, Gathered.none D0, HJ.out [] W w0 none H0.out hg0 (fun r e => by cases e)⟩
  case round =>
    obtain ⟨left, cnt, ss, hrg, hC, hJs⟩ := hrel
    have HC := Lib.hid hC
    have HJS := Lib.hid hJs
    clear hC hJs
    gi_wp2_with (first
      | (gi_at_next; refine wpListIn_next_ranges _ rfl _ rfl 27 ak R (Value.int .u32) id (fun key kl hk => by obtain ⟨x, hx, _⟩ := keyU Tryz.underlying27 hk; exact ⟨x, hx⟩) (fun v _ _ => ⟨v, rfl⟩) b W.heap.size nn _ _ _ rfl hrg ?_ ?_)
      | gi_in)
    · intro hc0 hl0
      gi_wp2
      go_end0
      exact ⟨⟨_, rfl⟩, Or.inl ⟨ss, HC.out.all HOWN.out ak Tryz.underlying27 hl0, HJS.out⟩⟩
    · intro x c kl yd yp w2 cnt2 hkey hlk hv hat hrg2 hlt hg2 hs2 hen
      obtain ⟨x', ex, rfl⟩ := keyU Tryz.underlying27 hkey
      obtain rfl : x = x' := by simpa using ex
      have hJ2 : J ss w2 := HJ.out ss wr w2 (some W.heap.size) HJS.out hg2 (fun r e => by cases e; exact ⟨Nat.le_refl _, hrg.iter_walk⟩)
      have hlen : ss.length < N := Nat.lt_of_lt_of_le (HC.out.less hlk hat) (Nat.le_of_lt hN)
      obtain ⟨fn, tmps, assign, body, hy, hR⟩ := HY.out ss x w2 hJ2 hlen
      clear hs2
      gi_wp2
      refine hR.mono ?_
      rintro e W3 (⟨rfl, hJ3, hk3⟩ | ⟨rfl, hJ3⟩)
      · gi_wp2
        have hrg3 := hrg2.of_walks hk3
        go_roundw
        case rel => exact ⟨_, cnt2, ss ++ [x], hrg3, HC.out.more hlk hat, hJ3⟩
        case measure => rw [hrg3.left_eq, hrg.left_eq]; exact hlt
      · gi_wp2
        ((try simp only [Exit.inBlock, Exit.then]); refine bodyPost_ret (results_none rfl _ _ _) rfl ?_)
        exact ⟨⟨_, rfl⟩, Or.inr ⟨_, trivial, hJ3⟩⟩
end Go.Proofs.YtodjeidofgbdlaaGreatDoor
