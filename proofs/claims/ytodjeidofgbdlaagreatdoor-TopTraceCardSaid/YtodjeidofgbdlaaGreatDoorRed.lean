/- What a text holds. -/
import Derived.Test.YtodjeidofgbdlaaGreatDoorItr
import Derived.OwnWalk
namespace Go.Proofs.YtodjeidofgbdlaaGreatDoor
open Go.ChangeShapes Go.WideShapes Go.ChangeAt Go.RowKit
set_option linter.unusedVariables false
set_option linter.unusedSimpArgs false

theorem grown_boxed {X Y : World} {row : Option Nat} {B b : Nat} {t : TypeId} {v : Value} (hg : X.grownBy Y row) (hr : ∀ r, row = some r → B ≤ r ∧ ∃ o : Obj, X.heap[r]? = some o ∧ o.isCells = false) (h : Boxed X b t v) : Boxed Y b t v := by
  refine h.kept hg (fun e => ?_)
  obtain ⟨_, o, ho, hc⟩ := hr b e.symm
  rw [show X.heap[b]? = _ from h] at ho
  cases ho
  cases hc
theorem grown_row {X Y : World} {row : Option Nat} {B base size k : Nat} {e : TypeId} {v : Value} {xs : List Value} (hg : X.grownBy Y row) (hr : ∀ r, row = some r → B ≤ r ∧ ∃ o : Obj, X.heap[r]? = some o ∧ o.isCells = false) (h : X.ownsRow base e size v k xs) : Y.ownsRow base e size v k xs := by
  refine h.kept hg ?_
  rcases h.2 with ⟨rfl, _⟩ | ⟨g, cap, cur, rfl, _, hgb, _⟩
  · exact .inl rfl
  · refine .inr fun e' => ?_
    obtain ⟨_, o, ho, hc⟩ := hr g (by simpa [Value.ownBlock] using e'.symm)
    rw [hgb] at ho
    cases ho
    cases hc
theorem grown_below {W X Y : World} {row : Option Nat} {B : Nat} (hg : X.grownBy Y row) (hB : W.heap.size ≤ B) (hr : ∀ r, row = some r → B ≤ r ∧ ∃ o : Obj, X.heap[r]? = some o ∧ o.isCells = false) (h : Below W.heap.size W X) : Below W.heap.size W Y :=
  h.grown hg h.size (fun k e => Nat.le_trans hB (hr k e).1)
theorem KeepsFrom.below {B : Nat} {W W' : World} (h : Below W.heap.size W W') : KeepsFrom B W W' := ⟨h.size, fun k o _ hk _ => (h.block k (Array.getElem?_eq_some_iff.1 hk).1).trans hk⟩
theorem boxed_keep {W W' : World} {b : Nat} {t : TypeId} {v : Value} (h : Boxed W b t v) (hb : Below W.heap.size W W') : Boxed W' b t v := (hb.block b h.lt).trans h
theorem boxed_other {W : World} {b k : Nat} {t : TypeId} {v : Value} (h : Boxed W b t v) (hk : b ≠ k) (i : Nat) (u : Value) : Boxed (W.setCell ⟨k, i, none⟩ u) b t v := (heap_setCell_other W ⟨k, i, none⟩ b u hk).trans h
theorem row_other {W : World} {base size n k : Nat} {e t : TypeId} {v z : Value} {xs : List Value} (h : W.ownsRow base e size v n xs) (hb : Boxed W k t z) (hte : t ≠ e) (u : Value) : (W.setCell ⟨k, 0, none⟩ u).ownsRow base e size v n xs :=
  h.kept (grownBy_setCell' W k u) (.inr (hb.not_row hte h).symm)
/-- Between two rounds. -/
def Going (h : Nat) (w : World) (pre : List NL) (W : World) : Prop := ∃ (acc : List Pr) (v u : Value), pre.map (fun x => parseF x.1.2) = acc.map some ∧ Boxed W (h + 3) 22 v ∧ W.ownsRow h 29 5 v acc.length (flatP acc) ∧
  Boxed W h 22 (.slice none 0 0) ∧ Boxed W (h + 1) 3 (.int .i64 0) ∧ Boxed W (h + 2) 23 (.int .i64 0) ∧ Boxed W (h + 4) 9 u ∧ Below w.heap.size w W
/-- Behind a round that has returned. -/
def Stopped (h : Nat) (w : World) (pre : List NL) (W : World) : Prop := ∃ (acc : List Pr) (q : List NL) (x : NL), pre = q ++ [x] ∧ q.map (fun x => parseF x.1.2) = acc.map some ∧ parseF x.1.2 = none ∧
  Boxed W h 22 (.slice none 0 0) ∧ Boxed W (h + 1) 3 (.int .i64 x.1.1) ∧ Boxed W (h + 2) 23 (.int .i64 2) ∧ Below w.heap.size w W
theorem going_own (w : World) (B : Nat) (hB : w.heap.size ≤ B) : OwnFrom B (Going w.heap.size w) := by
  rintro s X Y row ⟨acc, v, u, h1, h2, h3, h4, h5, h6, h7, h8⟩ hg hr
  exact ⟨acc, v, u, h1, grown_boxed hg hr h2, grown_row hg hr h3, grown_boxed hg hr h4, grown_boxed hg hr h5, grown_boxed hg hr h6, grown_boxed hg hr h7, grown_below hg hB hr h8⟩
theorem stopped_own (w : World) (B : Nat) (hB : w.heap.size ≤ B) : OwnFrom B (Stopped w.heap.size w) := by
  rintro s X Y row ⟨acc, q, x, h1, h2, h3, h4, h5, h6, h8⟩ hg hr
  exact ⟨acc, q, x, h1, h2, h3, grown_boxed hg hr h4, grown_boxed hg hr h5, grown_boxed hg hr h6, grown_below hg hB hr h8⟩
theorem going_box (w : World) : ∀ (s : List NL) (W : World) (z : Value), Going w.heap.size w s W → Going w.heap.size w s (W.setCell ⟨w.heap.size + 4, 0, none⟩ z) := by
  rintro s W z ⟨acc, v, u, h1, h2, h3, h4, h5, h6, h7, h8⟩
  exact ⟨acc, v, z, h1, boxed_other h2 (by omega) 0 z, row_other h3 h7 (by decide) z, boxed_other h4 (by omega) 0 z, boxed_other h5 (by omega) 0 z, boxed_other h6 (by omega) 0 z, h7.set z, h8.setCell (p := ⟨w.heap.size + 4, 0, none⟩) (by simp) z⟩
theorem map_clip (s : ByteArray) (hs : s.size ≤ 100000) : (linesS s).map (fun x => parseF x.1.2) = (linesP 1 (cutsL 10 s.data.toList)).map (fun x => parseF x.2) ∧ ∀ pre x, pre ++ [x] <+: linesS s → pre.map (·.1) ++ [x.1] <+: linesP 1 (cutsL 10 s.data.toList) := by
  have hb : ∀ (cs : List (List UInt8)) (no : Nat), (∀ c ∈ cs, c.length ≤ 100000) → ∀ y ∈ linesP no cs, y.2.size ≤ 100000 := by
    intro cs
    induction cs with
    | nil => intro no _ y hy; rw [linesP] at hy; cases hy
    | cons c cs ih =>
      intro no h y hy
      cases cs with
      | nil =>
        rw [linesP] at hy
        split at hy
        · cases hy
        · rw [List.mem_singleton.1 hy]; exact (by decide : ({ data := #[10] } : ByteArray).size ≤ 100000)
      | cons d cs =>
        rw [linesP] at hy
        rcases List.mem_cons.1 hy with rfl | hy
        · simp only; rw [bl_size]; exact h c (.head _)
        · exact ih (no + 1) (fun x hx => h x (.tail _ hx)) y hy
  have h2 := hb (cutsL 10 s.data.toList) 1 (fun c hc => Nat.le_trans (cuts_len 10 _ c hc) (by rw [Array.length_toList]; exact hs))
  have h3 : (linesS s).map (·.1) = linesP 1 (cutsL 10 s.data.toList) := by
    unfold linesS
    rw [List.map_map]
    conv => rhs; rw [← List.map_id (linesP 1 (cutsL 10 s.data.toList))]
    refine List.map_congr_left fun y hy => ?_
    show (clip y).1 = y
    rw [show y = (y.1, y.2) from rfl, clip_is (h2 y hy)]
  refine ⟨?_, ?_⟩
  · rw [← h3, List.map_map]
    rfl
  · rintro pre x ⟨t, ht⟩
    refine ⟨t.map (·.1), ?_⟩
    rw [← h3, ← ht]
    simp

attribute [local go_sem] Oper.semAt_some
set_option maxRecDepth 100000 in
set_option maxHeartbeats 2000000 in
theorem tread_any (s : ByteArray) (hs : s.size ≤ 100000) (w : World) (he : Env w) : Calls Tryz.prog 6 #[.string s] w fun e w' => ∃ v, e = .returned (.tuple #[v, .int .i64 (readR s).2.1, .int .i64 (readR s).2.2]) ∧ w'.ownsRow w.heap.size 29 5 v (readR s).1.length (flatP (readR s).1) ∧ Below w.heap.size w w' := by
  obtain ⟨i0, hi, hz0, hz1, hz2⟩ := info_parts3 Tryz.infoP
  have HE := Lib.hid he
  obtain ⟨m, hm⟩ := he.len
  have h3 : 0 < w.heap.size := World.block_lt_of_cell? w _ hm
  have HM := Lib.hid hm
  clear he hm
  refine (callsIn_wide (n := 3)).1 ?_
  refine callsIn_of_wp_marks Tryz.func6 rfl trivial ?_ rfl
  simp only [Tryz.ntmps6, List.size_toArray, List.length_cons, List.length_nil, Nat.reduceAdd, Nat.reduceSub, Array.replicate_succ, Array.replicate_zero, List.push_toArray, List.append_toArray, List.nil_append, List.cons_append]
  gi_wp2_with (refine ⟨trivial, ?_⟩; refine (callsIn_wide.2 (lines_call s _)).mono ?_; rintro e w' ⟨rfl, rfl⟩)
  have hsz : (((((w.alloc (.cells #[.slice none 0 0] 22)).alloc (.cells #[.int .i64 0] 3)).alloc (.cells #[.int .i64 0] 23)).alloc (.cells #[.slice none 0 0] 22)).alloc (.cells #[.string s] 9)).heap.size = w.heap.size + 5 := by simp
  have b0 := Boxed.new w 22 (.slice none 0 0)
  have b1 := Boxed.new (w.alloc (.cells #[.slice none 0 0] 22)) 3 (.int .i64 0)
  have b2 := Boxed.new ((w.alloc (.cells #[.slice none 0 0] 22)).alloc (.cells #[.int .i64 0] 3)) 23 (.int .i64 0)
  have b3 := Boxed.new (((w.alloc (.cells #[.slice none 0 0] 22)).alloc (.cells #[.int .i64 0] 3)).alloc (.cells #[.int .i64 0] 23)) 22 (.slice none 0 0)
  have b4 := Boxed.new ((((w.alloc (.cells #[.slice none 0 0] 22)).alloc (.cells #[.int .i64 0] 3)).alloc (.cells #[.int .i64 0] 23)).alloc (.cells #[.slice none 0 0] 22)) 9 (.string s)
  have hB0 : Below w.heap.size w (((((w.alloc (.cells #[.slice none 0 0] 22)).alloc (.cells #[.int .i64 0] 3)).alloc (.cells #[.int .i64 0] 23)).alloc (.cells #[.slice none 0 0] 22)).alloc (.cells #[.string s] 9)) := lowA (lowA (lowA (lowA (low0 w _) _) _) _) _
  simp only [World.size_alloc] at b1 b2 b3 b4
  have b0' := (((b0.alloc (.cells #[.int .i64 0] 3)).alloc (.cells #[.int .i64 0] 23)).alloc (.cells #[.slice none 0 0] 22)).alloc (.cells #[.string s] 9)
  have b1' := ((b1.alloc (.cells #[.int .i64 0] 23)).alloc (.cells #[.slice none 0 0] 22)).alloc (.cells #[.string s] 9)
  have b2' := (b2.alloc (.cells #[.slice none 0 0] 22)).alloc (.cells #[.string s] 9)
  have b3' := b3.alloc (.cells #[.string s] 9)
  clear b0 b1 b2 b3
  simp only [Nat.add_assoc, Nat.reduceAdd] at b4 b1' b2' b3' ⊢
  generalize (((((w.alloc (.cells #[.slice none 0 0] 22)).alloc (.cells #[.int .i64 0] 3)).alloc (.cells #[.int .i64 0] 23)).alloc (.cells #[.slice none 0 0] 22)).alloc (.cells #[.string s] 9)) = W0 at *
  have hm0 : W0.cell? ⟨0, 0, none⟩ = some (.int .i64 m) := (hB0.cell (p := ⟨0, 0, none⟩) h3).trans HM.out
  refine range_boxed (F := Fence.wide) (n := 3) rfl (by decide) (gf := 28) (lb := #[.pointer (some ⟨w.heap.size + 4, 0, none⟩)]) rfl trivial (enters_of Tryz.func28 (by kernel_rfl) rfl) (Bs := w.heap.size + 4) (by omega)
    (lines_iter s hs (w.heap.size + 4) 2 W0 (by omega) (by omega) b4 ⟨m, hm0⟩) (fun h k => h.trans k) (fun W l o o' hl _ => KeepsTwo.put W o' (by omega) (by omega)) (fun _ => rfl) (Going w.heap.size w) (Stopped w.heap.size w) (going_own w _ (by omega)) (stopped_own w _ (by omega)) (going_box w)
    ⟨[], .slice none 0 0, .string s, rfl, b3', World.ownsRow_nil _ _ _ _, b0', b1', b2', b4, hB0⟩ (fun x : NL => { tmps := #[.string s, undef, .pointer (some ⟨w.heap.size, 0, none⟩), .pointer (some ⟨w.heap.size + 1, 0, none⟩), .pointer (some ⟨w.heap.size + 2, 0, none⟩), .pointer (some ⟨w.heap.size + 3, 0, none⟩), .int .i64 x.1.1, .string x.1.2, undef, undef, .string s, .func (.func 28) #[] #[.pointer (some ⟨w.heap.size + 4, 0, none⟩)], .int .i64 x.1.1, .string x.1.2, undef, undef, undef, undef, undef, undef, undef, undef, undef, undef, undef, undef, undef, undef], defers := [] }) ?assign ?body ?done ?stop
  case assign =>
    intro l x W K hK
    gi_wp2
    exact hK
  case body =>
    rintro l pre x W ⟨acc, v, u, h1, h2, h3', h4, h5, h6, h7, h8⟩ hlen
    obtain ⟨⟨no, ln⟩, hln⟩ := x
    have HPV := Lib.hid (show ∀ w, Env w → Calls Tryz.prog 14 #[.string ln] w fun e w' => e = .returned (.tuple #[(parseV ln).1.val, .int .i64 (parseV ln).2]) ∧ Below w.heap.size w w' from fun w he => tparse_v ln hln w he)
    cases hpf : parseF ln with
    | none =>
      have hv : parseV ln = (zeroPr, 2) := by unfold parseV; rw [hpf]
      rw [hv] at HPV
      simp only [Pr.val, zeroPr] at HPV
      clear hv
      have hev := HE.out.keep h8
      gi_wp2_with (first | (refine ⟨trivial, ?_⟩; refine (CallsIn.inRound l (callsIn_wide.2 (HPV.out _ hev))).mono ?_; rintro e w1 ⟨rfl, hx⟩; have hxa := lowA (Below.refl w1.heap.size w1) (.cells #[.int .i64 0, .int .u32 0, .string { data := #[] }, .int .i64 0, .int .i64 0] 29); have B3 := (boxed_keep h2 hx).alloc (.cells #[.int .i64 0, .int .u32 0, .string { data := #[] }, .int .i64 0, .int .i64 0] 29); have B4 := (boxed_keep h4 hx).alloc (.cells #[.int .i64 0, .int .u32 0, .string { data := #[] }, .int .i64 0, .int .i64 0] 29); have B5 := (boxed_keep h5 hx).alloc (.cells #[.int .i64 0, .int .u32 0, .string { data := #[] }, .int .i64 0, .int .i64 0] 29); have B6 := (boxed_keep h6 hx).alloc (.cells #[.int .i64 0, .int .u32 0, .string { data := #[] }, .int .i64 0, .int .i64 0] 29); have B7 := (boxed_keep h7 hx).alloc (.cells #[.int .i64 0, .int .u32 0, .string { data := #[] }, .int .i64 0, .int .i64 0] 29); have R3 := (own_keep h3' hx).alloc (.cells #[.int .i64 0, .int .u32 0, .string { data := #[] }, .int .i64 0, .int .i64 0] 29); have B8 := lowA (low h8 hx) (.cells #[.int .i64 0, .int .u32 0, .string { data := #[] }, .int .i64 0, .int .i64 0] 29); have c3 := B3.cell; have c4 := B4.cell; have c5 := B5.cell; have c6 := B6.cell; have g4 := B4.frozen; have g5 := B5.frozen; have g6 := B6.frozen; have HX := Lib.hid hx; have hs8 := B8.size; clear hx hxa) | (refine ⟨trivial, (fun h => absurd h (by decide)), ?_⟩; refine (CallsIn.inRound l (callsIn_wide.2 (HPV.out _ hev))).mono ?_; rintro e w1 ⟨rfl, hx⟩; have hxa := lowA (Below.refl w1.heap.size w1) (.cells #[.int .i64 0, .int .u32 0, .string { data := #[] }, .int .i64 0, .int .i64 0] 29); have B3 := (boxed_keep h2 hx).alloc (.cells #[.int .i64 0, .int .u32 0, .string { data := #[] }, .int .i64 0, .int .i64 0] 29); have B4 := (boxed_keep h4 hx).alloc (.cells #[.int .i64 0, .int .u32 0, .string { data := #[] }, .int .i64 0, .int .i64 0] 29); have B5 := (boxed_keep h5 hx).alloc (.cells #[.int .i64 0, .int .u32 0, .string { data := #[] }, .int .i64 0, .int .i64 0] 29); have B6 := (boxed_keep h6 hx).alloc (.cells #[.int .i64 0, .int .u32 0, .string { data := #[] }, .int .i64 0, .int .i64 0] 29); have B7 := (boxed_keep h7 hx).alloc (.cells #[.int .i64 0, .int .u32 0, .string { data := #[] }, .int .i64 0, .int .i64 0] 29); have R3 := (own_keep h3' hx).alloc (.cells #[.int .i64 0, .int .u32 0, .string { data := #[] }, .int .i64 0, .int .i64 0] 29); have B8 := lowA (low h8 hx) (.cells #[.int .i64 0, .int .u32 0, .string { data := #[] }, .int .i64 0, .int .i64 0] 29); have c3 := B3.cell; have c4 := B4.cell; have c5 := B5.cell; have c6 := B6.cell; have g4 := B4.frozen; have g5 := B5.frozen; have g6 := B6.frozen; have HX := Lib.hid hx; have hs8 := B8.size; clear hx hxa))
      refine ⟨?_, acc, pre, ⟨(no, ln), hln⟩, rfl, h1, hpf, ?_, ?_, ?_, ?_⟩
      · exact ((((KeepsFrom.below HX.out).trans ((KeepsOthers.alloc w1 _).from _)).trans ((KeepsOthers.setCell _ _ _).from _)).trans ((KeepsOthers.setCell _ _ _).from _)).trans ((KeepsOthers.setCell _ _ _).from _)
      · exact boxed_other (boxed_other (B4.set _) (by omega) 0 _) (by omega) 0 _
      · exact boxed_other ((boxed_other B5 (by omega) 0 _).set _) (by omega) 0 _
      · exact (boxed_other (boxed_other B6 (by omega) 0 _) (by omega) 0 _).set _
      · exact ((B8.setCell (p := ⟨w.heap.size, 0, none⟩) (Nat.le_refl _) _).setCell (p := ⟨w.heap.size + 1, 0, none⟩) (by simp) _).setCell (p := ⟨w.heap.size + 2, 0, none⟩) (by simp) _
    | some p =>
      have hv : parseV ln = (p, 0) := by unfold parseV; rw [hpf]
      rw [hv] at HPV
      obtain ⟨qs, qa, qc, qf, qu⟩ := p
      simp only [Pr.val] at HPV
      clear hv
      have hev := HE.out.keep h8
      have hal : acc.length = pre.length := by have h := congrArg List.length h1; simpa using h.symm
      have HAL := Lib.hid hal
      have hal2 : acc.length ≤ 100000 := by omega
      clear hal
      gi_wp2_with (first | (refine ⟨trivial, ?_⟩; refine (CallsIn.inRound l (callsIn_wide.2 (HPV.out _ hev))).mono ?_; rintro e w1 ⟨rfl, hx⟩; have hxa := lowA (Below.refl w1.heap.size w1) (.cells #[.int .i64 qs, .int .u32 qa, .string qc, .int .i64 qf, .int .i64 qu] 29); have B3 := (boxed_keep h2 hx).alloc (.cells #[.int .i64 qs, .int .u32 qa, .string qc, .int .i64 qf, .int .i64 qu] 29); have B4 := (boxed_keep h4 hx).alloc (.cells #[.int .i64 qs, .int .u32 qa, .string qc, .int .i64 qf, .int .i64 qu] 29); have B5 := (boxed_keep h5 hx).alloc (.cells #[.int .i64 qs, .int .u32 qa, .string qc, .int .i64 qf, .int .i64 qu] 29); have B6 := (boxed_keep h6 hx).alloc (.cells #[.int .i64 qs, .int .u32 qa, .string qc, .int .i64 qf, .int .i64 qu] 29); have B7 := (boxed_keep h7 hx).alloc (.cells #[.int .i64 qs, .int .u32 qa, .string qc, .int .i64 qf, .int .i64 qu] 29); have R3 := (own_keep h3' hx).alloc (.cells #[.int .i64 qs, .int .u32 qa, .string qc, .int .i64 qf, .int .i64 qu] 29); have B8 := lowA (low h8 hx) (.cells #[.int .i64 qs, .int .u32 qa, .string qc, .int .i64 qf, .int .i64 qu] 29); have c3 := B3.cell; have c4 := B4.cell; have c5 := B5.cell; have c6 := B6.cell; have g4 := B4.frozen; have g5 := B5.frozen; have g6 := B6.frozen; have HX := Lib.hid hx; have hs8 := B8.size; clear hx hxa) | (refine ⟨trivial, (fun h => absurd h (by decide)), ?_⟩; refine (CallsIn.inRound l (callsIn_wide.2 (HPV.out _ hev))).mono ?_; rintro e w1 ⟨rfl, hx⟩; have hxa := lowA (Below.refl w1.heap.size w1) (.cells #[.int .i64 qs, .int .u32 qa, .string qc, .int .i64 qf, .int .i64 qu] 29); have B3 := (boxed_keep h2 hx).alloc (.cells #[.int .i64 qs, .int .u32 qa, .string qc, .int .i64 qf, .int .i64 qu] 29); have B4 := (boxed_keep h4 hx).alloc (.cells #[.int .i64 qs, .int .u32 qa, .string qc, .int .i64 qf, .int .i64 qu] 29); have B5 := (boxed_keep h5 hx).alloc (.cells #[.int .i64 qs, .int .u32 qa, .string qc, .int .i64 qf, .int .i64 qu] 29); have B6 := (boxed_keep h6 hx).alloc (.cells #[.int .i64 qs, .int .u32 qa, .string qc, .int .i64 qf, .int .i64 qu] 29); have B7 := (boxed_keep h7 hx).alloc (.cells #[.int .i64 qs, .int .u32 qa, .string qc, .int .i64 qf, .int .i64 qu] 29); have R3 := (own_keep h3' hx).alloc (.cells #[.int .i64 qs, .int .u32 qa, .string qc, .int .i64 qf, .int .i64 qu] 29); have B8 := lowA (low h8 hx) (.cells #[.int .i64 qs, .int .u32 qa, .string qc, .int .i64 qf, .int .i64 qu] 29); have c3 := B3.cell; have c4 := B4.cell; have c5 := B5.cell; have c6 := B6.cell; have g4 := B4.frozen; have g5 := B5.frozen; have g6 := B6.frozen; have HX := Lib.hid hx; have hs8 := B8.size; clear hx hxa) | (gi_at_builtin; refine wpListIn_append_own _ rfl (.tmp 23) (.tmp 25) 22 rfl w.heap.size 29 i0 (.agg #[.int .i64 0, .int .u32 0, .string { data := #[] }, .int .i64 0, .int .i64 0]) 5 48 Tryz.underlying22 hi hz0 hz1 hz2 rfl (by decide) _ acc.length (flatP acc) rfl (R3.alloc (.cells #[.int .i64 qs, .int .u32 qa, .string qc, .int .i64 qf, .int .i64 qu] 29)) ⟨_, 0, none⟩ 1 1 [.int .i64 qs, .int .u32 qa, .string qc, .int .i64 qf, .int .i64 qu] rfl rfl (cells_new2 w1 (.cells #[.int .i64 qs, .int .u32 qa, .string qc, .int .i64 qf, .int .i64 qu] 29) #[.int .i64 qs, .int .u32 qa, .string qc, .int .i64 qf, .int .i64 qu] 29) (by intro u hu; simp at hu; rcases hu with rfl | rfl | rfl | rfl | rfl <;> rfl) (by unfold maxLen; omega) (by omega) (by simp at hs8 ⊢; omega) ?_; intro v1 w3 hown3 hgr3 _; obtain ⟨g1, cap1, rfl⟩ := ownsRow_succ hown3; obtain ⟨hv1, hv2, hr2, hk2, hb2⟩ := B3.appended (by decide) R3 hs8 (by omega) hown3 hgr3; have hc1 := hv1.cell; have hf1 := hv1.frozen))
      have k : ∀ {b : Nat} {t : TypeId} {z : Value}, Boxed (w1.alloc (.cells #[.int .i64 qs, .int .u32 qa, .string qc, .int .i64 qf, .int .i64 qu] 29)) b t z → t ≠ 29 → b ≠ w.heap.size + 3 → Boxed (w3.setCell ⟨w.heap.size + 3, 0, none⟩ (.slice (some ⟨g1, 0, none⟩) (acc.length + 1) cap1)) b t z := fun hb ht hne => boxed_other ((hb.alloc _).kept hgr3 (hb.not_row ht R3)) hne 0 _
      have hbel : Below w.heap.size W (w3.setCell ⟨w.heap.size + 3, 0, none⟩ (.slice (some ⟨g1, 0, none⟩) (acc.length + 1) cap1)) := ((HX.out.mono h8.size).trans ((low0 w1 _).mono (Nat.le_trans h8.size HX.out.size))).trans hb2
      refine ⟨((KeepsFrom.below HX.out).trans ((KeepsOthers.alloc w1 _).from _)).trans (hk2.from _), ⟨(k B7 (by decide) (by omega)).trans h7.symm, hbel.block 0 h3⟩, acc ++ [⟨qs, qa, qc, qf, qu⟩], _, u, ?_, hv2, ?_, k B4 (by decide) (by omega), k B5 (by decide) (by omega), k B6 (by decide) (by omega), k B7 (by decide) (by omega), h8.trans hbel⟩
      · rw [List.map_append, List.map_append, h1]
        simp [hpf]
      · rw [List.length_append, List.length_singleton, flatP_snoc]
        exact hr2
  case done =>
    rintro D xs W hD rfl ⟨acc, v, u, h1, h2, h3', h4, h5, h6, h7, h8⟩ hK
    have HR := Lib.hid (show readR s = (acc, 0, 0) from by
      have h := linesP_all (cutsL 10 s.data.toList) 1 [] acc (cutsL_ne _ _) ((map_clip s hs).1.symm.trans h1)
      rw [List.nil_append] at h
      exact h)
    obtain ⟨ao, cp, rfl⟩ : ∃ ao cp, v = .slice ao acc.length cp := by
      rcases h3'.2 with ⟨rfl, h0⟩ | ⟨g, cap, cur, rfl, _⟩
      · exact ⟨none, 0, by rw [h0]⟩
      · exact ⟨_, _, rfl⟩
    have c3 := h2.cell
    have c4 := h4.cell
    have c5 := h5.cell
    have c6 := h6.cell
    have g4 := h4.frozen
    have g5 := h5.frozen
    have g6 := h6.frozen
    gi_wp2
    have hK2 := (((KeepsOthers.setCell W ⟨w.heap.size, 0, none⟩ (.slice ao acc.length cp)).trans (KeepsOthers.setCell _ ⟨w.heap.size + 1, 0, none⟩ (.int .i64 0))).trans (KeepsOthers.setCell _ ⟨w.heap.size + 2, 0, none⟩ (.int .i64 0))).same D _ hK rfl
    have d4 := boxed_other (boxed_other (h4.set (.slice ao acc.length cp)) (show w.heap.size ≠ w.heap.size + 1 by omega) 0 (.int .i64 0)) (show w.heap.size ≠ w.heap.size + 2 by omega) 0 (.int .i64 0)
    have d5 := boxed_other ((boxed_other h5 (show w.heap.size + 1 ≠ w.heap.size by omega) 0 (.slice ao acc.length cp)).set (.int .i64 0)) (show w.heap.size + 1 ≠ w.heap.size + 2 by omega) 0 (.int .i64 0)
    have d6 := (boxed_other (boxed_other h6 (show w.heap.size + 2 ≠ w.heap.size by omega) 0 (.slice ao acc.length cp)) (show w.heap.size + 2 ≠ w.heap.size + 1 by omega) 0 (.int .i64 0)).set (.int .i64 0)
    have r3 := row_other (row_other (row_other h3' h4 (by decide) (.slice ao acc.length cp)) (boxed_other h5 (show w.heap.size + 1 ≠ w.heap.size by omega) 0 _) (by decide) (.int .i64 0)) (boxed_other (boxed_other h6 (show w.heap.size + 2 ≠ w.heap.size by omega) 0 _) (show w.heap.size + 2 ≠ w.heap.size + 1 by omega) 0 _) (by decide) (.int .i64 0)
    have b8 := ((h8.setCell (p := ⟨w.heap.size, 0, none⟩) (Nat.le_refl _) (.slice ao acc.length cp)).setCell (p := ⟨w.heap.size + 1, 0, none⟩) (by simp) (.int .i64 0)).setCell (p := ⟨w.heap.size + 2, 0, none⟩) (by simp) (.int .i64 0)
    generalize ((W.setCell ⟨w.heap.size, 0, none⟩ (.slice ao acc.length cp)).setCell ⟨w.heap.size + 1, 0, none⟩ (.int .i64 0)).setCell ⟨w.heap.size + 2, 0, none⟩ (.int .i64 0) = X at *
    refine ⟨by simp, .inl ⟨_, _, rfl, run_takeDeferred hK2, ?_⟩⟩
    have k4 := cell_kept d4.cell (grownBy_putObj' X D (.deferred none)) (fun r e => by cases e; exact ⟨_, hK2, rfl⟩)
    have k5 := cell_kept d5.cell (grownBy_putObj' X D (.deferred none)) (fun r e => by cases e; exact ⟨_, hK2, rfl⟩)
    have k6 := cell_kept d6.cell (grownBy_putObj' X D (.deferred none)) (fun r e => by cases e; exact ⟨_, hK2, rfl⟩)
    refine ⟨.tuple #[.slice ao acc.length cp, .int .i64 0, .int .i64 0], by simp [results, Tryz.results6, go_sem, k4, k5, k6], .slice ao acc.length cp, by rw [HR.out], ?_, b8.trans (belowK_b (w := w) (Nat.le_refl _) X D _ _ (by omega) hK2 rfl rfl)⟩
    rw [HR.out]
    exact ownsRow_putObj r3 _ hK2 rfl
  case stop =>
    rintro D pre W hD hpre ⟨acc, q, x, rfl, h1, hx, h4, h5, h6, h8⟩ hK
    have HR := Lib.hid (show readR s = ([], (x.1.1 : Int), 2) from linesP_bad (cutsL 10 s.data.toList) 1 [] acc (q.map (·.1)) x.1 ((map_clip s hs).2 q x hpre) (by rw [List.map_map]; exact h1) hx)
    gi_wp2
    have hK2 := hK
    have d4 := h4
    have d5 := h5
    have d6 := h6
    obtain ⟨X, rfl⟩ : ∃ X, X = W := ⟨_, rfl⟩
    refine ⟨by simp, .inl ⟨_, _, rfl, run_takeDeferred hK2, ?_⟩⟩
    have k4 := cell_kept d4.cell (grownBy_putObj' X D (.deferred none)) (fun r e => by cases e; exact ⟨_, hK2, rfl⟩)
    have k5 := cell_kept d5.cell (grownBy_putObj' X D (.deferred none)) (fun r e => by cases e; exact ⟨_, hK2, rfl⟩)
    have k6 := cell_kept d6.cell (grownBy_putObj' X D (.deferred none)) (fun r e => by cases e; exact ⟨_, hK2, rfl⟩)
    refine ⟨.tuple #[.slice none 0 0, .int .i64 x.1.1, .int .i64 2], by simp [results, Tryz.results6, go_sem, k4, k5, k6], .slice none 0 0, by rw [HR.out], ?_, h8.trans (belowK_b (w := w) (Nat.le_refl _) X D _ _ (by omega) hK2 rfl rfl)⟩
    rw [HR.out]
    exact World.ownsRow_nil _ _ _ _

end Go.Proofs.YtodjeidofgbdlaaGreatDoor
