/- What a text holds, by the reference. -/
import Derived.Test.YtodjeidofgbdlaaDoorRdp
import Derived.OwnWalk
namespace Go.Proofs.YtodjeidofgbdlaaDoor
open Go.ChangeShapes Go.WideShapes Go.ChangeAt Go.RowKit
set_option linter.unusedVariables false
set_option linter.unusedSimpArgs false

def flatP (ps : List Pr) : List Value := ps.flatMap Pr.cells
theorem flatP_snoc (ps : List Pr) (p : Pr) : flatP (ps ++ [p]) = flatP ps ++ p.cells := by unfold flatP; rw [List.flatMap_append]; simp
theorem flatP_length (ps : List Pr) : (flatP ps).length = ps.length * 5 := by
  unfold flatP
  induction ps with
  | nil => rfl
  | cons p ps ih =>
    rw [List.flatMap_cons, List.length_append, ih, List.length_cons]
    have : p.cells.length = 5 := rfl
    omega
theorem flatP_at : ∀ (ps : List Pr) (j : Nat) (p : Pr) (i : Nat) (v : Value), ps[j]? = some p → p.cells[i]? = some v → (flatP ps)[j * 5 + i]? = some v
  | [], j, p, i, v, h, _ => by simp at h
  | q :: ps, 0, p, i, v, h, hv => by
    simp only [List.getElem?_cons_zero, Option.some.injEq] at h
    subst h
    have hi : i < 5 := (List.getElem?_eq_some_iff.1 hv).1
    unfold flatP
    rw [List.flatMap_cons, Nat.zero_mul, Nat.zero_add, List.getElem?_append_left hi]
    exact hv
  | q :: ps, j + 1, p, i, v, h, hv => by
    simp only [List.getElem?_cons_succ] at h
    have := flatP_at ps j p i v h hv
    have hq : q.cells.length = 5 := rfl
    unfold flatP at this ⊢
    rw [List.flatMap_cons, List.getElem?_append_right (by rw [hq]; omega), hq, ← this]
    congr 1
    omega
theorem own_prs {w : World} {base : Nat} {v : Value} {ps : List Pr} (h : w.ownsRow base 25 5 v ps.length (flatP ps)) (hf : ∀ p ∈ ps, p.fit) : ∃ a c, v = .slice a ps.length c ∧ PrsIn w a ps.length c ps := by
  rcases h.2 with ⟨rfl, h0⟩ | ⟨g, cap, cur, rfl, hb, hg, hc, hm, hs, ht⟩
  · exact ⟨none, 0, by rw [h0], rfl, hf, by omega, by unfold maxLen; omega, fun h => by omega⟩
  · have hB : Blk w g cur 25 := hg
    refine ⟨_, _, rfl, rfl, hf, hc, hm, fun _ => ⟨g, 0, rfl, hB.lt, fun j p hp i u hu => ?_⟩⟩
    have h1 := flatP_at ps j p i u hp hu
    have hj := (List.getElem?_eq_some_iff.1 hp).1
    have hi : i < 5 := (List.getElem?_eq_some_iff.1 hu).1
    rw [Nat.zero_add, hB.cell, ← ht, List.getElem?_take, if_pos (by omega)] at *
    rw [← h1]
    simp
theorem cells_new (w : World) (A : Array Value) (t : TypeId) : ∀ (j : Nat) u, A.toList[j]? = some u → (w.alloc (.cells A t)).cell? ((⟨w.heap.size, 0, none⟩ : Addr).add j) = some u := by
  intro j u hj
  rw [add_spot0, Nat.zero_add, (Blk.new w A t).cell j, ← hj]
  simp
theorem cells_new2 (w : World) (o : Obj) (A : Array Value) (t : TypeId) : ∀ (j : Nat) u, A.toList[j]? = some u → ((w.alloc o).alloc (.cells A t)).cell? ((⟨w.heap.size + 1, 0, none⟩ : Addr).add j) = some u := by
  have h := cells_new (w.alloc o) A t
  have e : (w.alloc o).heap.size = w.heap.size + 1 := by simp
  rw [e] at h
  exact h
theorem Tryd.infoP : (Tryd.prog.info? 25).map (fun i => (i.zero, i.size, i.bytes)) = some (some (.agg #[.int .i64 0, .int .u32 0, .string { data := #[] }, .int .i64 0, .int .i64 0]), 5, 48) := by kernel_rfl
theorem readA_fit : ∀ (cs : List (List UInt8)) (acc : List Pr) (no : Nat), (∀ p ∈ acc, p.fit) → ∀ p ∈ (readA acc no cs).1, p.fit
  | [], acc, no, h, p, hp => by rw [readA] at hp; exact h p hp
  | [c], acc, no, h, p, hp => by
    rw [readA] at hp
    split at hp
    · exact h p hp
    · cases hp
  | c :: d :: cs, acc, no, h, p, hp => by
    rw [readA] at hp
    split at hp
    · cases hp
    · next q hq =>
      refine readA_fit (d :: cs) (acc ++ [q]) (no + 1) (fun x hx => ?_) p hp
      rcases List.mem_append.1 hx with h1 | h1
      · exact h x h1
      · rw [List.mem_singleton.1 h1]; exact (parseF_some hq).2.1
theorem readA_len : ∀ (cs : List (List UInt8)) (acc : List Pr) (no : Nat), (readA acc no cs).1.length ≤ acc.length + cs.length
  | [], acc, no => by rw [readA]; simp
  | [c], acc, no => by
    rw [readA]
    split
    · simp
    · simp
  | c :: d :: cs, acc, no => by
    rw [readA]
    split
    · simp
    · next q hq =>
      have := readA_len (d :: cs) (acc ++ [q]) (no + 1)
      simp only [List.length_append, List.length_cons, List.length_nil] at this ⊢
      omega
theorem cuts_count (c : UInt8) : ∀ l : List UInt8, (cutsL c l).length ≤ l.length + 1
  | [] => by simp [cutsL]
  | b :: l => by
    have := cuts_count c l
    unfold cutsL
    split
    · simp; omega
    · split
      · simp
      · next h => rw [h] at this; simp at this ⊢; omega
theorem readR_fit (s : ByteArray) : ∀ p ∈ (readR s).1, p.fit := readA_fit _ [] 1 (fun _ h => by cases h)
theorem readR_len (s : ByteArray) : (readR s).1.length ≤ s.size + 1 := by
  have h1 := readA_len (cutsL 10 s.data.toList) [] 1
  have h2 := cuts_count 10 s.data.toList
  have h3 : s.data.toList.length = s.size := Array.length_toList
  unfold readR
  simp only [List.length_nil] at h1
  omega
theorem ext_list (s : ByteArray) (f k : Nat) : (s.extract f k).data.toList = (s.data.toList.drop f).take (k - f) := Lib.extract_data s f k
theorem drop_parts (s : ByteArray) {f k : Nat} (h1 : f ≤ k) (h2 : k < s.size) : s.data.toList.drop f = (s.extract f k).data.toList ++ (s[k] :: s.data.toList.drop (k + 1)) := by
  rw [ext_list, ← drop_get s k h2]
  have h := List.take_append_drop (k - f) (s.data.toList.drop f)
  rw [List.drop_drop] at h
  rw [show f + (k - f) = k by omega] at h
  exact h.symm
theorem drop_rest (s : ByteArray) {f : Nat} (h1 : f ≤ s.size) : s.data.toList.drop f = (s.extract f s.size).data.toList := by
  rw [ext_list, List.take_of_length_le]
  rw [List.length_drop, Array.length_toList]
  exact Nat.le_refl _
theorem no10_more (s : ByteArray) {f k : Nat} (h1 : f ≤ k) (h2 : k < s.size) (h : ∀ b ∈ (s.extract f k).data.toList, b ≠ 10) (hb : s[k] ≠ 10) : ∀ b ∈ (s.extract f (k + 1)).data.toList, b ≠ 10 := by
  intro b hx
  rw [ext_list] at hx h
  have e : k + 1 - f = (k - f) + 1 := by omega
  rw [e, List.take_add_one] at hx
  rcases List.mem_append.1 hx with h3 | h3
  · exact h b h3
  · rw [List.getElem?_drop, show f + (k - f) = k by omega, List.getElem?_eq_getElem (by rw [Array.length_toList]; exact h2)] at h3
    simp only [Option.toList_some, List.mem_singleton] at h3
    rw [h3]
    exact hb

set_option maxRecDepth 100000 in
set_option maxHeartbeats 2000000 in
theorem rread_any (s : ByteArray) (hs : s.size ≤ 100000) (w : World) : Calls Tryd.prog 18 #[.string s] w fun e w' => ∃ v, e = .returned (.tuple #[v, .int .i64 (readR s).2.1, .int .i64 (readR s).2.2]) ∧ w'.ownsRow w.heap.size 25 5 v (readR s).1.length (flatP (readR s).1) ∧ Below w.heap.size w w' := by
  obtain ⟨i0, hi, hz0, hz1, hz2⟩ := info_parts3 Tryd.infoP
  go_enter Tryd.func18, Tryd.ntmps18
  go_wp2
  go_loopw [5, 6, 7, 8] (fun v ln fr i wr => ∃ (acc : List Pr) (no f k : Nat), f ≤ k ∧ k ≤ s.size ∧ i = .int .i64 k ∧ fr = .int .i64 f ∧ ln = .int .i64 no ∧ no ≤ k + 1 ∧ acc.length ≤ k ∧ wr.ownsRow w.heap.size 25 5 v acc.length (flatP acc) ∧ (∀ b ∈ (s.extract f k).data.toList, b ≠ 10) ∧ readA acc no (cutsL 10 (s.data.toList.drop f)) = readR s ∧ Below w.heap.size w wr) (fun _ _ _ i _ => s.size - (intOf i).toNat)
  case atStart => exact ⟨[], 1, 0, 0, Nat.le_refl _, by omega, rfl, rfl, rfl, by omega, Nat.le_refl _, World.ownsRow_nil _ _ _ _, by simp [ext_list], by rw [List.drop_zero]; rfl, Below.refl _ _⟩
  case round =>
    obtain ⟨acc, no, f, k, hfk, hk, rfl, rfl, rfl, hno, hal, hown, h10, hra, hb⟩ := hrel
    have HO := Lib.hid hown
    have H10 := Lib.hid h10
    have HRA := Lib.hid hra
    have HB := Lib.hid hb
    clear hown h10 hra hb
    by_cases hlt : k < s.size
    · obtain ⟨x, hx⟩ : ∃ x : Nat, x = (s[k]'hlt).toNat := ⟨_, rfl⟩
      have HDP := Lib.hid (drop_parts s hfk hlt)
      have hx2 : x < 256 := by rw [hx]; exact UInt8.toNat_lt _
      have hbx : (s[k]'hlt).toNat = x := hx.symm
      clear hx
      by_cases e10 : x = 10
      · have q1 : ((x : Int) != 10) = false := by simp [e10]
        have e10b : s[k]'hlt = 10 := UInt8.toNat_inj.1 (by rw [hbx, e10]; rfl)
        have HW := Lib.hid (show readR s = match parseF (s.extract f k) with
            | none => ([], (no : Int), 2)
            | some p => readA (acc ++ [p]) (no + 1) (cutsL 10 (s.data.toList.drop (k + 1))) from by
          rw [← HRA.out, HDP.out, e10b, readA_word _ _ H10.out, bl_of]
          cases parseF (s.extract f k) <;> rfl)
        clear e10b
        have g1 : (f : Int) ≤ k := by omega
        have g2 : (k : Int) ≤ s.size := by omega
        have HPV := Lib.hid (show ∀ w, Calls Tryd.prog 11 #[.string (s.extract f k)] w fun e w' => e = .returned (.tuple #[(parseV (s.extract f k)).1.val, .int .i64 (parseV (s.extract f k)).2]) ∧ Below w.heap.size w w' from fun w => rparse_v _ w)
        cases hpf : parseF (s.extract f k) with
        | none =>
          rw [hpf] at HW
          have hv : parseV (s.extract f k) = (zeroPr, 2) := by unfold parseV; rw [hpf]
          rw [hv] at HPV
          simp only [Pr.val, zeroPr] at HPV HW
          clear hpf hv
          go_wp2_with (go_at_call 11; (with_reducible refine (HPV.out _).mono ?_); rintro e w1 ⟨rfl, hx⟩; have HB1 := Lib.hid (low HB.out hx); clear hx)
          go_ret3
          rw [HW.out]
          exact ⟨_, rfl, World.ownsRow_nil _ _ _ _, lowA HB1.out _⟩
        | some p =>
          rw [hpf] at HW
          have hv : parseV (s.extract f k) = (p, 0) := by unfold parseV; rw [hpf]
          rw [hv] at HPV
          obtain ⟨qs, qa, qc, qf, qu⟩ := p
          simp only [Pr.val] at HPV HW
          clear hpf hv
          have hsz := HB.out.size
          go_wp2_with (first | (go_at_call 11; (with_reducible refine (HPV.out _).mono ?_); rintro e w1 ⟨rfl, hx⟩; have HB1 := Lib.hid (low HB.out hx); have HO1 := Lib.hid (own_keep HO.out hx); have hsz1 := HB1.out.size; clear hx) | (at_builtin; refine wpList_append_own _ rfl (.tmp 32) (.tmp 34) 34 rfl w.heap.size 25 i0 (.agg #[.int .i64 0, .int .u32 0, .string { data := #[] }, .int .i64 0, .int .i64 0]) 5 48 Tryd.underlying34 hi hz0 hz1 hz2 rfl (by decide) _ acc.length (flatP acc) rfl ((HO1.out.alloc (.cells #[.int .i64 qs, .int .u32 qa, .string qc, .int .i64 qf, .int .i64 qu] 25)).alloc (.cells #[.int .i64 qs, .int .u32 qa, .string qc, .int .i64 qf, .int .i64 qu] 25)) ⟨_, 0, none⟩ 1 1 [.int .i64 qs, .int .u32 qa, .string qc, .int .i64 qf, .int .i64 qu] rfl rfl (cells_new2 w1 (.cells #[.int .i64 qs, .int .u32 qa, .string qc, .int .i64 qf, .int .i64 qu] 25) #[.int .i64 qs, .int .u32 qa, .string qc, .int .i64 qf, .int .i64 qu] 25) (by intro u hu; simp at hu; rcases hu with rfl | rfl | rfl | rfl | rfl <;> rfl) (by unfold maxLen; omega) (by omega) (by simp; omega) ?_; intro v1 w3 hown3 hgr3 _; have HO3 := Lib.hid hown3; have HB3 := Lib.hid (Below.grownOwn (lowA (lowA HB1.out (.cells #[.int .i64 qs, .int .u32 qa, .string qc, .int .i64 qf, .int .i64 qu] 25)) (.cells #[.int .i64 qs, .int .u32 qa, .string qc, .int .i64 qf, .int .i64 qu] 25)) ((HO1.out.alloc (.cells #[.int .i64 qs, .int .u32 qa, .string qc, .int .i64 qf, .int .i64 qu] 25)).alloc (.cells #[.int .i64 qs, .int .u32 qa, .string qc, .int .i64 qf, .int .i64 qu] 25)) hgr3 (Nat.le_refl _)); clear hown3 hgr3))
          exact ⟨⟨acc ++ [⟨qs, qa, qc, qf, qu⟩], no + 1, k + 1, k + 1, Nat.le_refl _, by omega, by go_num, by go_num, by go_num, by omega, by simp; omega, by rw [List.length_append, flatP_snoc]; exact HO3.out, by simp [ext_list], HW.out.symm, HB3.out⟩, by simp [intOf]; omega⟩
      · have q1 : ((x : Int) != 10) = true := by simp; omega
        have n10 : s[k]'hlt ≠ 10 := fun h => e10 (by rw [← hbx, h]; rfl)
        have HM := Lib.hid (no10_more s hfk hlt H10.out n10)
        clear n10
        go_wp2
        exact ⟨⟨acc, no, f, k + 1, by omega, by omega, by go_num, rfl, rfl, by omega, by omega, HO.out, HM.out, HRA.out, HB.out⟩, by simp [intOf]; omega⟩
    · obtain rfl : k = s.size := by omega
      by_cases hf : f < s.size
      · have HE := Lib.hid (show readR s = ([], (no : Int), 2) from by
          rw [← HRA.out, drop_rest s (by omega), readA_last _ _ H10.out, if_neg]
          intro h
          have h2 := congrArg List.length h
          rw [ext_list, List.length_take, List.length_drop, Array.length_toList] at h2
          have h3 : s.data.size = s.size := rfl
          simp at h2
          omega)
        go_wp2
        go_ret3
        rw [HE.out]
        exact ⟨_, rfl, World.ownsRow_nil _ _ _ _, HB.out⟩
      · obtain rfl : f = s.size := by omega
        have HE := Lib.hid (show readR s = (acc, 0, 0) from by
          rw [← HRA.out, drop_end]
          exact readA_end _ _)
        go_wp2
        go_ret3
        rw [HE.out]
        exact ⟨_, rfl, HO.out, HB.out⟩

end Go.Proofs.YtodjeidofgbdlaaDoor
