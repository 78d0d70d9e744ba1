/- Bytes and leases, there and back: no program. -/
import Derived.Test.YtihekjoeibljpaaDec
namespace Go.Proofs.Ytihekjoeibljpaa
open Go.ChangeShapes Go.WideShapes Go.ChangeAt Go.RowKit
set_option linter.unusedVariables false
set_option linter.unusedSimpArgs false

theorem strOf_data (l : List Int) : ∀ s : ByteArray, (l.foldl (fun r n => r.push (UInt8.ofNat n.toNat)) s).data.toList = s.data.toList ++ l.map (fun z => UInt8.ofNat z.toNat) := by
  induction l with
  | nil => intro s; simp
  | cons z l ih =>
    intro s
    rw [List.foldl_cons, ih, List.map_cons]
    simp [ByteArray.push]
theorem strOf_toList (l : List Int) : (strOf l).data.toList = l.map (fun z => UInt8.ofNat z.toNat) := by
  have h := strOf_data l ByteArray.empty
  simpa [strOf] using h
theorem strOf_size (l : List Int) : (strOf l).size = l.length := by
  have h := congrArg List.length (strOf_toList l)
  rw [List.length_map, Array.length_toList] at h
  exact h
theorem u8_back (z : Int) (h : 0 ≤ z ∧ z ≤ 255) : ((UInt8.ofNat z.toNat).toNat : Int) = z := by
  rw [UInt8.toNat_ofNat']
  omega
theorem byteL_strOf (l : List Int) (h : ∀ z ∈ l, 0 ≤ z ∧ z ≤ 255) : byteL (strOf l) = l := by
  unfold byteL
  rw [strOf_toList, List.map_map]
  conv => rhs; rw [← List.map_id l]
  exact List.map_congr_left fun z hz => u8_back z (h z hz)
theorem byteL_u8 (s : ByteArray) : ∀ z ∈ byteL s, 0 ≤ z ∧ z ≤ 255 := by
  intro z hz
  unfold byteL at hz
  obtain ⟨b, _, rfl⟩ := List.mem_map.1 hz
  have := b.toNat_lt
  omega
theorem strOf_byteL (s : ByteArray) : strOf (byteL s) = s := by
  apply ByteArray.ext
  apply Array.toList_inj.1
  rw [strOf_toList]
  unfold byteL
  rw [List.map_map]
  conv => rhs; rw [← List.map_id s.data.toList]
  exact List.map_congr_left fun b _ => by simp
theorem strOf_inj {l m : List Int} (hl : ∀ z ∈ l, 0 ≤ z ∧ z ≤ 255) (hm : ∀ z ∈ m, 0 ≤ z ∧ z ≤ 255) (h : strOf l = strOf m) : l = m := by
  rw [← byteL_strOf l hl, h, byteL_strOf m hm]
theorem be6_num (l : List Int) (hl : l.length = 6) (h : ∀ z ∈ l, 0 ≤ z ∧ z ≤ 255) : be6 (numV l) = l := by
  match l, hl with
  | [a, b, c, d, e, f], _ =>
    have ha := h a (by simp)
    have hb := h b (by simp)
    have hc := h c (by simp)
    have hd := h d (by simp)
    have he := h e (by simp)
    have hf := h f (by simp)
    have e0 : numV [a, b, c, d, e, f] = a * 1099511627776 + b * 4294967296 + c * 16777216 + d * 65536 + e * 256 + f := by
      simp only [numV, List.foldl_cons, List.foldl_nil]
      omega
    rw [e0]
    unfold be6
    simp only [List.cons.injEq, and_true]
    omega
theorem enc5_num (l : List Int) (y : Int) (hl : l.length = 4) (h : ∀ z ∈ l, 0 ≤ z ∧ z ≤ 255) (hy : 0 ≤ y ∧ y ≤ 255) : enc5 (numV l) y = l ++ [y] := by
  match l, hl with
  | [a, b, c, d], _ =>
    have ha := h a (by simp)
    have hb := h b (by simp)
    have hc := h c (by simp)
    have hd := h d (by simp)
    have e0 : numV [a, b, c, d] = a * 16777216 + b * 65536 + c * 256 + d := by
      simp only [numV, List.foldl_cons, List.foldl_nil]
      omega
    rw [e0]
    unfold enc5
    simp only [List.cons_append, List.nil_append, List.cons.injEq, and_true]
    omega
theorem num_be6 (x : Int) (h : 0 ≤ x ∧ x ≤ 1099511627776) : numV (be6 x) = x := by
  unfold be6
  simp only [numV, List.foldl_cons, List.foldl_nil]
  omega
theorem num_enc4 (x : Int) (h : 0 ≤ x ∧ x ≤ 4294967295) : numV [x / 16777216 % 256, x / 65536 % 256, x / 256 % 256, x % 256] = x := by
  simp only [numV, List.foldl_cons, List.foldl_nil]
  omega
theorem pv_at (xs : List Int) (i : Nat) (hi : i < 5) : pv xs 5 0 i = numV ((xs.drop (5 + 6 * i)).take 6) := by
  unfold pv
  rw [if_pos hi]
theorem be6_at (xs : List Int) (hx : ∀ z ∈ xs, 0 ≤ z ∧ z ≤ 255) (hn : 36 ≤ xs.length) (i : Nat) (hi : i < 5) : be6 (pv xs 5 0 i) = (xs.drop (5 + 6 * i)).take 6 := by
  rw [pv_at xs i hi]
  exact be6_num _ (by rw [List.length_take, List.length_drop]; omega) (fun z hz => hx z (List.mem_of_mem_drop (List.mem_of_mem_take hz)))
theorem take_snocI (xs : List Int) (k : Nat) (hk : k < xs.length) : xs.take (k + 1) = xs.take k ++ [xs.getD k 0] := by
  rw [List.take_add_one, List.getElem?_eq_getElem hk, List.getD_eq_getElem?_getD, List.getElem?_eq_getElem hk]
  rfl
/-- The bytes of the lease that bytes tell. -/
theorem enc_dec (xs : List Int) (hx : ∀ z ∈ xs, 0 ≤ z ∧ z ≤ 255) (hn : 36 ≤ xs.length) :
    encL (numV (xs.take 4)) (xs.getD 4 0) (strOf (xs.drop 36)) (pv xs 5 0 0) (pv xs 5 0 1) (pv xs 5 0 2) (pv xs 5 0 3) (pv xs 5 0 4) = xs.take 35 ++ [((xs.length : Int) - 36) % 256] ++ xs.drop 36 := by
  have h5 : enc5 (numV (xs.take 4)) (xs.getD 4 0) = xs.take 5 := by
    rw [enc5_num _ _ (by rw [List.length_take]; omega) (fun z hz => hx z (List.mem_of_mem_take hz)) (u8_range xs hx 4)]
    exact (take_snocI xs 4 (by omega)).symm
  have e35 : xs.take 35 = xs.take 5 ++ (xs.drop 5).take 6 ++ (xs.drop 11).take 6 ++ (xs.drop 17).take 6 ++ (xs.drop 23).take 6 ++ (xs.drop 29).take 6 := by
    rw [← List.take_add, ← List.take_add, ← List.take_add, ← List.take_add, ← List.take_add]
  have es : ((strOf (xs.drop 36)).size : Int) = (xs.length : Int) - 36 := by
    rw [strOf_size, List.length_drop]
    omega
  unfold encL
  rw [es, byteL_strOf _ (fun z hz => hx z (List.mem_of_mem_drop hz)), e35]
  congr 2
  unfold encP
  rw [h5]
  simp only [List.take_succ_cons, List.take_zero, List.flatMap_cons, List.flatMap_nil, List.append_nil, be6_at xs hx hn 0 (by omega), be6_at xs hx hn 1 (by omega), be6_at xs hx hn 2 (by omega), be6_at xs hx hn 3 (by omega), be6_at xs hx hn 4 (by omega)]
  simp only [List.append_assoc]
theorem enc_same (xs : List Int) (hx : ∀ z ∈ xs, 0 ≤ z ∧ z ≤ 255) (hn : 36 ≤ xs.length) (h32 : xs.length ≤ 68) (h35 : xs.getD 35 0 = (xs.length : Int) - 36) :
    encL (numV (xs.take 4)) (xs.getD 4 0) (strOf (xs.drop 36)) (pv xs 5 0 0) (pv xs 5 0 1) (pv xs 5 0 2) (pv xs 5 0 3) (pv xs 5 0 4) = xs := by
  rw [enc_dec xs hx hn, show ((xs.length : Int) - 36) % 256 = xs.getD 35 0 by rw [h35]; omega]
  have e : xs.take 35 ++ [xs.getD 35 0] = xs.take 36 := (take_snocI xs 35 (by omega)).symm
  rw [e, List.take_append_drop]
theorem enc_other (xs : List Int) (hx : ∀ z ∈ xs, 0 ≤ z ∧ z ≤ 255) (hn : 36 ≤ xs.length) (h32 : xs.length ≤ 68) (h35 : xs.getD 35 0 ≠ (xs.length : Int) - 36) :
    encL (numV (xs.take 4)) (xs.getD 4 0) (strOf (xs.drop 36)) (pv xs 5 0 0) (pv xs 5 0 1) (pv xs 5 0 2) (pv xs 5 0 3) (pv xs 5 0 4) ≠ xs := by
  rw [enc_dec xs hx hn]
  intro e
  have h := congrArg (fun l => l.getD 35 0) e
  simp only [List.append_assoc] at h
  rw [List.getD_eq_getElem?_getD, List.getElem?_append_right (by rw [List.length_take]; omega), List.length_take, show 35 - min 35 xs.length = 0 by omega] at h
  simp only [List.cons_append, List.nil_append, List.getElem?_cons_zero, Option.getD_some] at h
  omega
theorem encL_u8 (la lb : Int) (lc : ByteArray) (lu lk lt lz lv : Int) : ∀ z ∈ encL la lb lc lu lk lt lz lv, 0 ≤ z ∧ z ≤ 255 := by
  intro z hz
  unfold encL encP at hz
  simp only [List.mem_append, List.take_succ_cons, List.take_zero, List.flatMap_cons, List.flatMap_nil, List.append_nil, enc5, be6, List.mem_cons, List.not_mem_nil, or_false] at hz
  rcases hz with ((h | h) | h) | h
  · omega
  · omega
  · omega
  · exact byteL_u8 lc z h
theorem DecP.len {xs : List Int} (h : DecP xs) (hn : 36 ≤ xs.length) : xs.length ≤ 68 := by
  have h1 := RightP.size_le h
  rw [strOf_size, List.length_drop] at h1
  omega

end Go.Proofs.Ytihekjoeibljpaa
