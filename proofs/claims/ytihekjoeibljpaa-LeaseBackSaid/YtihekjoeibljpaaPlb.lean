/- A lease, told by its own bytes: no program. -/
import Derived.Test.YtihekjoeibljpaaLaw4
namespace Go.Proofs.Ytihekjoeibljpaa
open Go.ChangeShapes Go.WideShapes Go.ChangeAt Go.RowKit
set_option linter.unusedVariables false
set_option linter.unusedSimpArgs false

/-- A lease's bytes, as lists. -/
theorem encL_cons (la lb : Int) (lc : ByteArray) (lu lk lt lz lv : Int) : encL la lb lc lu lk lt lz lv = [la / 16777216 % 256, la / 65536 % 256, la / 256 % 256, la % 256] ++ ([lb % 256] ++ (be6 lu ++ (be6 lk ++ (be6 lt ++ (be6 lz ++ (be6 lv ++ ([(lc.size : Int) % 256] ++ byteL lc))))))) := by
  unfold encL encP enc5
  simp only [List.take_succ_cons, List.take_zero, List.flatMap_cons, List.flatMap_nil, List.append_nil, List.append_assoc, List.cons_append, List.nil_append]
theorem be6_length (x : Int) : (be6 x).length = 6 := rfl
theorem encL_num (la lb : Int) (lc : ByteArray) (lu lk lt lz lv : Int) (wa : 0 ≤ la ∧ la ≤ 4294967295) : numV ((encL la lb lc lu lk lt lz lv).take 4) = la := by
  rw [encL_cons]
  exact num_enc4 la wa
theorem encL_four (la lb : Int) (lc : ByteArray) (lu lk lt lz lv : Int) (hb : 0 ≤ lb ∧ lb ≤ 5) : (encL la lb lc lu lk lt lz lv).getD 4 0 = lb := by
  rw [encL_cons]
  show lb % 256 = lb
  omega
theorem encL_35 (la lb : Int) (lc : ByteArray) (lu lk lt lz lv : Int) (hc : lc.size ≤ 32) : (encL la lb lc lu lk lt lz lv).getD 35 0 = ((encL la lb lc lu lk lt lz lv).length : Int) - 36 := by
  rw [encL_length, encL_cons]
  show (lc.size : Int) % 256 = _
  omega
theorem encL_drop (la lb : Int) (lc : ByteArray) (lu lk lt lz lv : Int) : (encL la lb lc lu lk lt lz lv).drop 36 = byteL lc := by
  rw [encL_cons]
  rfl
theorem encL_pv (la lb : Int) (lc : ByteArray) (lu lk lt lz lv : Int) (h : okT lu ∧ okT lk ∧ okT lt ∧ okT lz ∧ okT lv) : pv (encL la lb lc lu lk lt lz lv) 5 0 0 = lu ∧ pv (encL la lb lc lu lk lt lz lv) 5 0 1 = lk ∧ pv (encL la lb lc lu lk lt lz lv) 5 0 2 = lt ∧ pv (encL la lb lc lu lk lt lz lv) 5 0 3 = lz ∧ pv (encL la lb lc lu lk lt lz lv) 5 0 4 = lv := by
  obtain ⟨h0, h1, h2, h3, h4⟩ := h
  rw [pv_at _ 0 (by omega), pv_at _ 1 (by omega), pv_at _ 2 (by omega), pv_at _ 3 (by omega), pv_at _ 4 (by omega), encL_cons]
  exact ⟨num_be6 lu h0, num_be6 lk h1, num_be6 lt h2, num_be6 lz h3, num_be6 lv h4⟩
/-- A lease's bytes tell it. -/
theorem dec_enc (la lb : Int) (lc : ByteArray) (lu lk lt lz lv : Int) (wa : 0 ≤ la ∧ la ≤ 4294967295) (hr : RightP lb lc lu lk lt lz lv) :
    (DecP (encL la lb lc lu lk lt lz lv) ∧ (encL la lb lc lu lk lt lz lv).getD 35 0 = ((encL la lb lc lu lk lt lz lv).length : Int) - 36) ∧ decV (encL la lb lc lu lk lt lz lv) = #[.int .u32 la, .int .i64 lb, .string lc, .int .i64 lu, .int .i64 lk, .int .i64 lt, .int .i64 lz, .int .i64 lv] := by
  have hb : 0 ≤ lb ∧ lb ≤ 5 := by unfold RightP at hr; omega
  obtain ⟨p0, p1, p2, p3, p4⟩ := encL_pv la lb lc lu lk lt lz lv hr.1
  have e4 := encL_four la lb lc lu lk lt lz lv hb
  have es : strOf ((encL la lb lc lu lk lt lz lv).drop 36) = lc := by rw [encL_drop, strOf_byteL]
  refine ⟨⟨?_, encL_35 la lb lc lu lk lt lz lv hr.size_le⟩, ?_⟩
  · unfold DecP
    rw [p0, p1, p2, p3, p4, e4, es]
    exact hr
  · unfold decV LP
    rw [p0, p1, p2, p3, p4, e4, es, encL_num la lb lc lu lk lt lz lv wa]

end Go.Proofs.Ytihekjoeibljpaa
