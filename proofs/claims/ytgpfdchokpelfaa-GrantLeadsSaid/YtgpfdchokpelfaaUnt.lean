/- Up to when; what is one's own. -/
import Derived.Test.YtgpfdchokpelfaaLat
import Derived.Test.YtgpfdchokpelfaaServe
namespace Go.Proofs.Ytgpfdchokpelfaa
open Go.ChangeShapes Go.WideShapes Go.ChangeAt Go.RowKit
set_option linter.unusedVariables false

theorem latest2 (a c : Int) (g : Nat) (w : World) (h0 : w.cell? ⟨g, 0, none⟩ = some (.int .i64 a)) (h1 : w.cell? ⟨g, 1, none⟩ = some (.int .i64 c)) :
    Calls Try.prog 22 #[.slice (some ⟨g, 0, none⟩) 2 2] w fun e w' => e = .returned (.int .i64 (max (mom a) (mom c))) ∧ w = w' := by
  rw [← latV_two]
  refine latest_any [a, c] g 2 2 w rfl (by simp) fun i hi => ?_
  rcases i with _ | _ | i
  · exact h0
  · exact h1
  · simp at hi <;> omega
theorem latest1 (a : Int) (g : Nat) (w : World) (h0 : w.cell? ⟨g, 0, none⟩ = some (.int .i64 a)) :
    Calls Try.prog 22 #[.slice (some ⟨g, 0, none⟩) 1 1] w fun e w' => e = .returned (.int .i64 (mom a)) ∧ w = w' := by
  rw [← latV_one]
  refine latest_any [a] g 1 1 w rfl (by simp) fun i hi => ?_
  rcases i with _ | i
  · exact h0
  · simp at hi <;> omega
theorem rbnd_any (n : Int) (w : World) : Calls Try.prog 24 #[.int .i64 n] w fun e w' => e = .returned (.int .i64 (mom n)) ∧ w = w' := by
  go_enter Try.func24, Try.ntmps24
  go_wp2_with (go_at_call 23; with_reducible refine (radd_any _ _ _).mono ?_; rintro e w1 ⟨rfl, rfl⟩)
  go_ret
  exact ⟨ret_int (add_zero n), rfl⟩
def untilV (lead now want acked : Int) : Int := min (clkAdd now (max want 0)) (clkAdd (max (mom now) (mom acked)) (max lead 0))
set_option maxRecDepth 100000 in
theorem until_any (id lead guard now want acked : Int) (w : World) : Calls Try.prog 11 #[.agg #[.int .i64 id, .int .i64 lead, .int .i64 guard], .int .i64 now, .int .i64 want, .int .i64 acked] w fun e w' => e = .returned (.int .i64 (untilV lead now want acked)) ∧ Below w.heap.size w w' := by
  go_enter Try.func11, Try.ntmps11
  go_wp2
  have hb := Blk.new w #[.int .i64 id, .int .i64 lead, .int .i64 guard] 25
  have HH0 := Lib.hid ((HeldB.nil (low0 w (.cells #[.int .i64 id, .int .i64 lead, .int .i64 guard] 25))).cons hb)
  clear hb
  refine wp_region_noPanic ?_
  refine wp_region_held_drew (S := HeldB w [(w.heap.size, #[.int .i64 id, .int .i64 lead, .int .i64 guard], 25)]) (by kernel_rfl) HH0.out.drew (fun hHeld => ?_)
  clear HH0
  refine wpAnyH_take (i := 0) (oi := { dst := some 9, op := Go.Op.move (Go.Operand.tmp 1), type := 3, pos := "grant.go:27", after := #[], guard := none }) (v := ?vu1) rfl (by kernel_rfl) (by kernel_rfl) (by kernel_rfl) (fun _ _ _ h => h) (Or.inl ⟨by rfl, ?yu1⟩) (by assumption) ?ru1
  case yu1 => (intro wS hSw; have q0_0 := hSw.at (g := w.heap.size) (A := #[.int .i64 id, .int .i64 lead, .int .i64 guard]) (t := 25) (i := 0) (v := .int .i64 id) (by simp) rfl; have q0_1 := hSw.at (g := w.heap.size) (A := #[.int .i64 id, .int .i64 lead, .int .i64 guard]) (t := 25) (i := 1) (v := .int .i64 lead) (by simp) rfl; have q0_2 := hSw.at (g := w.heap.size) (A := #[.int .i64 id, .int .i64 lead, .int .i64 guard]) (t := 25) (i := 2) (v := .int .i64 guard) (by simp) rfl; clear hSw; go_simp; try (with_reducible rfl))
  try simp only [Act.put, List.setIfInBounds_toArray, List.set_cons_zero, List.set_cons_succ]
  refine wpAnyH_take (i := 1) (oi := { dst := some 10, op := Go.Op.move (Go.Operand.tmp 2), type := 3, pos := "grant.go:27", after := #[], guard := none }) (v := ?vu2) rfl (by kernel_rfl) (by kernel_rfl) (by kernel_rfl) (fun _ _ _ h => h) (Or.inl ⟨by rfl, ?yu2⟩) (by assumption) ?ru2
  case yu2 => (intro wS hSw; have q0_0 := hSw.at (g := w.heap.size) (A := #[.int .i64 id, .int .i64 lead, .int .i64 guard]) (t := 25) (i := 0) (v := .int .i64 id) (by simp) rfl; have q0_1 := hSw.at (g := w.heap.size) (A := #[.int .i64 id, .int .i64 lead, .int .i64 guard]) (t := 25) (i := 1) (v := .int .i64 lead) (by simp) rfl; have q0_2 := hSw.at (g := w.heap.size) (A := #[.int .i64 id, .int .i64 lead, .int .i64 guard]) (t := 25) (i := 2) (v := .int .i64 guard) (by simp) rfl; clear hSw; go_simp; try (with_reducible rfl))
  try simp only [Act.put, List.setIfInBounds_toArray, List.set_cons_zero, List.set_cons_succ]
  refine wpAnyH_take (i := 2) (oi := { dst := some 11, op := Go.Op.call { callee := Go.Callee.builtin Go.Builtin.max, args := #[Go.Operand.tmp 10, Go.Operand.const (Go.Value.int Go.IntKind.i64 0)], argTypes := #[3, 3] }, type := 3, pos := "grant.go:27", after := #[{ on := 1, ground := Go.Ground.data }], guard := none }) (v := .int .i64 (max want 0)) rfl (by kernel_rfl) (by kernel_rfl) (by kernel_rfl) (fun _ _ _ h => h) (Or.inl ⟨by rfl, ?yu3⟩) (by assumption) ?ru3
  case yu3 => (intro wS hSw; have q0_0 := hSw.at (g := w.heap.size) (A := #[.int .i64 id, .int .i64 lead, .int .i64 guard]) (t := 25) (i := 0) (v := .int .i64 id) (by simp) rfl; have q0_1 := hSw.at (g := w.heap.size) (A := #[.int .i64 id, .int .i64 lead, .int .i64 guard]) (t := 25) (i := 1) (v := .int .i64 lead) (by simp) rfl; have q0_2 := hSw.at (g := w.heap.size) (A := #[.int .i64 id, .int .i64 lead, .int .i64 guard]) (t := 25) (i := 2) (v := .int .i64 guard) (by simp) rfl; clear hSw; go_simp; try (first | with_reducible rfl | (split <;> omega)))
  try simp only [Act.put, List.setIfInBounds_toArray, List.set_cons_zero, List.set_cons_succ]
  refine wpAnyH_take (i := 4) (oi := { dst := some 13, op := Go.Op.move (Go.Operand.tmp 1), type := 3, pos := "grant.go:27", after := #[], guard := none }) (v := ?vu4) rfl (by kernel_rfl) (by kernel_rfl) (by kernel_rfl) (fun _ _ _ h => h) (Or.inl ⟨by rfl, ?yu4⟩) (by assumption) ?ru4
  case yu4 => (intro wS hSw; have q0_0 := hSw.at (g := w.heap.size) (A := #[.int .i64 id, .int .i64 lead, .int .i64 guard]) (t := 25) (i := 0) (v := .int .i64 id) (by simp) rfl; have q0_1 := hSw.at (g := w.heap.size) (A := #[.int .i64 id, .int .i64 lead, .int .i64 guard]) (t := 25) (i := 1) (v := .int .i64 lead) (by simp) rfl; have q0_2 := hSw.at (g := w.heap.size) (A := #[.int .i64 id, .int .i64 lead, .int .i64 guard]) (t := 25) (i := 2) (v := .int .i64 guard) (by simp) rfl; clear hSw; go_simp; try (with_reducible rfl))
  try simp only [Act.put, List.setIfInBounds_toArray, List.set_cons_zero, List.set_cons_succ]
  refine wpAnyH_take (i := 5) (oi := { dst := some 14, op := Go.Op.move (Go.Operand.tmp 3), type := 3, pos := "grant.go:27", after := #[], guard := none }) (v := ?vu5) rfl (by kernel_rfl) (by kernel_rfl) (by kernel_rfl) (fun _ _ _ h => h) (Or.inl ⟨by rfl, ?yu5⟩) (by assumption) ?ru5
  case yu5 => (intro wS hSw; have q0_0 := hSw.at (g := w.heap.size) (A := #[.int .i64 id, .int .i64 lead, .int .i64 guard]) (t := 25) (i := 0) (v := .int .i64 id) (by simp) rfl; have q0_1 := hSw.at (g := w.heap.size) (A := #[.int .i64 id, .int .i64 lead, .int .i64 guard]) (t := 25) (i := 1) (v := .int .i64 lead) (by simp) rfl; have q0_2 := hSw.at (g := w.heap.size) (A := #[.int .i64 id, .int .i64 lead, .int .i64 guard]) (t := 25) (i := 2) (v := .int .i64 guard) (by simp) rfl; clear hSw; go_simp; try (with_reducible rfl))
  try simp only [Act.put, List.setIfInBounds_toArray, List.set_cons_zero, List.set_cons_succ]
  refine wpAnyH_take (i := 8) (oi := { dst := some 17, op := Go.Op.fieldAddr 25 (Go.Operand.tmp 4) 1, type := 0, pos := "grant.go:27", after := #[], guard := none }) (v := ?vu6) rfl (by kernel_rfl) (by kernel_rfl) (by kernel_rfl) (fun _ _ _ h => h) (Or.inl ⟨by rfl, ?yu6⟩) (by assumption) ?ru6
  case yu6 => (intro wS hSw; have q0_0 := hSw.at (g := w.heap.size) (A := #[.int .i64 id, .int .i64 lead, .int .i64 guard]) (t := 25) (i := 0) (v := .int .i64 id) (by simp) rfl; have q0_1 := hSw.at (g := w.heap.size) (A := #[.int .i64 id, .int .i64 lead, .int .i64 guard]) (t := 25) (i := 1) (v := .int .i64 lead) (by simp) rfl; have q0_2 := hSw.at (g := w.heap.size) (A := #[.int .i64 id, .int .i64 lead, .int .i64 guard]) (t := 25) (i := 2) (v := .int .i64 guard) (by simp) rfl; clear hSw; go_simp; try (with_reducible rfl))
  try simp only [Act.put, List.setIfInBounds_toArray, List.set_cons_zero, List.set_cons_succ]
  refine wpAnyH_take (i := 9) (oi := { dst := some 18, op := Go.Op.load 3 (Go.Operand.tmp 17), type := 3, pos := "grant.go:27", after := #[{ on := 8, ground := Go.Ground.data }], guard := none }) (v := ?vu7) rfl (by kernel_rfl) (by kernel_rfl) (by kernel_rfl) (fun _ _ _ h => h) (Or.inl ⟨by rfl, ?yu7⟩) (by assumption) ?ru7
  case yu7 => (intro wS hSw; have q0_0 := hSw.at (g := w.heap.size) (A := #[.int .i64 id, .int .i64 lead, .int .i64 guard]) (t := 25) (i := 0) (v := .int .i64 id) (by simp) rfl; have q0_1 := hSw.at (g := w.heap.size) (A := #[.int .i64 id, .int .i64 lead, .int .i64 guard]) (t := 25) (i := 1) (v := .int .i64 lead) (by simp) rfl; have q0_2 := hSw.at (g := w.heap.size) (A := #[.int .i64 id, .int .i64 lead, .int .i64 guard]) (t := 25) (i := 2) (v := .int .i64 guard) (by simp) rfl; clear hSw; go_simp; try (with_reducible rfl))
  try simp only [Act.put, List.setIfInBounds_toArray, List.set_cons_zero, List.set_cons_succ]
  refine wpAnyH_take (i := 10) (oi := { dst := some 19, op := Go.Op.call { callee := Go.Callee.builtin Go.Builtin.max, args := #[Go.Operand.tmp 18, Go.Operand.const (Go.Value.int Go.IntKind.i64 0)], argTypes := #[3, 3] }, type := 3, pos := "grant.go:27", after := #[{ on := 9, ground := Go.Ground.data }], guard := none }) (v := .int .i64 (max lead 0)) rfl (by kernel_rfl) (by kernel_rfl) (by kernel_rfl) (fun _ _ _ h => h) (Or.inl ⟨by rfl, ?yu8⟩) (by assumption) ?ru8
  case yu8 => (intro wS hSw; have q0_0 := hSw.at (g := w.heap.size) (A := #[.int .i64 id, .int .i64 lead, .int .i64 guard]) (t := 25) (i := 0) (v := .int .i64 id) (by simp) rfl; have q0_1 := hSw.at (g := w.heap.size) (A := #[.int .i64 id, .int .i64 lead, .int .i64 guard]) (t := 25) (i := 1) (v := .int .i64 lead) (by simp) rfl; have q0_2 := hSw.at (g := w.heap.size) (A := #[.int .i64 id, .int .i64 lead, .int .i64 guard]) (t := 25) (i := 2) (v := .int .i64 guard) (by simp) rfl; clear hSw; go_simp; try (first | with_reducible rfl | (split <;> omega)))
  try simp only [Act.put, List.setIfInBounds_toArray, List.set_cons_zero, List.set_cons_succ]
  refine wpAnyH_ready (rs := [3, 6]) (by kernel_rfl) (by simp) ?_
  refine AllReadyH.cons (o := { dst := some 12, op := Go.Op.call { callee := Go.Callee.value (Go.Operand.func 21), args := #[Go.Operand.tmp 9, Go.Operand.tmp 11], argTypes := #[3, 3] }, type := 3, pos := "grant.go:27", after := #[{ on := 0, ground := Go.Ground.data }, { on := 2, ground := Go.Ground.data }], guard := none }) rfl (fun K hK => ?_) ?_
  · go_simp
    (go_at_call 21; with_reducible refine (add_any _ _ _).mono ?_; rintro e w5 ⟨rfl, rfl⟩)
    go_wp2_with fail
    refine hK.out _ _ (by assumption) (fun hHeld => ?_)
    clear hK K
    try simp only [Act.put, List.setIfInBounds_toArray, List.set_cons_zero, List.set_cons_succ]
    refine wpAnyH_ready (rs := [6]) (by kernel_rfl) (by simp) ?_
    refine AllReadyH.cons (o := { dst := some 15, op := Go.Op.buildSlice 50 2 #[(0, Go.Operand.tmp 13), (1, Go.Operand.tmp 14)], type := 50, pos := "grant.go:27", after := #[{ on := 4, ground := Go.Ground.data }, { on := 5, ground := Go.Ground.data }], guard := none }) rfl (fun K hK => ?_) ?_
    · go_simp
      refine hK.out _ _ (HeldB.alloc (by assumption) _) (fun hHeld => ?_)
      clear hK K
      try simp only [Act.put, List.setIfInBounds_toArray, List.set_cons_zero, List.set_cons_succ]
      refine wpAnyH_ready (rs := [7]) (by kernel_rfl) (by simp) ?_
      refine AllReadyH.cons (o := { dst := some 16, op := Go.Op.call { callee := Go.Callee.value (Go.Operand.func 22), args := #[Go.Operand.tmp 15], argTypes := #[50] }, type := 3, pos := "grant.go:27", after := #[{ on := 6, ground := Go.Ground.data }, { on := 3, ground := Go.Ground.chain }], guard := none }) rfl (fun K hK => ?_) ?_
      · go_simp
        (go_at_call 22; refine (latest2 now acked _ _ (by simp) (by simp)).mono ?_; rintro e w5 ⟨rfl, rfl⟩)
        go_wp2_with fail
        refine hK.out _ _ (by assumption) (fun hHeld => ?_)
        clear hK K
        try simp only [Act.put, List.setIfInBounds_toArray, List.set_cons_zero, List.set_cons_succ]
        refine wpAnyH_ready (rs := [11]) (by kernel_rfl) (by simp) ?_
        refine AllReadyH.cons (o := { dst := some 20, op := Go.Op.call { callee := Go.Callee.value (Go.Operand.func 21), args := #[Go.Operand.tmp 16, Go.Operand.tmp 19], argTypes := #[3, 3] }, type := 3, pos := "grant.go:27", after := #[{ on := 7, ground := Go.Ground.data }, { on := 10, ground := Go.Ground.data }, { on := 7, ground := Go.Ground.chain }], guard := none }) rfl (fun K hK => ?_) ?_
        · go_simp
          (go_at_call 21; with_reducible refine (add_any _ _ _).mono ?_; rintro e w5 ⟨rfl, rfl⟩)
          go_wp2_with fail
          refine hK.out _ _ (by assumption) (fun hHeld => ?_)
          clear hK K
          try simp only [Act.put, List.setIfInBounds_toArray, List.set_cons_zero, List.set_cons_succ]
          refine wpAnyH_take (i := 12) (oi := { dst := some 21, op := Go.Op.call { callee := Go.Callee.builtin Go.Builtin.min, args := #[Go.Operand.tmp 12, Go.Operand.tmp 20], argTypes := #[3, 3] }, type := 3, pos := "grant.go:27", after := #[{ on := 3, ground := Go.Ground.data }, { on := 11, ground := Go.Ground.data }], guard := none }) (v := .int .i64 (untilV lead now want acked)) rfl (by kernel_rfl) (by kernel_rfl) (by kernel_rfl) (fun _ _ _ h => h) (Or.inl ⟨by rfl, ?yu9⟩) (by assumption) ?ru9
          case yu9 => (intro wS hSw; have q0_0 := hSw.at (g := w.heap.size) (A := #[.int .i64 id, .int .i64 lead, .int .i64 guard]) (t := 25) (i := 0) (v := .int .i64 id) (by simp) rfl; have q0_1 := hSw.at (g := w.heap.size) (A := #[.int .i64 id, .int .i64 lead, .int .i64 guard]) (t := 25) (i := 1) (v := .int .i64 lead) (by simp) rfl; have q0_2 := hSw.at (g := w.heap.size) (A := #[.int .i64 id, .int .i64 lead, .int .i64 guard]) (t := 25) (i := 2) (v := .int .i64 guard) (by simp) rfl; clear hSw; go_simp; try (unfold untilV; split <;> omega))
          try simp only [Act.put, List.setIfInBounds_toArray, List.set_cons_zero, List.set_cons_succ]
          refine wpAnyH_take (i := 13) (oi := { dst := some 8, op := Go.Op.assign (Go.Operand.tmp 21), type := 3, pos := "grant.go:27", after := #[{ on := 12, ground := Go.Ground.data }, { on := 11, ground := Go.Ground.chain }, { on := 0, ground := Go.Ground.phase }, { on := 1, ground := Go.Ground.phase }, { on := 2, ground := Go.Ground.phase }, { on := 3, ground := Go.Ground.phase }, { on := 4, ground := Go.Ground.phase }, { on := 5, ground := Go.Ground.phase }, { on := 6, ground := Go.Ground.phase }, { on := 7, ground := Go.Ground.phase }, { on := 8, ground := Go.Ground.phase }, { on := 9, ground := Go.Ground.phase }, { on := 10, ground := Go.Ground.phase }, { on := 11, ground := Go.Ground.phase }, { on := 12, ground := Go.Ground.phase }], guard := none }) (v := ?vu10) rfl (by kernel_rfl) (by kernel_rfl) (by kernel_rfl) (fun _ _ _ h => h) (Or.inl ⟨by rfl, ?yu10⟩) (by assumption) ?ru10
          case yu10 => (intro wS hSw; have q0_0 := hSw.at (g := w.heap.size) (A := #[.int .i64 id, .int .i64 lead, .int .i64 guard]) (t := 25) (i := 0) (v := .int .i64 id) (by simp) rfl; have q0_1 := hSw.at (g := w.heap.size) (A := #[.int .i64 id, .int .i64 lead, .int .i64 guard]) (t := 25) (i := 1) (v := .int .i64 lead) (by simp) rfl; have q0_2 := hSw.at (g := w.heap.size) (A := #[.int .i64 id, .int .i64 lead, .int .i64 guard]) (t := 25) (i := 2) (v := .int .i64 guard) (by simp) rfl; clear hSw; go_simp; try (with_reducible rfl))
          try simp only [Act.put, List.setIfInBounds_toArray, List.set_cons_zero, List.set_cons_succ]
          refine wpAnyH_done (by kernel_rfl) ?_ _
          refine NoPanic.normal ?_
          go_wp2
          go_ret
          exact ⟨rfl, hHeld.2⟩
        exact AllReadyH.nil
      exact AllReadyH.nil
    exact AllReadyH.nil
  refine AllReadyH.cons (o := { dst := some 15, op := Go.Op.buildSlice 50 2 #[(0, Go.Operand.tmp 13), (1, Go.Operand.tmp 14)], type := 50, pos := "grant.go:27", after := #[{ on := 4, ground := Go.Ground.data }, { on := 5, ground := Go.Ground.data }], guard := none }) rfl (fun K hK => ?_) ?_
  · go_simp
    refine hK.out _ _ (HeldB.alloc (by assumption) _) (fun hHeld => ?_)
    clear hK K
    try simp only [Act.put, List.setIfInBounds_toArray, List.set_cons_zero, List.set_cons_succ]
    refine wpAnyH_ready (rs := [3]) (by kernel_rfl) (by simp) ?_
    refine AllReadyH.cons (o := { dst := some 12, op := Go.Op.call { callee := Go.Callee.value (Go.Operand.func 21), args := #[Go.Operand.tmp 9, Go.Operand.tmp 11], argTypes := #[3, 3] }, type := 3, pos := "grant.go:27", after := #[{ on := 0, ground := Go.Ground.data }, { on := 2, ground := Go.Ground.data }], guard := none }) rfl (fun K hK => ?_) ?_
    · go_simp
      (go_at_call 21; with_reducible refine (add_any _ _ _).mono ?_; rintro e w5 ⟨rfl, rfl⟩)
      go_wp2_with fail
      refine hK.out _ _ (by assumption) (fun hHeld => ?_)
      clear hK K
      try simp only [Act.put, List.setIfInBounds_toArray, List.set_cons_zero, List.set_cons_succ]
      refine wpAnyH_ready (rs := [7]) (by kernel_rfl) (by simp) ?_
      refine AllReadyH.cons (o := { dst := some 16, op := Go.Op.call { callee := Go.Callee.value (Go.Operand.func 22), args := #[Go.Operand.tmp 15], argTypes := #[50] }, type := 3, pos := "grant.go:27", after := #[{ on := 6, ground := Go.Ground.data }, { on := 3, ground := Go.Ground.chain }], guard := none }) rfl (fun K hK => ?_) ?_
      · go_simp
        (go_at_call 22; refine (latest2 now acked _ _ (by simp) (by simp)).mono ?_; rintro e w5 ⟨rfl, rfl⟩)
        go_wp2_with fail
        refine hK.out _ _ (by assumption) (fun hHeld => ?_)
        clear hK K
        try simp only [Act.put, List.setIfInBounds_toArray, List.set_cons_zero, List.set_cons_succ]
        refine wpAnyH_ready (rs := [11]) (by kernel_rfl) (by simp) ?_
        refine AllReadyH.cons (o := { dst := some 20, op := Go.Op.call { callee := Go.Callee.value (Go.Operand.func 21), args := #[Go.Operand.tmp 16, Go.Operand.tmp 19], argTypes := #[3, 3] }, type := 3, pos := "grant.go:27", after := #[{ on := 7, ground := Go.Ground.data }, { on := 10, ground := Go.Ground.data }, { on := 7, ground := Go.Ground.chain }], guard := none }) rfl (fun K hK => ?_) ?_
        · go_simp
          (go_at_call 21; with_reducible refine (add_any _ _ _).mono ?_; rintro e w5 ⟨rfl, rfl⟩)
          go_wp2_with fail
          refine hK.out _ _ (by assumption) (fun hHeld => ?_)
          clear hK K
          try simp only [Act.put, List.setIfInBounds_toArray, List.set_cons_zero, List.set_cons_succ]
          refine wpAnyH_take (i := 12) (oi := { dst := some 21, op := Go.Op.call { callee := Go.Callee.builtin Go.Builtin.min, args := #[Go.Operand.tmp 12, Go.Operand.tmp 20], argTypes := #[3, 3] }, type := 3, pos := "grant.go:27", after := #[{ on := 3, ground := Go.Ground.data }, { on := 11, ground := Go.Ground.data }], guard := none }) (v := .int .i64 (untilV lead now want acked)) rfl (by kernel_rfl) (by kernel_rfl) (by kernel_rfl) (fun _ _ _ h => h) (Or.inl ⟨by rfl, ?yu11⟩) (by assumption) ?ru11
          case yu11 => (intro wS hSw; have q0_0 := hSw.at (g := w.heap.size) (A := #[.int .i64 id, .int .i64 lead, .int .i64 guard]) (t := 25) (i := 0) (v := .int .i64 id) (by simp) rfl; have q0_1 := hSw.at (g := w.heap.size) (A := #[.int .i64 id, .int .i64 lead, .int .i64 guard]) (t := 25) (i := 1) (v := .int .i64 lead) (by simp) rfl; have q0_2 := hSw.at (g := w.heap.size) (A := #[.int .i64 id, .int .i64 lead, .int .i64 guard]) (t := 25) (i := 2) (v := .int .i64 guard) (by simp) rfl; clear hSw; go_simp; try (unfold untilV; split <;> omega))
          try simp only [Act.put, List.setIfInBounds_toArray, List.set_cons_zero, List.set_cons_succ]
          refine wpAnyH_take (i := 13) (oi := { dst := some 8, op := Go.Op.assign (Go.Operand.tmp 21), type := 3, pos := "grant.go:27", after := #[{ on := 12, ground := Go.Ground.data }, { on := 11, ground := Go.Ground.chain }, { on := 0, ground := Go.Ground.phase }, { on := 1, ground := Go.Ground.phase }, { on := 2, ground := Go.Ground.phase }, { on := 3, ground := Go.Ground.phase }, { on := 4, ground := Go.Ground.phase }, { on := 5, ground := Go.Ground.phase }, { on := 6, ground := Go.Ground.phase }, { on := 7, ground := Go.Ground.phase }, { on := 8, ground := Go.Ground.phase }, { on := 9, ground := Go.Ground.phase }, { on := 10, ground := Go.Ground.phase }, { on := 11, ground := Go.Ground.phase }, { on := 12, ground := Go.Ground.phase }], guard := none }) (v := ?vu12) rfl (by kernel_rfl) (by kernel_rfl) (by kernel_rfl) (fun _ _ _ h => h) (Or.inl ⟨by rfl, ?yu12⟩) (by assumption) ?ru12
          case yu12 => (intro wS hSw; have q0_0 := hSw.at (g := w.heap.size) (A := #[.int .i64 id, .int .i64 lead, .int .i64 guard]) (t := 25) (i := 0) (v := .int .i64 id) (by simp) rfl; have q0_1 := hSw.at (g := w.heap.size) (A := #[.int .i64 id, .int .i64 lead, .int .i64 guard]) (t := 25) (i := 1) (v := .int .i64 lead) (by simp) rfl; have q0_2 := hSw.at (g := w.heap.size) (A := #[.int .i64 id, .int .i64 lead, .int .i64 guard]) (t := 25) (i := 2) (v := .int .i64 guard) (by simp) rfl; clear hSw; go_simp; try (with_reducible rfl))
          try simp only [Act.put, List.setIfInBounds_toArray, List.set_cons_zero, List.set_cons_succ]
          refine wpAnyH_done (by kernel_rfl) ?_ _
          refine NoPanic.normal ?_
          go_wp2
          go_ret
          exact ⟨rfl, hHeld.2⟩
        exact AllReadyH.nil
      exact AllReadyH.nil
    exact AllReadyH.nil
  exact AllReadyH.nil
set_option maxRecDepth 100000 in
theorem runtil_any (id lead guard now want acked : Int) (w : World) : Calls Try.prog 12 #[.agg #[.int .i64 id, .int .i64 lead, .int .i64 guard], .int .i64 now, .int .i64 want, .int .i64 acked] w fun e w' => e = .returned (.int .i64 (untilV lead now want acked)) ∧ Below w.heap.size w w' := by
  by_cases hw : want < 0
  · rw [show untilV lead now want acked = min (clkAdd now 0) (clkAdd (max (mom now) (mom acked)) (max lead 0)) by unfold untilV; rw [show max want 0 = 0 by omega]]
    go_enter Try.func12, Try.ntmps12
    go_wp2_with (first | (go_at_call 23; with_reducible refine (radd_any _ _ _).mono ?_; rintro e w1 ⟨rfl, rfl⟩) | (go_at_call 24; with_reducible refine (rbnd_any _ _).mono ?_; rintro e w1 ⟨rfl, rfl⟩))
    have hb := Blk.new w #[.int .i64 id, .int .i64 lead, .int .i64 guard] 26
    have HH0 := Lib.hid ((HeldB.nil (low0 w (.cells #[.int .i64 id, .int .i64 lead, .int .i64 guard] 26))).cons hb)
    clear hb
    refine wp_region_noPanic ?_
    refine wp_region_held_drew (S := HeldB w [(w.heap.size, #[.int .i64 id, .int .i64 lead, .int .i64 guard], 26)]) (by kernel_rfl) HH0.out.drew (fun hHeld => ?_)
    clear HH0
    refine wpAnyH_take (i := 0) (oi := { dst := some 15, op := Go.Op.move (Go.Operand.tmp 1), type := 3, pos := "ref.go:20", after := #[], guard := none }) (v := ?vva1) rfl (by kernel_rfl) (by kernel_rfl) (by kernel_rfl) (fun _ _ _ h => h) (Or.inl ⟨by rfl, ?yva1⟩) (by assumption) ?rva1
    case yva1 => (intro wS hSw; have q0_0 := hSw.at (g := w.heap.size) (A := #[.int .i64 id, .int .i64 lead, .int .i64 guard]) (t := 26) (i := 0) (v := .int .i64 id) (by simp) rfl; have q0_1 := hSw.at (g := w.heap.size) (A := #[.int .i64 id, .int .i64 lead, .int .i64 guard]) (t := 26) (i := 1) (v := .int .i64 lead) (by simp) rfl; have q0_2 := hSw.at (g := w.heap.size) (A := #[.int .i64 id, .int .i64 lead, .int .i64 guard]) (t := 26) (i := 2) (v := .int .i64 guard) (by simp) rfl; clear hSw; go_simp; try (with_reducible rfl))
    try simp only [Act.put, List.setIfInBounds_toArray, List.set_cons_zero, List.set_cons_succ]
    refine wpAnyH_take (i := 2) (oi := { dst := some 17, op := Go.Op.move (Go.Operand.tmp 3), type := 3, pos := "ref.go:20", after := #[], guard := none }) (v := ?vva2) rfl (by kernel_rfl) (by kernel_rfl) (by kernel_rfl) (fun _ _ _ h => h) (Or.inl ⟨by rfl, ?yva2⟩) (by assumption) ?rva2
    case yva2 => (intro wS hSw; have q0_0 := hSw.at (g := w.heap.size) (A := #[.int .i64 id, .int .i64 lead, .int .i64 guard]) (t := 26) (i := 0) (v := .int .i64 id) (by simp) rfl; have q0_1 := hSw.at (g := w.heap.size) (A := #[.int .i64 id, .int .i64 lead, .int .i64 guard]) (t := 26) (i := 1) (v := .int .i64 lead) (by simp) rfl; have q0_2 := hSw.at (g := w.heap.size) (A := #[.int .i64 id, .int .i64 lead, .int .i64 guard]) (t := 26) (i := 2) (v := .int .i64 guard) (by simp) rfl; clear hSw; go_simp; try (with_reducible rfl))
    try simp only [Act.put, List.setIfInBounds_toArray, List.set_cons_zero, List.set_cons_succ]
    refine wpAnyH_take (i := 5) (oi := { dst := some 20, op := Go.Op.fieldAddr 26 (Go.Operand.tmp 4) 1, type := 0, pos := "ref.go:20", after := #[], guard := none }) (v := ?vva3) rfl (by kernel_rfl) (by kernel_rfl) (by kernel_rfl) (fun _ _ _ h => h) (Or.inl ⟨by rfl, ?yva3⟩) (by assumption) ?rva3
    case yva3 => (intro wS hSw; have q0_0 := hSw.at (g := w.heap.size) (A := #[.int .i64 id, .int .i64 lead, .int .i64 guard]) (t := 26) (i := 0) (v := .int .i64 id) (by simp) rfl; have q0_1 := hSw.at (g := w.heap.size) (A := #[.int .i64 id, .int .i64 lead, .int .i64 guard]) (t := 26) (i := 1) (v := .int .i64 lead) (by simp) rfl; have q0_2 := hSw.at (g := w.heap.size) (A := #[.int .i64 id, .int .i64 lead, .int .i64 guard]) (t := 26) (i := 2) (v := .int .i64 guard) (by simp) rfl; clear hSw; go_simp; try (with_reducible rfl))
    try simp only [Act.put, List.setIfInBounds_toArray, List.set_cons_zero, List.set_cons_succ]
    refine wpAnyH_take (i := 6) (oi := { dst := some 21, op := Go.Op.load 3 (Go.Operand.tmp 20), type := 3, pos := "ref.go:20", after := #[{ on := 5, ground := Go.Ground.data }], guard := none }) (v := ?vva4) rfl (by kernel_rfl) (by kernel_rfl) (by kernel_rfl) (fun _ _ _ h => h) (Or.inl ⟨by rfl, ?yva4⟩) (by assumption) ?rva4
    case yva4 => (intro wS hSw; have q0_0 := hSw.at (g := w.heap.size) (A := #[.int .i64 id, .int .i64 lead, .int .i64 guard]) (t := 26) (i := 0) (v := .int .i64 id) (by simp) rfl; have q0_1 := hSw.at (g := w.heap.size) (A := #[.int .i64 id, .int .i64 lead, .int .i64 guard]) (t := 26) (i := 1) (v := .int .i64 lead) (by simp) rfl; have q0_2 := hSw.at (g := w.heap.size) (A := #[.int .i64 id, .int .i64 lead, .int .i64 guard]) (t := 26) (i := 2) (v := .int .i64 guard) (by simp) rfl; clear hSw; go_simp; try (with_reducible rfl))
    try simp only [Act.put, List.setIfInBounds_toArray, List.set_cons_zero, List.set_cons_succ]
    refine wpAnyH_take (i := 7) (oi := { dst := some 22, op := Go.Op.call { callee := Go.Callee.builtin Go.Builtin.max, args := #[Go.Operand.tmp 21, Go.Operand.const (Go.Value.int Go.IntKind.i64 0)], argTypes := #[3, 3] }, type := 3, pos := "ref.go:20", after := #[{ on := 6, ground := Go.Ground.data }], guard := none }) (v := .int .i64 (max lead 0)) rfl (by kernel_rfl) (by kernel_rfl) (by kernel_rfl) (fun _ _ _ h => h) (Or.inl ⟨by rfl, ?yva5⟩) (by assumption) ?rva5
    case yva5 => (intro wS hSw; have q0_0 := hSw.at (g := w.heap.size) (A := #[.int .i64 id, .int .i64 lead, .int .i64 guard]) (t := 26) (i := 0) (v := .int .i64 id) (by simp) rfl; have q0_1 := hSw.at (g := w.heap.size) (A := #[.int .i64 id, .int .i64 lead, .int .i64 guard]) (t := 26) (i := 1) (v := .int .i64 lead) (by simp) rfl; have q0_2 := hSw.at (g := w.heap.size) (A := #[.int .i64 id, .int .i64 lead, .int .i64 guard]) (t := 26) (i := 2) (v := .int .i64 guard) (by simp) rfl; clear hSw; go_simp; try (first | with_reducible rfl | (split <;> omega)))
    try simp only [Act.put, List.setIfInBounds_toArray, List.set_cons_zero, List.set_cons_succ]
    refine wpAnyH_ready (rs := [1]) (by kernel_rfl) (by simp) ?_
    refine AllReadyH.cons (o := { dst := some 16, op := Go.Op.call { callee := Go.Callee.value (Go.Operand.func 24), args := #[Go.Operand.tmp 15], argTypes := #[3] }, type := 3, pos := "ref.go:20", after := #[{ on := 0, ground := Go.Ground.data }], guard := none }) rfl (fun K hK => ?_) ?_
    · go_simp
      (go_at_call 24; with_reducible refine (rbnd_any _ _).mono ?_; rintro e w5 ⟨rfl, rfl⟩)
      go_wp2_with fail
      refine hK.out _ _ (by assumption) (fun hHeld => ?_)
      clear hK K
      try simp only [Act.put, List.setIfInBounds_toArray, List.set_cons_zero, List.set_cons_succ]
      refine wpAnyH_ready (rs := [3]) (by kernel_rfl) (by simp) ?_
      refine AllReadyH.cons (o := { dst := some 18, op := Go.Op.call { callee := Go.Callee.value (Go.Operand.func 24), args := #[Go.Operand.tmp 17], argTypes := #[3] }, type := 3, pos := "ref.go:20", after := #[{ on := 2, ground := Go.Ground.data }, { on := 1, ground := Go.Ground.chain }], guard := none }) rfl (fun K hK => ?_) ?_
      · go_simp
        (go_at_call 24; with_reducible refine (rbnd_any _ _).mono ?_; rintro e w5 ⟨rfl, rfl⟩)
        go_wp2_with fail
        refine hK.out _ _ (by assumption) (fun hHeld => ?_)
        clear hK K
        try simp only [Act.put, List.setIfInBounds_toArray, List.set_cons_zero, List.set_cons_succ]
        refine wpAnyH_take (i := 4) (oi := { dst := some 19, op := Go.Op.call { callee := Go.Callee.builtin Go.Builtin.max, args := #[Go.Operand.tmp 16, Go.Operand.tmp 18], argTypes := #[3, 3] }, type := 3, pos := "ref.go:20", after := #[{ on := 1, ground := Go.Ground.data }, { on := 3, ground := Go.Ground.data }], guard := none }) (v := .int .i64 (max (mom now) (mom acked))) rfl (by kernel_rfl) (by kernel_rfl) (by kernel_rfl) (fun _ _ _ h => h) (Or.inl ⟨by rfl, ?yva6⟩) (by assumption) ?rva6
        case yva6 => (intro wS hSw; have q0_0 := hSw.at (g := w.heap.size) (A := #[.int .i64 id, .int .i64 lead, .int .i64 guard]) (t := 26) (i := 0) (v := .int .i64 id) (by simp) rfl; have q0_1 := hSw.at (g := w.heap.size) (A := #[.int .i64 id, .int .i64 lead, .int .i64 guard]) (t := 26) (i := 1) (v := .int .i64 lead) (by simp) rfl; have q0_2 := hSw.at (g := w.heap.size) (A := #[.int .i64 id, .int .i64 lead, .int .i64 guard]) (t := 26) (i := 2) (v := .int .i64 guard) (by simp) rfl; clear hSw; go_simp; try (first | with_reducible rfl | (split <;> omega)))
        try simp only [Act.put, List.setIfInBounds_toArray, List.set_cons_zero, List.set_cons_succ]
        refine wpAnyH_ready (rs := [8]) (by kernel_rfl) (by simp) ?_
        refine AllReadyH.cons (o := { dst := some 23, op := Go.Op.call { callee := Go.Callee.value (Go.Operand.func 23), args := #[Go.Operand.tmp 19, Go.Operand.tmp 22], argTypes := #[3, 3] }, type := 3, pos := "ref.go:20", after := #[{ on := 4, ground := Go.Ground.data }, { on := 7, ground := Go.Ground.data }, { on := 3, ground := Go.Ground.chain }], guard := none }) rfl (fun K hK => ?_) ?_
        · go_simp
          (go_at_call 23; with_reducible refine (radd_any _ _ _).mono ?_; rintro e w5 ⟨rfl, rfl⟩)
          go_wp2_with fail
          refine hK.out _ _ (by assumption) (fun hHeld => ?_)
          clear hK K
          try simp only [Act.put, List.setIfInBounds_toArray, List.set_cons_zero, List.set_cons_succ]
          refine wpAnyH_take (i := 9) (oi := { dst := some 10, op := Go.Op.assign (Go.Operand.tmp 23), type := 3, pos := "ref.go:20", after := #[{ on := 8, ground := Go.Ground.data }, { on := 8, ground := Go.Ground.chain }, { on := 0, ground := Go.Ground.phase }, { on := 1, ground := Go.Ground.phase }, { on := 2, ground := Go.Ground.phase }, { on := 3, ground := Go.Ground.phase }, { on := 4, ground := Go.Ground.phase }, { on := 5, ground := Go.Ground.phase }, { on := 6, ground := Go.Ground.phase }, { on := 7, ground := Go.Ground.phase }, { on := 8, ground := Go.Ground.phase }], guard := none }) (v := ?vva7) rfl (by kernel_rfl) (by kernel_rfl) (by kernel_rfl) (fun _ _ _ h => h) (Or.inl ⟨by rfl, ?yva7⟩) (by assumption) ?rva7
          case yva7 => (intro wS hSw; have q0_0 := hSw.at (g := w.heap.size) (A := #[.int .i64 id, .int .i64 lead, .int .i64 guard]) (t := 26) (i := 0) (v := .int .i64 id) (by simp) rfl; have q0_1 := hSw.at (g := w.heap.size) (A := #[.int .i64 id, .int .i64 lead, .int .i64 guard]) (t := 26) (i := 1) (v := .int .i64 lead) (by simp) rfl; have q0_2 := hSw.at (g := w.heap.size) (A := #[.int .i64 id, .int .i64 lead, .int .i64 guard]) (t := 26) (i := 2) (v := .int .i64 guard) (by simp) rfl; clear hSw; go_simp; try (with_reducible rfl))
          try simp only [Act.put, List.setIfInBounds_toArray, List.set_cons_zero, List.set_cons_succ]
          refine wpAnyH_done (by kernel_rfl) ?_ _
          refine NoPanic.normal ?_
          go_wp2
          all_goals
            go_ret
            exact ⟨ret_int (by omega), hHeld.2⟩
        exact AllReadyH.nil
      exact AllReadyH.nil
    exact AllReadyH.nil
  · rw [show untilV lead now want acked = min (clkAdd now want) (clkAdd (max (mom now) (mom acked)) (max lead 0)) by unfold untilV; rw [show max want 0 = want by omega]]
    go_enter Try.func12, Try.ntmps12
    go_wp2_with (first | (go_at_call 23; with_reducible refine (radd_any _ _ _).mono ?_; rintro e w1 ⟨rfl, rfl⟩) | (go_at_call 24; with_reducible refine (rbnd_any _ _).mono ?_; rintro e w1 ⟨rfl, rfl⟩))
    have hb := Blk.new w #[.int .i64 id, .int .i64 lead, .int .i64 guard] 26
    have HH0 := Lib.hid ((HeldB.nil (low0 w (.cells #[.int .i64 id, .int .i64 lead, .int .i64 guard] 26))).cons hb)
    clear hb
    refine wp_region_noPanic ?_
    refine wp_region_held_drew (S := HeldB w [(w.heap.size, #[.int .i64 id, .int .i64 lead, .int .i64 guard], 26)]) (by kernel_rfl) HH0.out.drew (fun hHeld => ?_)
    clear HH0
    refine wpAnyH_take (i := 0) (oi := { dst := some 15, op := Go.Op.move (Go.Operand.tmp 1), type := 3, pos := "ref.go:20", after := #[], guard := none }) (v := ?vvb1) rfl (by kernel_rfl) (by kernel_rfl) (by kernel_rfl) (fun _ _ _ h => h) (Or.inl ⟨by rfl, ?yvb1⟩) (by assumption) ?rvb1
    case yvb1 => (intro wS hSw; have q0_0 := hSw.at (g := w.heap.size) (A := #[.int .i64 id, .int .i64 lead, .int .i64 guard]) (t := 26) (i := 0) (v := .int .i64 id) (by simp) rfl; have q0_1 := hSw.at (g := w.heap.size) (A := #[.int .i64 id, .int .i64 lead, .int .i64 guard]) (t := 26) (i := 1) (v := .int .i64 lead) (by simp) rfl; have q0_2 := hSw.at (g := w.heap.size) (A := #[.int .i64 id, .int .i64 lead, .int .i64 guard]) (t := 26) (i := 2) (v := .int .i64 guard) (by simp) rfl; clear hSw; go_simp; try (with_reducible rfl))
    try simp only [Act.put, List.setIfInBounds_toArray, List.set_cons_zero, List.set_cons_succ]
    refine wpAnyH_take (i := 2) (oi := { dst := some 17, op := Go.Op.move (Go.Operand.tmp 3), type := 3, pos := "ref.go:20", after := #[], guard := none }) (v := ?vvb2) rfl (by kernel_rfl) (by kernel_rfl) (by kernel_rfl) (fun _ _ _ h => h) (Or.inl ⟨by rfl, ?yvb2⟩) (by assumption) ?rvb2
    case yvb2 => (intro wS hSw; have q0_0 := hSw.at (g := w.heap.size) (A := #[.int .i64 id, .int .i64 lead, .int .i64 guard]) (t := 26) (i := 0) (v := .int .i64 id) (by simp) rfl; have q0_1 := hSw.at (g := w.heap.size) (A := #[.int .i64 id, .int .i64 lead, .int .i64 guard]) (t := 26) (i := 1) (v := .int .i64 lead) (by simp) rfl; have q0_2 := hSw.at (g := w.heap.size) (A := #[.int .i64 id, .int .i64 lead, .int .i64 guard]) (t := 26) (i := 2) (v := .int .i64 guard) (by simp) rfl; clear hSw; go_simp; try (with_reducible rfl))
    try simp only [Act.put, List.setIfInBounds_toArray, List.set_cons_zero, List.set_cons_succ]
    refine wpAnyH_take (i := 5) (oi := { dst := some 20, op := Go.Op.fieldAddr 26 (Go.Operand.tmp 4) 1, type := 0, pos := "ref.go:20", after := #[], guard := none }) (v := ?vvb3) rfl (by kernel_rfl) (by kernel_rfl) (by kernel_rfl) (fun _ _ _ h => h) (Or.inl ⟨by rfl, ?yvb3⟩) (by assumption) ?rvb3
    case yvb3 => (intro wS hSw; have q0_0 := hSw.at (g := w.heap.size) (A := #[.int .i64 id, .int .i64 lead, .int .i64 guard]) (t := 26) (i := 0) (v := .int .i64 id) (by simp) rfl; have q0_1 := hSw.at (g := w.heap.size) (A := #[.int .i64 id, .int .i64 lead, .int .i64 guard]) (t := 26) (i := 1) (v := .int .i64 lead) (by simp) rfl; have q0_2 := hSw.at (g := w.heap.size) (A := #[.int .i64 id, .int .i64 lead, .int .i64 guard]) (t := 26) (i := 2) (v := .int .i64 guard) (by simp) rfl; clear hSw; go_simp; try (with_reducible rfl))
    try simp only [Act.put, List.setIfInBounds_toArray, List.set_cons_zero, List.set_cons_succ]
    refine wpAnyH_take (i := 6) (oi := { dst := some 21, op := Go.Op.load 3 (Go.Operand.tmp 20), type := 3, pos := "ref.go:20", after := #[{ on := 5, ground := Go.Ground.data }], guard := none }) (v := ?vvb4) rfl (by kernel_rfl) (by kernel_rfl) (by kernel_rfl) (fun _ _ _ h => h) (Or.inl ⟨by rfl, ?yvb4⟩) (by assumption) ?rvb4
    case yvb4 => (intro wS hSw; have q0_0 := hSw.at (g := w.heap.size) (A := #[.int .i64 id, .int .i64 lead, .int .i64 guard]) (t := 26) (i := 0) (v := .int .i64 id) (by simp) rfl; have q0_1 := hSw.at (g := w.heap.size) (A := #[.int .i64 id, .int .i64 lead, .int .i64 guard]) (t := 26) (i := 1) (v := .int .i64 lead) (by simp) rfl; have q0_2 := hSw.at (g := w.heap.size) (A := #[.int .i64 id, .int .i64 lead, .int .i64 guard]) (t := 26) (i := 2) (v := .int .i64 guard) (by simp) rfl; clear hSw; go_simp; try (with_reducible rfl))
    try simp only [Act.put, List.setIfInBounds_toArray, List.set_cons_zero, List.set_cons_succ]
    refine wpAnyH_take (i := 7) (oi := { dst := some 22, op := Go.Op.call { callee := Go.Callee.builtin Go.Builtin.max, args := #[Go.Operand.tmp 21, Go.Operand.const (Go.Value.int Go.IntKind.i64 0)], argTypes := #[3, 3] }, type := 3, pos := "ref.go:20", after := #[{ on := 6, ground := Go.Ground.data }], guard := none }) (v := .int .i64 (max lead 0)) rfl (by kernel_rfl) (by kernel_rfl) (by kernel_rfl) (fun _ _ _ h => h) (Or.inl ⟨by rfl, ?yvb5⟩) (by assumption) ?rvb5
    case yvb5 => (intro wS hSw; have q0_0 := hSw.at (g := w.heap.size) (A := #[.int .i64 id, .int .i64 lead, .int .i64 guard]) (t := 26) (i := 0) (v := .int .i64 id) (by simp) rfl; have q0_1 := hSw.at (g := w.heap.size) (A := #[.int .i64 id, .int .i64 lead, .int .i64 guard]) (t := 26) (i := 1) (v := .int .i64 lead) (by simp) rfl; have q0_2 := hSw.at (g := w.heap.size) (A := #[.int .i64 id, .int .i64 lead, .int .i64 guard]) (t := 26) (i := 2) (v := .int .i64 guard) (by simp) rfl; clear hSw; go_simp; try (first | with_reducible rfl | (split <;> omega)))
    try simp only [Act.put, List.setIfInBounds_toArray, List.set_cons_zero, List.set_cons_succ]
    refine wpAnyH_ready (rs := [1]) (by kernel_rfl) (by simp) ?_
    refine AllReadyH.cons (o := { dst := some 16, op := Go.Op.call { callee := Go.Callee.value (Go.Operand.func 24), args := #[Go.Operand.tmp 15], argTypes := #[3] }, type := 3, pos := "ref.go:20", after := #[{ on := 0, ground := Go.Ground.data }], guard := none }) rfl (fun K hK => ?_) ?_
    · go_simp
      (go_at_call 24; with_reducible refine (rbnd_any _ _).mono ?_; rintro e w5 ⟨rfl, rfl⟩)
      go_wp2_with fail
      refine hK.out _ _ (by assumption) (fun hHeld => ?_)
      clear hK K
      try simp only [Act.put, List.setIfInBounds_toArray, List.set_cons_zero, List.set_cons_succ]
      refine wpAnyH_ready (rs := [3]) (by kernel_rfl) (by simp) ?_
      refine AllReadyH.cons (o := { dst := some 18, op := Go.Op.call { callee := Go.Callee.value (Go.Operand.func 24), args := #[Go.Operand.tmp 17], argTypes := #[3] }, type := 3, pos := "ref.go:20", after := #[{ on := 2, ground := Go.Ground.data }, { on := 1, ground := Go.Ground.chain }], guard := none }) rfl (fun K hK => ?_) ?_
      · go_simp
        (go_at_call 24; with_reducible refine (rbnd_any _ _).mono ?_; rintro e w5 ⟨rfl, rfl⟩)
        go_wp2_with fail
        refine hK.out _ _ (by assumption) (fun hHeld => ?_)
        clear hK K
        try simp only [Act.put, List.setIfInBounds_toArray, List.set_cons_zero, List.set_cons_succ]
        refine wpAnyH_take (i := 4) (oi := { dst := some 19, op := Go.Op.call { callee := Go.Callee.builtin Go.Builtin.max, args := #[Go.Operand.tmp 16, Go.Operand.tmp 18], argTypes := #[3, 3] }, type := 3, pos := "ref.go:20", after := #[{ on := 1, ground := Go.Ground.data }, { on := 3, ground := Go.Ground.data }], guard := none }) (v := .int .i64 (max (mom now) (mom acked))) rfl (by kernel_rfl) (by kernel_rfl) (by kernel_rfl) (fun _ _ _ h => h) (Or.inl ⟨by rfl, ?yvb6⟩) (by assumption) ?rvb6
        case yvb6 => (intro wS hSw; have q0_0 := hSw.at (g := w.heap.size) (A := #[.int .i64 id, .int .i64 lead, .int .i64 guard]) (t := 26) (i := 0) (v := .int .i64 id) (by simp) rfl; have q0_1 := hSw.at (g := w.heap.size) (A := #[.int .i64 id, .int .i64 lead, .int .i64 guard]) (t := 26) (i := 1) (v := .int .i64 lead) (by simp) rfl; have q0_2 := hSw.at (g := w.heap.size) (A := #[.int .i64 id, .int .i64 lead, .int .i64 guard]) (t := 26) (i := 2) (v := .int .i64 guard) (by simp) rfl; clear hSw; go_simp; try (first | with_reducible rfl | (split <;> omega)))
        try simp only [Act.put, List.setIfInBounds_toArray, List.set_cons_zero, List.set_cons_succ]
        refine wpAnyH_ready (rs := [8]) (by kernel_rfl) (by simp) ?_
        refine AllReadyH.cons (o := { dst := some 23, op := Go.Op.call { callee := Go.Callee.value (Go.Operand.func 23), args := #[Go.Operand.tmp 19, Go.Operand.tmp 22], argTypes := #[3, 3] }, type := 3, pos := "ref.go:20", after := #[{ on := 4, ground := Go.Ground.data }, { on := 7, ground := Go.Ground.data }, { on := 3, ground := Go.Ground.chain }], guard := none }) rfl (fun K hK => ?_) ?_
        · go_simp
          (go_at_call 23; with_reducible refine (radd_any _ _ _).mono ?_; rintro e w5 ⟨rfl, rfl⟩)
          go_wp2_with fail
          refine hK.out _ _ (by assumption) (fun hHeld => ?_)
          clear hK K
          try simp only [Act.put, List.setIfInBounds_toArray, List.set_cons_zero, List.set_cons_succ]
          refine wpAnyH_take (i := 9) (oi := { dst := some 10, op := Go.Op.assign (Go.Operand.tmp 23), type := 3, pos := "ref.go:20", after := #[{ on := 8, ground := Go.Ground.data }, { on := 8, ground := Go.Ground.chain }, { on := 0, ground := Go.Ground.phase }, { on := 1, ground := Go.Ground.phase }, { on := 2, ground := Go.Ground.phase }, { on := 3, ground := Go.Ground.phase }, { on := 4, ground := Go.Ground.phase }, { on := 5, ground := Go.Ground.phase }, { on := 6, ground := Go.Ground.phase }, { on := 7, ground := Go.Ground.phase }, { on := 8, ground := Go.Ground.phase }], guard := none }) (v := ?vvb7) rfl (by kernel_rfl) (by kernel_rfl) (by kernel_rfl) (fun _ _ _ h => h) (Or.inl ⟨by rfl, ?yvb7⟩) (by assumption) ?rvb7
          case yvb7 => (intro wS hSw; have q0_0 := hSw.at (g := w.heap.size) (A := #[.int .i64 id, .int .i64 lead, .int .i64 guard]) (t := 26) (i := 0) (v := .int .i64 id) (by simp) rfl; have q0_1 := hSw.at (g := w.heap.size) (A := #[.int .i64 id, .int .i64 lead, .int .i64 guard]) (t := 26) (i := 1) (v := .int .i64 lead) (by simp) rfl; have q0_2 := hSw.at (g := w.heap.size) (A := #[.int .i64 id, .int .i64 lead, .int .i64 guard]) (t := 26) (i := 2) (v := .int .i64 guard) (by simp) rfl; clear hSw; go_simp; try (with_reducible rfl))
          try simp only [Act.put, List.setIfInBounds_toArray, List.set_cons_zero, List.set_cons_succ]
          refine wpAnyH_done (by kernel_rfl) ?_ _
          refine NoPanic.normal ?_
          go_wp2
          all_goals
            go_ret
            exact ⟨ret_int (by omega), hHeld.2⟩
        exact AllReadyH.nil
      exact AllReadyH.nil
    exact AllReadyH.nil
def ownV (id : Int) : Int := if id = 0 then 0 else 1
theorem own_any (id lead guard : Int) (w : World) : Calls Try.prog 13 #[.agg #[.int .i64 id, .int .i64 lead, .int .i64 guard]] w fun e w' => e = .returned (.int .i64 (ownV id)) ∧ Below w.heap.size w w' := by
  unfold ownV
  by_cases h : id = 0
  · subst h
    go_enter Try.func13, Try.ntmps13
    go_wp2
    go_ret
    exact ⟨rfl, low0 w _⟩
  · rw [if_neg h]
    go_enter Try.func13, Try.ntmps13
    go_wp2
    go_ret
    exact ⟨rfl, low0 w _⟩
theorem rown_any (id lead guard : Int) (w : World) : Calls Try.prog 14 #[.agg #[.int .i64 id, .int .i64 lead, .int .i64 guard]] w fun e w' => e = .returned (.int .i64 (ownV id)) ∧ Below w.heap.size w w' := by
  unfold ownV
  by_cases h : id = 0
  · subst h
    go_enter Try.func14, Try.ntmps14
    go_wp2
    go_ret
    exact ⟨rfl, low0 w _⟩
  · rw [if_neg h]
    go_enter Try.func14, Try.ntmps14
    go_wp2
    go_ret
    exact ⟨rfl, low0 w _⟩

end Go.Proofs.Ytgpfdchokpelfaa
