/- A region that draws its order, walked once in the order of its text: each operation yields one value in every world that meets a condition, and keeps that condition; the operations behind them, if there are, come last in any order. Over any program. -/
import Derived.StillTail
import Derived.Tactics
import Derived.WalkKit
import Derived.OrdersHeld
namespace Go.Proofs.Ytmncpcchdhieoaa
open Go
set_option linter.unusedVariables false

section
variable {P : Program} {ops : Array Oper} {md : Region.Mode} {S : World → Prop}

def NoExit : Exit → Act → World → Prop := fun _ _ _ => False

/-- In every world that meets S the operation leaves v, and a world that meets S. -/
def HeldsTo (P : Program) (S : World → Prop) (o : Oper) (v : Value) (a : Act) : Prop :=
  ∀ w, S w → o.wp P a w (fun a' w' => a' = a.put o.dst v ∧ S w') NoExit

def YieldsH (P : Program) (ops : Array Oper) (S : World → Prop) (o : Oper) (v : Value) (a : Act) : Prop :=
  (Region.wanted o (yielded ops a.tmps) = true ∧ HeldsTo P S o v a) ∨ (Region.wanted o (yielded ops a.tmps) = false ∧ v = undef)

theorem put_size (a : Act) (e : Option Tmp) (x : Value) : (a.put e x).tmps.size = a.tmps.size := by
  cases e with
  | none => rfl
  | some e => simp [Act.put]
theorem put_defs (a : Act) (e : Option Tmp) (x : Value) : (a.put e x).defers = a.defers := by
  cases e <;> rfl
theorem put_eq_iff (a : Act) (d : Option Tmp) (u v : Value) : a.put d u = a.put d v ↔ ∀ t, d = some t → t < a.tmps.size → u = v := by
  cases d with
  | none => exact ⟨fun _ t h => (by cases h), fun _ => rfl⟩
  | some d =>
    constructor
    · intro h t ht hd
      cases ht
      have h1 : (a.tmps.setIfInBounds d u)[d]? = (a.tmps.setIfInBounds d v)[d]? := by
        have := congrArg (fun b : Act => b.tmps[d]?) h
        exact this
      rw [Array.getElem?_setIfInBounds_self_of_lt hd, Array.getElem?_setIfInBounds_self_of_lt hd] at h1
      cases h1
      rfl
    · intro h
      by_cases hd : d < a.tmps.size
      · rw [h d rfl hd]
      · show ({ a with tmps := a.tmps.setIfInBounds d u } : Act) = { a with tmps := a.tmps.setIfInBounds d v }
        rw [Array.setIfInBounds_eq_of_size_le (Nat.le_of_not_lt hd), Array.setIfInBounds_eq_of_size_le (Nat.le_of_not_lt hd)]
theorem put_alike {a b : Act} {d : Option Tmp} {u v : Value} (hs : b.tmps.size = a.tmps.size) (h : a.put d u = a.put d v) : b.put d u = b.put d v := by
  rw [put_eq_iff] at *
  rw [hs]
  exact h

theorem HeldsTo.of_same {o : Oper} {v : Value} {a b : Act} (hy : HeldsTo P S o v a) (hs : b.tmps.size = a.tmps.size) (hd : b.defers = a.defers) (he : execOp b.eval o = execOp a.eval o) : HeldsTo P S o v b := by
  intro w hw
  have h := hy w hw
  unfold Oper.wp at *
  rw [he]
  generalize (execOp a.eval o).run P w = r at *
  cases r with
  | ok n w' =>
    cases n <;> simp only [Oper.upon] at h ⊢
    case value u => exact ⟨put_alike hs h.1, h.2⟩
    case skip => exact ⟨put_alike hs h.1, h.2⟩
    case defer d =>
      exfalso
      have h1 := congrArg Act.defers h.1
      rw [put_defs, put_defs] at h1
      have h3 := congrArg List.length h1
      simp at h3
    case enter f args =>
      refine Calls.mono h fun e' w'' hk => ?_
      cases e' with
      | returned u => exact ⟨put_alike hs hk.1, hk.2⟩
      | panicked c => exact hk
      | outgrown => exact hk
    case row row args => exact Rows.mono h fun u w'' hk => ⟨put_alike hs hk.1, hk.2⟩
  | halt y w' =>
    cases y <;> simp only [Oper.upon] at h ⊢
    case panic u => exact h

theorem YieldsH.of_same {o : Oper} {v : Value} {a b : Act} (hy : YieldsH P ops S o v a) (hs : b.tmps.size = a.tmps.size) (hd : b.defers = a.defers) (he : execOp b.eval o = execOp a.eval o)
    (hw : Region.wanted o (yielded ops b.tmps) = Region.wanted o (yielded ops a.tmps)) : YieldsH P ops S o v b := by
  unfold YieldsH at *
  rw [hw]
  exact hy.imp (fun h => ⟨h.1, h.2.of_same hs hd he⟩) id

def hOp (P : Program) (ops : Array Oper) (S : World → Prop) (i : Nat) (K : Act → Prop) (a : Act) : Prop :=
  match ops[i]? with
  | none => K a
  | some o => ∃ v, YieldsH P ops S o v a ∧ K (a.put o.dst v)

theorem hOp_mono {i : Nat} {a : Act} {K K' : Act → Prop} (h : ∀ a, K a → K' a) (hh : hOp P ops S i K a) : hOp P ops S i K' a := by
  unfold hOp at *
  split
  · exact h _ (by simpa [*] using hh)
  · rename_i o ho
    simp only [ho] at hh
    obtain ⟨v, h1, h2⟩ := hh
    exact ⟨v, h1, h _ h2⟩

theorem letsOut_no (h : LetsOut NoExit) : False := by
  obtain ⟨_, _, h⟩ := h
  exact h

theorem Oper.wp_of_held {o : Oper} {a : Act} {v : Value} {w : World} {K : Act → World → Prop} {Q' : Exit → Act → World → Prop} (h : ∀ w', S w' → K (a.put o.dst v) w') (hh : o.wp P a w (fun a' w' => a' = a.put o.dst v ∧ S w') NoExit) : o.wp P a w K Q' := by
  unfold Oper.wp at *
  generalize (execOp a.eval o).run P w = r at *
  cases r with
  | ok n w' =>
    cases n <;> simp only [Oper.upon] at hh ⊢
    case value u => rw [hh.1]; exact h _ hh.2
    case skip => rw [hh.1]; exact h _ hh.2
    case defer d => rw [hh.1]; exact h _ hh.2
    case enter f args =>
      refine Calls.mono hh fun e' w'' hk => ?_
      cases e' with
      | returned u => show K _ _; rw [hk.1]; exact h _ hk.2
      | panicked c => exact hk.elim
      | outgrown => exact (letsOut_no hk).elim
    case row row args => exact Rows.mono hh fun u w'' hk => by rw [hk.1]; exact h _ hk.2
  | halt y w' =>
    cases y <;> simp only [Oper.upon] at hh ⊢
    case panic u => exact hh.elim

theorem wpOp_of_hOp {i : Nat} {a : Act} {w : World} {K : Act → Prop} {K' : Act → World → Prop} {Q' : Exit → Act → World → Prop} (hS : S w) (h : ∀ a w', K a → S w' → K' a w') (hh : hOp P ops S i K a) : wpOp P ops Q' i K' a w := by
  unfold hOp at hh
  unfold wpOp
  split
  · rename_i ho; simp only [ho] at hh; exact h _ _ hh hS
  · rename_i o ho
    simp only [ho] at hh
    obtain ⟨v, ⟨hw, hv⟩ | ⟨hw, rfl⟩, hk⟩ := hh
    · rw [if_pos hw]
      exact .inl (Oper.wp_of_held (fun w' hS' => h _ _ hk hS') (hv w hS))
    · rw [if_neg (by rw [hw]; simp)]
      exact h _ _ hk hS

theorem hOp_put {j : Nat} {oi oj : Oper} {v : Value} (hj : ops[j]? = some oj) (hap : oi.apart ops oj = true)
    (hsi : ∀ cs b, oi.op ≠ .select cs b) (hsj : ∀ cs b, oj.op ≠ .select cs b) {K : Act → Prop} {a : Act}
    (hy : YieldsH P ops S oi v a) (h : hOp P ops S j K (a.put oi.dst v)) :
    hOp P ops S j (fun a' => YieldsH P ops S oi v a' ∧ K (a'.put oi.dst v)) a := by
  obtain ⟨h1, h2, h3⟩ := Oper.apart_spec hap
  unfold hOp at *
  simp only [hj] at *
  obtain ⟨u, hu, hk⟩ := h
  exact ⟨u, hu.of_same (put_size _ _ _).symm (put_defs _ _ _).symm (execOp_put oj hsj a oi.dst v h1).symm (wanted_put oj a oi.dst v h1).symm,
    hy.of_same (put_size _ _ _) (put_defs _ _ _) (execOp_put oi hsi a oj.dst u h3) (wanted_put oi a oj.dst u h3), by rw [← Act.put_comm a v u h2]; exact hk⟩

theorem YieldsH.hOp {i : Nat} {o : Oper} {v : Value} {a : Act} (hi : ops[i]? = some o) (hy : YieldsH P ops S o v a) {K : Act → Prop} (h : K (a.put o.dst v)) : hOp P ops S i K a := by
  unfold Go.Proofs.Ytmncpcchdhieoaa.hOp
  simp only [hi]
  exact ⟨v, hy, h⟩

def hAny (P : Program) (md : Region.Mode) (ops : Array Oper) (S : World → Prop) (n : Nat) (L : Array Bool → Act → Prop) : Nat → Array Bool → Act → Prop
  | 0, listed, a => L listed a
  | f + 1, listed, a =>
    Region.ready md ops listed ≠ [] ∧ ∀ i ∈ Region.ready md ops listed, i < n ∧ hOp P ops S i (hAny P md ops S n L f (listed.setIfInBounds i true)) a

theorem wpAny_of_hAny {n g : Nat} {L : Array Bool → Act → Prop} {Q' : Exit → Act → World → Prop} (hL : ∀ listed a w, L listed a → S w → wpAny P md ops Q' g listed a w) :
    ∀ (f : Nat) (listed : Array Bool) (a : Act) (w : World), hAny P md ops S n L f listed a → S w → wpAny P md ops Q' (f + g) listed a w
  | 0, listed, a, w, h, hS => by rw [Nat.zero_add]; exact hL _ _ _ h hS
  | f + 1, listed, a, w, h, hS => by
    rw [show f + 1 + g = (f + g) + 1 by omega]
    exact ⟨fun h0 => absurd h0 h.1, fun i hi => wpOp_of_hOp hS (fun a' w' h' hS' => wpAny_of_hAny hL f _ a' w' h' hS') (h.2 i hi).2⟩

/-- None of the operations behind the first n may come up while one of these has not. -/
def TailWaits (md : Region.Mode) (ops : Array Oper) (n : Nat) : Prop :=
  ∀ listed, HeadInv md ops n listed → ∀ i, i < n → listed.getD i true = false → ∀ j ∈ Region.ready md ops listed, j < n

theorem hAny_first {n i : Nat} {oi : Oper} {v : Value} {L : Array Bool → Act → Prop} (hi : ops[i]? = some oi) (hsel : ∀ (j : Nat) (o : Oper) cs b, ops[j]? = some o → o.op ≠ .select cs b)
    (htail : TailWaits md ops n) (hin : i < n) (hdone : ∀ listed a, L listed a → ∀ j ∈ Region.ready md ops listed, n ≤ j) :
    ∀ (f : Nat) (listed : Array Bool) (a : Act), HeadInv md ops n listed →
      (∀ j oj, ops[j]? = some oj → j ≠ i → listed.getD j true = false → (∀ e ∈ oj.after, Region.binds md e = true → e.on ≠ i) → oi.apart ops oj = true) →
      i ∈ Region.ready md ops listed → YieldsH P ops S oi v a →
      hAny P md ops S n L f (listed.setIfInBounds i true) (a.put oi.dst v) → hAny P md ops S n L (f + 1) listed a := by
  intro f
  induction f with
  | zero =>
    intro listed a inv _ hr hy H
    have hun := (mem_ready.1 hr).1
    refine ⟨fun h => (by rw [h] at hr; cases hr), fun j hj => ?_⟩
    have hjn : j < n := htail _ inv i hin hun j hj
    refine ⟨hjn, ?_⟩
    by_cases hji : j = i
    · subst hji; exact hy.hOp hi H
    · have := hdone _ _ H j (ready_mono hj hji)
      omega
  | succ f ih =>
    intro listed a inv hfree hr hy H
    have hun := (mem_ready.1 hr).1
    refine ⟨fun h => (by rw [h] at hr; cases hr), fun j hj => ?_⟩
    have hjn : j < n := htail _ inv i hin hun j hj
    refine ⟨hjn, ?_⟩
    by_cases hji : j = i
    · subst hji; exact hy.hOp hi H
    · have h1 := (H.2 j (ready_mono hj hji)).2
      obtain ⟨hjun, oj, hoj, hall⟩ := mem_ready.1 hj
      have hnot : ∀ e ∈ oj.after, Region.binds md e = true → e.on ≠ i := fun e he hb heq => by
        have h1 := hall e he hb
        rw [heq, getD_both hun] at h1
        cases h1
      have h2 := hOp_put hoj (hfree j oj hoj hji hjun hnot) (fun cs b => hsel i oi cs b hi) (fun cs b => hsel j oj cs b hoj) hy h1
      have hfree' : ∀ k ok, ops[k]? = some ok → k ≠ i → (listed.setIfInBounds j true).getD k true = false →
          (∀ e ∈ ok.after, Region.binds md e = true → e.on ≠ i) → oi.apart ops ok = true := fun k ok hk hki hun hno => by
        refine hfree k ok hk hki ?_ hno
        by_cases hjk : j = k
        · subst hjk; exact hjun
        · rw [getD_set_ne true hjk] at hun; exact hun
      refine hOp_mono (fun a' h3 => ih (listed.setIfInBounds j true) a' (inv.set hj hjn) hfree' (ready_mono hr (Ne.symm hji)) h3.1 ?_) h2
      rw [Array.setIfInBounds_comm _ _ hji]
      exact h3.2

/-- The operations in the order of the text. -/
def wpHeld (P : Program) (ops : Array Oper) (S : World → Prop) (Q : Act → Prop) : List Oper → Act → Prop
  | [], a => Q a
  | o :: rest, a => ∃ v, YieldsH P ops S o v a ∧ wpHeld P ops S Q rest (a.put o.dst v)

theorem hAny_lex {n g : Nat} {Lq : Act → Prop} (hsel : Region.noSelect ops = true) (htail : TailWaits md ops n) (hn : n ≤ ops.size) :
    ∀ (l : List Oper) (k : Nat) (listed : Array Bool) (a : Act), (∀ j, j < l.length → l[j]? = ops[k + j]?) → k + l.length = n → HeadInv md ops n listed →
    Region.lexHead md ops g l.length k listed = true → wpHeld P ops S Lq l a →
    hAny P md ops S n (fun listed' a' => Region.seqB md ops g n listed' = true ∧ Lq a') l.length listed a
  | [], k, listed, a, _, hk, _, hB, h => by
    have : k = n := by simpa using hk
    subst this
    exact ⟨by simpa [Region.lexHead] using hB, h⟩
  | o :: l, k, listed, a, hl, hk, inv, hB, h => by
    have h0 : ops[k]? = some o := by simpa using (hl 0 (by simp)).symm
    simp only [List.length_cons, Region.lexHead, Bool.and_eq_true] at hB
    obtain ⟨⟨hr, hf⟩, hB'⟩ := hB
    have hkn : k < n := by simp only [List.length_cons] at hk; omega
    have hr' : k ∈ Region.ready md ops listed := by simpa using hr
    obtain ⟨v, hy, hK⟩ := h
    exact hAny_first h0 (Region.noSelect_spec hsel) htail hkn (fun listed' a' hL => seqB_ready hL.1) l.length listed a inv (Region.free_spec h0 hf) hr' hy
      (hAny_lex hsel htail hn l (k + 1) _ _ (fun j hj => by have := hl (j + 1) (by simp; omega); simpa [Nat.add_assoc, Nat.add_comm 1 j] using this) (by simp only [List.length_cons] at hk; omega) (inv.set hr' hkn) hB' hK)

/-- What is asked of the region's edges: the text's order may be taken; the operations behind the first n come last, one behind the other; or there are none. -/
def seqTailB (md : Region.Mode) (ops : Array Oper) (n : Nat) : Bool :=
  Region.noSelect ops && (decide (n = ops.size) || (decide (n < ops.size) && Region.sinkB md ops n && Region.chainB md ops n)) && Region.lexHead md ops (ops.size - n) n 0 (Array.replicate ops.size false)

theorem tailWaits_of {n : Nat} (h : (decide (n = ops.size) || (decide (n < ops.size) && Region.sinkB md ops n && Region.chainB md ops n)) = true) : TailWaits md ops n ∧ n ≤ ops.size := by
  simp only [Bool.or_eq_true, Bool.and_eq_true, decide_eq_true_eq] at h
  rcases h with h | ⟨⟨hn, hs⟩, hc⟩
  · refine ⟨fun listed inv i hi hun j hj => ?_, by omega⟩
    obtain ⟨_, oj, hoj, _⟩ := mem_ready.1 hj
    have := (Array.getElem?_eq_some_iff.1 hoj).1
    omega
  · refine ⟨fun listed inv i hi hun j hj => ?_, by omega⟩
    rcases Nat.lt_or_ge j n with h | h
    · exact h
    · exact absurd hj (tail_waits hs hc hn inv _ i rfl hi hun j h)

/-- The law: a region that draws its order, by one walk in the order of its text. -/
theorem wp_region_seq {id : Nat} {Q : Exit → Act → World → Prop} {a : Act} {w : World} {l : List Oper} (n : Nat) (hm : P.follows .mixedOrders = true) (hB : seqTailB .any l.toArray n = true) (hS : S w.drew)
    (h : wpHeld P l.toArray S (fun a' => ∀ w', S w' → wpList P l.toArray Q (l.drop n) a' w') (l.take n) a) : (Code.region id l.toArray true).wp P Q a w := by
  simp only [seqTailB, Bool.and_eq_true] at hB
  obtain ⟨⟨hsel, ht⟩, hlex⟩ := hB
  obtain ⟨htail, hn⟩ := tailWaits_of ht
  have hn' : n ≤ l.length := by simpa using hn
  have htl : (l.take n).length = n := by simp; omega
  have hdl : (l.drop n).length = l.toArray.size - n := by simp
  have inv0 : HeadInv .any l.toArray n (Array.replicate l.toArray.size false) :=
    ⟨by simp, fun j oj _ hl => (by rw [getD_replicate_false] at hl; cases hl), fun t _ ht => getD_in (by simpa using ht) (getD_replicate_false _ _)⟩
  have H := hAny_lex (md := .any) (g := l.toArray.size - n) hsel htail hn (l.take n) 0 _ a (fun j hj => by
    have hj' : j < n := by rw [htl] at hj; exact hj
    simp [hj']) (by simpa using htl) inv0 (by rw [htl]; exact hlex) h
  refine wp_region_any hm ?_
  have := wpAny_of_hAny (Q' := Q) (g := l.toArray.size - n) (fun listed a' w' hL hS' => by
    have := wpAny_of_seq (md := .any) (Q' := Q) (l.drop n) n listed a' w' (fun j => by simp [List.getElem?_drop]) (by rw [hdl]; exact hL.1) (hL.2 w' hS')
    rwa [hdl] at this) _ _ _ _ H hS
  rw [htl, show n + (l.toArray.size - n) = l.toArray.size by omega] at this
  exact this

/-! The steps. -/
theorem wpHeld_val {Q : Act → Prop} {o : Oper} {rest : List Oper} {a : Act} {v : Value} (hw : Region.wanted o (yielded ops a.tmps) = true) (hv : ∀ w, S w → (execOp a.eval o).run P w = .ok (.value v) w)
    (h : wpHeld P ops S Q rest (a.put o.dst v)) : wpHeld P ops S Q (o :: rest) a :=
  ⟨v, .inl ⟨hw, fun w hS => by unfold Oper.wp; rw [hv w hS]; exact ⟨rfl, hS⟩⟩, h⟩
theorem wpHeld_skip {Q : Act → Prop} {o : Oper} {rest : List Oper} {a : Act} (hw : Region.wanted o (yielded ops a.tmps) = false)
    (h : wpHeld P ops S Q rest (a.put o.dst undef)) : wpHeld P ops S Q (o :: rest) a := ⟨undef, .inr ⟨hw, rfl⟩, h⟩
/-- The way on, hidden. -/
def Way (p : Prop) : Prop := p
theorem Way.out {p : Prop} (h : Way p) : p := h
theorem wpHeld_run {Q : Act → Prop} {o : Oper} {rest : List Oper} {a : Act} (v : Value) (hw : Region.wanted o (yielded ops a.tmps) = true)
    (hv : ∀ w, S w → ∀ (K : Act → World → Prop), Way (∀ w', S w' → K (a.put o.dst v) w') → o.wp P a w K NoExit)
    (h : wpHeld P ops S Q rest (a.put o.dst v)) : wpHeld P ops S Q (o :: rest) a :=
  ⟨v, .inl ⟨hw, fun w hS => hv w hS _ (fun w' hS' => ⟨rfl, hS'⟩)⟩, h⟩
theorem wpHeld_nil {Q : Act → Prop} {a : Act} (h : Q a) : wpHeld P ops S Q [] a := h

/-! Beside operations that make memory: what yields one value and leaves the world as it is, a call that only reads too, is taken first. -/
def YieldsQ (P : Program) (ops : Array Oper) (S : World → Prop) (o : Oper) (v : Value) (a : Act) : Prop :=
  (Region.wanted o (yielded ops a.tmps) = true ∧ ∀ wS, S wS → HeldsTo P (fun w => w = wS) o v a) ∨ (Region.wanted o (yielded ops a.tmps) = false ∧ v = undef)
theorem YieldsQ.of_same {o : Oper} {v : Value} {a b : Act} (hy : YieldsQ P ops S o v a) (hs : b.tmps.size = a.tmps.size) (hd : b.defers = a.defers) (he : execOp b.eval o = execOp a.eval o)
    (hw : Region.wanted o (yielded ops b.tmps) = Region.wanted o (yielded ops a.tmps)) : YieldsQ P ops S o v b := by
  unfold YieldsQ at *
  rw [hw]
  exact hy.imp (fun h => ⟨h.1, fun wS hS => (h.2 wS hS).of_same hs hd he⟩) id
theorem YieldsQ.wpOp {i : Nat} {o : Oper} {v : Value} {a : Act} {Q : Exit → Act → World → Prop} (hi : ops[i]? = some o) (hy : YieldsQ P ops S o v a) {K : Act → World → Prop} {w : World} (hS : S w) (h : K (a.put o.dst v) w) : wpOp P ops Q i K a w := by
  unfold Go.wpOp
  simp only [hi]
  rcases hy with ⟨hw, hv⟩ | ⟨hw, rfl⟩
  · rw [if_pos hw]
    exact .inl (Oper.wp_of_held (S := fun w' => w' = w) (fun w' hw' => by subst hw'; exact h) (hv w hS w rfl))
  · rw [if_neg (by rw [hw]; simp)]
    exact h
theorem wpOp_putQ {j : Nat} {oi oj : Oper} {v : Value} {Q : Exit → Act → World → Prop} (hj : ops[j]? = some oj) (hap : oi.apart ops oj = true)
    (hsi : ∀ cs b, oi.op ≠ .select cs b) (hsj : ∀ cs b, oj.op ≠ .select cs b) (hdf : ∀ (a : Act) d, YieldsQ P ops S oi v a → YieldsQ P ops S oi v { a with defers := d :: a.defers })
    (hQ : ∀ c a w, Q (.panic c) (a.put oi.dst v) w → Q (.panic c) a w) {K : Act → World → Prop} {a : Act} {w : World}
    (hy : YieldsQ P ops S oi v a) (h : wpOp P ops Q j K (a.put oi.dst v) w) :
    wpOp P ops Q j (fun a' w' => YieldsQ P ops S oi v a' ∧ K (a'.put oi.dst v) w') a w := by
  obtain ⟨h1, h2, h3⟩ := Oper.apart_spec hap
  have keep : ∀ (a : Act), YieldsQ P ops S oi v a → ∀ u, YieldsQ P ops S oi v (a.put oj.dst u) := fun a hy u =>
    hy.of_same (put_size _ _ _) (put_defs _ _ _) (execOp_put oi hsi a oj.dst u h3) (wanted_put oi a oj.dst u h3)
  unfold Go.wpOp at *
  simp only [hj] at *
  rw [wanted_put oj a oi.dst v h1] at h
  split
  · rename_i hw
    simp only [hw, if_true] at h
    rcases h with h | ⟨hasks, hlets⟩
    case inr => exact .inr ⟨by unfold Oper.asks at *; rw [execOp_put oj hsj a oi.dst v h1] at hasks; exact hasks, hlets⟩
    refine .inl ?_
    unfold Oper.wp at *
    rw [execOp_put oj hsj a oi.dst v h1] at h
    generalize (execOp a.eval oj).run P w = r at *
    cases r with
    | ok n w' =>
      cases n <;> simp only [Oper.upon] at h ⊢
      case value u => exact ⟨keep a hy u, by rw [← Act.put_comm a v u h2]; exact h⟩
      case skip => exact ⟨keep a hy _, by rw [← Act.put_comm a v undef h2]; exact h⟩
      case defer d =>
        refine ⟨?_, ?_⟩
        · exact (hdf a d hy).of_same (put_size _ _ _) (put_defs _ _ _) (execOp_put oi hsi _ oj.dst undef h3) (wanted_put oi _ oj.dst undef h3)
        · rw [← Act.put_comm _ v undef h2, ← Act.put_defers]
          exact h
      case enter f args =>
        refine Calls.mono h fun e w'' he => ?_
        cases e with
        | returned u => exact ⟨keep a hy u, by rw [← Act.put_comm a v u h2]; exact he⟩
        | panicked c => exact hQ _ _ _ he
        | outgrown => exact he
      case row row args => exact Rows.mono h fun u w'' he => ⟨keep a hy u, by rw [← Act.put_comm a v u h2]; exact he⟩
    | halt x w' =>
      cases x <;> simp only [Oper.upon] at h ⊢
      case panic u => exact hQ _ _ _ h
  · rename_i hw
    simp only [hw] at h
    exact ⟨keep a hy _, by rw [← Act.put_comm a v undef h2]; exact h⟩
theorem YieldsQ.defer {o : Oper} {v : Value} (hst : ∀ (a : Act) d w K, o.wp P a w K NoExit → (∀ a' w', K a' w' → a' = a.put o.dst v) → o.wp P { a with defers := d :: a.defers } w (fun a' w' => a' = ({ a with defers := d :: a.defers } : Act).put o.dst v ∧ K (a.put o.dst v) w') NoExit) (a : Act) (d : Deferred) (hy : YieldsQ P ops S o v a) : YieldsQ P ops S o v { a with defers := d :: a.defers } := by
  rcases hy with ⟨hw, hv⟩ | ⟨hw, rfl⟩
  · refine .inl ⟨hw, fun wS hS w hw' => ?_⟩
    have h1 := hst a d w _ (hv wS hS w hw') (fun a' w' h => h.1)
    exact Oper.wp_mono (fun a' w' h => ⟨h.1, h.2.2⟩) h1
  · exact .inr ⟨hw, rfl⟩
theorem wp_defers {o : Oper} {v : Value} (a : Act) (d : Deferred) (w : World) (K : Act → World → Prop) (h : o.wp P a w K NoExit) (hk : ∀ a' w', K a' w' → a' = a.put o.dst v) :
    o.wp P { a with defers := d :: a.defers } w (fun a' w' => a' = ({ a with defers := d :: a.defers } : Act).put o.dst v ∧ K (a.put o.dst v) w') NoExit := by
  unfold Oper.wp at *
  have he : execOp ({ a with defers := d :: a.defers } : Act).eval o = execOp a.eval o := rfl
  rw [he]
  generalize (execOp a.eval o).run P w = r at *
  have pa : ∀ u, a.put o.dst u = a.put o.dst v → ({ a with defers := d :: a.defers } : Act).put o.dst u = ({ a with defers := d :: a.defers } : Act).put o.dst v := fun u hu => put_alike (a := a) (b := { a with defers := d :: a.defers }) rfl hu
  cases r with
  | ok n w' =>
    cases n <;> simp only [Oper.upon] at h ⊢
    case value u => have e := hk _ _ h; exact ⟨pa u e, by rw [← e]; exact h⟩
    case skip => have e := hk _ _ h; exact ⟨pa _ e, by rw [← e]; exact h⟩
    case defer d' =>
      exfalso
      have h1 := congrArg Act.defers (hk _ _ h)
      rw [put_defs, put_defs] at h1
      have h3 := congrArg List.length h1
      simp at h3
    case enter f args =>
      refine Calls.mono h fun e' w'' hx => ?_
      cases e' with
      | returned u => have e := hk _ _ hx; exact ⟨pa u e, by rw [← e]; exact hx⟩
      | panicked c => exact hx
      | outgrown => exact hx
    case row row args => exact Rows.mono h fun u w'' hx => by have e := hk _ _ hx; exact ⟨pa u e, by rw [← e]; exact hx⟩
  | halt y w' =>
    cases y <;> simp only [Oper.upon] at h ⊢
    case panic u => exact h
theorem wpAnyH_firstQ {Q : Exit → Act → World → Prop} {i : Nat} {oi : Oper} {v : Value} (hi : ops[i]? = some oi) (hsel : ∀ (j : Nat) (o : Oper) cs b, ops[j]? = some o → o.op ≠ .select cs b)
    (hQ : ∀ c a w, Q (.panic c) (a.put oi.dst v) w → Q (.panic c) a w) :
    ∀ (fuel : Nat) (listed : Array Bool) (a : Act) (w : World),
      (∀ j oj, ops[j]? = some oj → j ≠ i → listed.getD j true = false → (∀ e ∈ oj.after, Region.binds md e = true → e.on ≠ i) → oi.apart ops oj = true) →
      i ∈ Region.ready md ops listed → YieldsQ P ops S oi v a → S w →
      wpAnyH P md ops Q S fuel (listed.setIfInBounds i true) (a.put oi.dst v) w → wpAnyH P md ops Q S (fuel + 1) listed a w := by
  intro fuel
  induction fuel with
  | zero =>
    intro listed a w _ hr hy hS H
    refine ⟨fun h => (by rw [h] at hr; cases hr), fun j hj => ?_⟩
    by_cases hji : j = i
    · subst hji; exact hy.wpOp hi hS ⟨hS, H⟩
    · have := ready_mono hj hji
      rw [H.1] at this
      cases this
  | succ fuel ih =>
    intro listed a w hfree hr hy hS H
    refine ⟨fun h => (by rw [h] at hr; cases hr), fun j hj => ?_⟩
    by_cases hji : j = i
    · subst hji; exact hy.wpOp hi hS ⟨hS, H⟩
    · have h1 := H.2 j (ready_mono hj hji)
      obtain ⟨hjun, oj, hoj, hall⟩ := mem_ready.1 hj
      have hnot : ∀ e ∈ oj.after, Region.binds md e = true → e.on ≠ i := fun e he hb heq => by
        have h1 := hall e he hb
        have h0 := (mem_ready.1 hr).1
        rw [heq] at h1
        rcases Nat.lt_or_ge i listed.size with h' | h'
        · simp [h'] at h0 h1; rw [h0] at h1; cases h1
        · simp [Array.getElem?_eq_none h'] at h1
      have h2 := wpOp_putQ hoj (hfree j oj hoj hji hjun hnot) (fun cs b => hsel i oi cs b hi) (fun cs b => hsel j oj cs b hoj) (fun a d => YieldsQ.defer (fun a d w K h hk => wp_defers a d w K h hk) a d) hQ hy h1
      have hfree' : ∀ k ok, ops[k]? = some ok → k ≠ i → (listed.setIfInBounds j true).getD k true = false →
          (∀ e ∈ ok.after, Region.binds md e = true → e.on ≠ i) → oi.apart ops ok = true := fun k ok hk hki hun hno => by
        refine hfree k ok hk hki ?_ hno
        by_cases hjk : j = k
        · subst hjk; exact hjun
        · rw [getD_set_ne true hjk] at hun; exact hun
      refine wpOp_mono (fun a' w' h3 => ⟨h3.2.1, ih (listed.setIfInBounds j true) a' w' hfree' (ready_mono hr (Ne.symm hji)) h3.1 h3.2.1 ?_⟩) h2
      rw [Array.setIfInBounds_comm _ _ hji]
      exact h3.2.2
/-- A call that only reads is taken first. -/
theorem wpAnyH_takeQ {Q : Exit → Act → World → Prop} {i : Nat} {oi : Oper} {v : Value} {fuel : Nat} {listed : Array Bool} {a : Act} {w : World} (hi : ops[i]? = some oi)
    (hs : Region.noSelect ops = true) (hf : Region.free md ops listed i = true) (hr : (Region.ready md ops listed).contains i = true)
    (hQ : ∀ c a w, Q (.panic c) (a.put oi.dst v) w → Q (.panic c) a w) (hwt : Region.wanted oi (yielded ops a.tmps) = true)
    (hy : ∀ wS, S wS → ∀ (K : Act → World → Prop), Way (K (a.put oi.dst v) wS) → oi.wp P a wS K NoExit) (hS : S w)
    (h : wpAnyH P md ops Q S fuel (listed.setIfInBounds i true) (a.put oi.dst v) w) : wpAnyH P md ops Q S (fuel + 1) listed a w :=
  wpAnyH_firstQ hi (Region.noSelect_spec hs) hQ fuel listed a w (Region.free_spec hi hf) (by simpa using hr)
    (.inl ⟨hwt, fun wS hS' w' hw' => by subst hw'; exact hy w' hS' _ ⟨rfl, rfl⟩⟩) hS h
end
end Go.Proofs.Ytmncpcchdhieoaa
