/- Addresses out of text: the plain side. -/
import Derived.Test.YtodjeidofgbdlaaGreatDoorPl
namespace Go.Proofs.YtodjeidofgbdlaaGreatDoor
open Go.Lib
set_option linter.unusedVariables false
set_option linter.unusedSimpArgs false

/-- What the program reckons out of a text: none where something stands that is no figure, or behind a part of more than 255. -/
def addrF (a p : Nat) : List UInt8 → Option Nat
  | [] => some ((a * 256 + p % 256) % 4294967296)
  | b :: l => if b = 46 then addrF ((a * 256 + p % 256) % 4294967296) 0 l else if (48 ≤ b.toNat ∧ b.toNat ≤ 57) ∧ p ≤ 255 then addrF a (p * 10 + (b.toNat - 48)) l else none
theorem addrF_dot (a p : Nat) (l : List UInt8) : addrF a p (46 :: l) = addrF ((a * 256 + p % 256) % 4294967296) 0 l := by rw [addrF, if_pos rfl]
theorem addrF_digs (a : Nat) (r : List UInt8) : ∀ (ds : List UInt8) (p : Nat), (∀ b ∈ ds, isDig b) → dval p ds ≤ 255 → addrF a p (ds ++ r) = addrF a (dval p ds) r
  | [], p, _, _ => rfl
  | b :: ds, p, hd, hv => by
    have hb := hd b (.head _)
    unfold isDig at hb
    have hm := dval_mono ds (p * 10 + (b.toNat - 48))
    have e : dval p (b :: ds) = dval (p * 10 + (b.toNat - 48)) ds := rfl
    rw [e] at hv ⊢
    rw [List.cons_append, addrF, if_neg (fun h => by subst h; exact absurd hb.1 (by decide)), if_pos ⟨hb, by omega⟩]
    exact addrF_digs a r ds _ (fun x hx => hd x (.tail _ hx)) hv
theorem addrF_dec (a u : Nat) (hu : u ≤ 255) (r : List UInt8) : addrF a 0 (decDigits u ++ r) = addrF a u r := by
  have h := addrF_digs a r (decDigits u) 0 (dec_dig u) (by rw [dval_dec]; exact hu)
  rwa [dval_dec] at h
theorem addrF_addr (x : Nat) (h : x < 4294967296) : addrF 0 0 (addrL x) = some x := by
  unfold addrL
  rw [addrF_dec _ _ (by omega), addrF_dot, addrF_dec _ _ (by omega), addrF_dot, addrF_dec _ _ (by omega), addrF_dot]
  have := addrF_dec (((((0 * 256 + x / 16777216 % 256) % 4294967296) * 256 + x / 65536 % 256 % 256) % 4294967296 * 256 + x / 256 % 256 % 256) % 4294967296) (x % 256) (by omega) []
  rw [List.append_nil] at this
  rw [this, addrF]
  congr 1
  omega
theorem AddrOf.none {s : ByteArray} (h : addrF 0 0 s.data.toList = none) : AddrOf s (0, 2) := .inr ⟨(fun a ha e => by rw [e, addrF_addr a ha] at h; cases h), rfl⟩
theorem AddrOf.long {s : ByteArray} (h : 15 < s.size) : AddrOf s (0, 2) := .inr ⟨(fun a ha e => by
  have := addrL_len ha
  rw [← e, Array.length_toList] at this
  have hs : s.data.size = s.size := rfl
  omega), rfl⟩
theorem AddrOf.some {s : ByteArray} {a : Nat} (h : addrF 0 0 s.data.toList = some a) (ha : a < 4294967296) : (s.data.toList = addrL a → AddrOf s ((a : Int), 0)) ∧ (s.data.toList ≠ addrL a → AddrOf s (0, 2)) :=
  ⟨fun e => .inl ⟨a, ha, e, rfl⟩, fun e => .inr ⟨(fun x hx hs => by
    rw [hs, addrF_addr x hx] at h
    cases h
    exact e hs), rfl⟩⟩
theorem addrF_lt : ∀ (l : List UInt8) (a p x : Nat), addrF a p l = some x → x < 4294967296
  | [], a, p, x, h => by
    simp only [addrF, Option.some.injEq] at h
    omega
  | b :: l, a, p, x, h => by
    unfold addrF at h
    split at h
    · exact addrF_lt l _ _ _ h
    · split at h
      · exact addrF_lt l _ _ _ h
      · cases h
/-- What the reference reckons out of a text. -/
def raddrF (n p : Nat) : List UInt8 → Option Nat
  | [] => if 4294967295 < n * 256 + p then none else some (n * 256 + p)
  | b :: l => if b = 46 then (if 4294967295 < n * 256 + p then none else raddrF (n * 256 + p) 0 l) else if 48 ≤ b.toNat ∧ b.toNat ≤ 57 then (if 255 < p * 10 + (b.toNat - 48) then none else raddrF n (p * 10 + (b.toNat - 48)) l) else none
theorem raddrF_dot {n p : Nat} (l : List UInt8) (h : n * 256 + p ≤ 4294967295) : raddrF n p (46 :: l) = raddrF (n * 256 + p) 0 l := by rw [raddrF, if_pos rfl, if_neg (by omega)]
theorem raddrF_digs (n : Nat) (r : List UInt8) : ∀ (ds : List UInt8) (p : Nat), (∀ b ∈ ds, isDig b) → dval p ds ≤ 255 → raddrF n p (ds ++ r) = raddrF n (dval p ds) r
  | [], p, _, _ => rfl
  | b :: ds, p, hd, hv => by
    have hb := hd b (.head _)
    unfold isDig at hb
    have hm := dval_mono ds (p * 10 + (b.toNat - 48))
    have e : dval p (b :: ds) = dval (p * 10 + (b.toNat - 48)) ds := rfl
    rw [e] at hv ⊢
    rw [List.cons_append, raddrF, if_neg (fun h => by subst h; exact absurd hb.1 (by decide)), if_pos hb, if_neg (by omega)]
    exact raddrF_digs n r ds _ (fun x hx => hd x (.tail _ hx)) hv
theorem raddrF_dec (n u : Nat) (hu : u ≤ 255) (r : List UInt8) : raddrF n 0 (decDigits u ++ r) = raddrF n u r := by
  have h := raddrF_digs n r (decDigits u) 0 (dec_dig u) (by rw [dval_dec]; exact hu)
  rwa [dval_dec] at h
theorem raddrF_addr (x : Nat) (h : x < 4294967296) : raddrF 0 0 (addrL x) = some x := by
  unfold addrL
  rw [raddrF_dec _ _ (by omega), raddrF_dot _ (by omega), raddrF_dec _ _ (by omega), raddrF_dot _ (by omega), raddrF_dec _ _ (by omega), raddrF_dot _ (by omega)]
  have := raddrF_dec ((((0 * 256 + x / 16777216) * 256 + x / 65536 % 256) * 256 + x / 256 % 256)) (x % 256) (by omega) []
  rw [List.append_nil] at this
  rw [this, raddrF, if_neg (by omega)]
  congr 1
  omega
theorem AddrOf.rnone {s : ByteArray} (h : raddrF 0 0 s.data.toList = Option.none) : AddrOf s (0, 2) := .inr ⟨(fun a ha e => by rw [e, raddrF_addr a ha] at h; cases h), rfl⟩
theorem AddrOf.rsome {s : ByteArray} {a : Nat} (h : raddrF 0 0 s.data.toList = Option.some a) (ha : a < 4294967296) : (s.data.toList = addrL a → AddrOf s ((a : Int), 0)) ∧ (s.data.toList ≠ addrL a → AddrOf s (0, 2)) :=
  ⟨fun e => .inl ⟨a, ha, e, rfl⟩, fun e => .inr ⟨(fun x hx hs => by
    rw [hs, raddrF_addr x hx] at h
    cases h
    exact e hs), rfl⟩⟩
end Go.Proofs.YtodjeidofgbdlaaGreatDoor
