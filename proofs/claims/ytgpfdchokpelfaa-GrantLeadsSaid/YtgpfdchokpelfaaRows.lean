/-
  No cell of these rows narrows 'for every input' (looked for: loops, veiled, ifaces, maps, wideKeys, modest, calm, conditions, laid).
  DERIVED. THE GIVEN ROWS OF THIS SEAT. 6 by the template 'for every input the law returns true; each argument reads behind the call as it read before'; 0 by the template 'total and deterministic' (their statements: YtgpfdchokpelfaaTotals.lean).
  GIVEN WITH THE SEED: the statements are not yours to turn. If you find one false, say at which input.
  Laid BY PROGRAM, IN A SANDBOX (cutbox-rows.mjs): the forced cells as the released guide's own fill.sh prints them over the translation 623aef1338829cf7… (all of the seat's roots in one cut). By AI agents, Wed Nov 11 2026. No macro, syntax, notation, axiom, sorry.
-/
import Derived.Test.YtgpfdchokpelfaaChecked
import GoSem.Claim
import GoSem.ClaimJoined
import GoSem.ClaimMapViews
import Derived.JoinedTies
import Derived.KernelRfl
namespace Go.Proofs.Ytgpfdchokpelfaa
/- THE CELL 'sum', in the pinned program and in every row, IS THE sha256 OF THE DUMP (.gsa) THAT YtgpfdchokpelfaaProg.lean LOADS. Nothing in Lean hashes anything: it is a label: what it is worth is what the hold of that sum in a sandbox is worth. -/
noncomputable def Try.pinned : Pinned := { name := "ytgpfdchokpelfaa", sum := "623aef1338829cf7c2d955704df7e7d3452a6dfe598729c411b7b12702eb8406", checked := Try.checked }
namespace Rows
def none {H : Type} : Left H := { results := [], args := [] }

/-- 'lessorlaw15.GrantUntils': WHATEVER THE INPUT: true; the input reads as it did. -/
def grantUntilsSpec : ChangeSpec := { name := "grantUntils", fn := fun _ => fun
  | [d1, d2] => { results := [.lit (.bool true)], args := [d1, d2] }
  | _ => none }
def grantUntilsRow : OpenClaim := { program := "ytgpfdchokpelfaa", sum := "623aef1338829cf7c2d955704df7e7d3452a6dfe598729c411b7b12702eb8406", func := "lessor/lessorlaw15.GrantUntils", spec := "grantUntils", apart := false }
def GrantUntilsSaid : Prop := grantUntilsRow.holds Try.pinned (OpenSpec.ofChange grantUntilsSpec)

/-- ITS FALSE NEIGHBOUR: 'it returns false'. Refute it at one input. -/
def grantUntilsWrong : ChangeSpec := { name := "grantUntils", fn := fun _ => fun
  | [d1, d2] => { results := [.lit (.bool false)], args := [d1, d2] }
  | _ => none }
def GrantUntilsWrongFalsely : Prop := grantUntilsRow.holds Try.pinned (OpenSpec.ofChange grantUntilsWrong)

/-- 'lessorlaw15.GrantMays': WHATEVER THE INPUT: true; the input reads as it did. -/
def grantMaysSpec : ChangeSpec := { name := "grantMays", fn := fun _ => fun
  | [d1, d2, d3] => { results := [.lit (.bool true)], args := [d1, d2, d3] }
  | _ => none }
def grantMaysRow : OpenClaim := { program := "ytgpfdchokpelfaa", sum := "623aef1338829cf7c2d955704df7e7d3452a6dfe598729c411b7b12702eb8406", func := "lessor/lessorlaw15.GrantMays", spec := "grantMays", apart := false }
def GrantMaysSaid : Prop := grantMaysRow.holds Try.pinned (OpenSpec.ofChange grantMaysSpec)

/-- ITS FALSE NEIGHBOUR: 'it returns false'. Refute it at one input. -/
def grantMaysWrong : ChangeSpec := { name := "grantMays", fn := fun _ => fun
  | [d1, d2, d3] => { results := [.lit (.bool false)], args := [d1, d2, d3] }
  | _ => none }
def GrantMaysWrongFalsely : Prop := grantMaysRow.holds Try.pinned (OpenSpec.ofChange grantMaysWrong)

/-- 'lessorlaw15.GrantOwn': WHATEVER THE INPUT: true; the input reads as it did. -/
def grantOwnSpec : ChangeSpec := { name := "grantOwn", fn := fun _ => fun
  | [d1, d2, d3] => { results := [.lit (.bool true)], args := [d1, d2, d3] }
  | _ => none }
def grantOwnRow : OpenClaim := { program := "ytgpfdchokpelfaa", sum := "623aef1338829cf7c2d955704df7e7d3452a6dfe598729c411b7b12702eb8406", func := "lessor/lessorlaw15.GrantOwn", spec := "grantOwn", apart := false }
def GrantOwnSaid : Prop := grantOwnRow.holds Try.pinned (OpenSpec.ofChange grantOwnSpec)

/-- ITS FALSE NEIGHBOUR: 'it returns false'. Refute it at one input. -/
def grantOwnWrong : ChangeSpec := { name := "grantOwn", fn := fun _ => fun
  | [d1, d2, d3] => { results := [.lit (.bool false)], args := [d1, d2, d3] }
  | _ => none }
def GrantOwnWrongFalsely : Prop := grantOwnRow.holds Try.pinned (OpenSpec.ofChange grantOwnWrong)

/-- 'lessorlaw15.GrantWants': WHATEVER THE INPUT: true; the input reads as it did. -/
def grantWantsSpec : ChangeSpec := { name := "grantWants", fn := fun _ => fun
  | [d1, d2, d3] => { results := [.lit (.bool true)], args := [d1, d2, d3] }
  | _ => none }
def grantWantsRow : OpenClaim := { program := "ytgpfdchokpelfaa", sum := "623aef1338829cf7c2d955704df7e7d3452a6dfe598729c411b7b12702eb8406", func := "lessor/lessorlaw15.GrantWants", spec := "grantWants", apart := false }
def GrantWantsSaid : Prop := grantWantsRow.holds Try.pinned (OpenSpec.ofChange grantWantsSpec)

/-- ITS FALSE NEIGHBOUR: 'it returns false'. Refute it at one input. -/
def grantWantsWrong : ChangeSpec := { name := "grantWants", fn := fun _ => fun
  | [d1, d2, d3] => { results := [.lit (.bool false)], args := [d1, d2, d3] }
  | _ => none }
def GrantWantsWrongFalsely : Prop := grantWantsRow.holds Try.pinned (OpenSpec.ofChange grantWantsWrong)

/-- 'lessorlaw15.GrantLeases': WHATEVER THE INPUT: true; the input reads as it did. -/
def grantLeasesSpec : ChangeSpec := { name := "grantLeases", fn := fun _ => fun
  | [d1, d2, d3] => { results := [.lit (.bool true)], args := [d1, d2, d3] }
  | _ => none }
def grantLeasesRow : OpenClaim := { program := "ytgpfdchokpelfaa", sum := "623aef1338829cf7c2d955704df7e7d3452a6dfe598729c411b7b12702eb8406", func := "lessor/lessorlaw15.GrantLeases", spec := "grantLeases", apart := false }
def GrantLeasesSaid : Prop := grantLeasesRow.holds Try.pinned (OpenSpec.ofChange grantLeasesSpec)

/-- ITS FALSE NEIGHBOUR: 'it returns false'. Refute it at one input. -/
def grantLeasesWrong : ChangeSpec := { name := "grantLeases", fn := fun _ => fun
  | [d1, d2, d3] => { results := [.lit (.bool false)], args := [d1, d2, d3] }
  | _ => none }
def GrantLeasesWrongFalsely : Prop := grantLeasesRow.holds Try.pinned (OpenSpec.ofChange grantLeasesWrong)

/-- 'lessorlaw15.GrantLeads': WHATEVER THE INPUT: true; the input reads as it did. -/
def grantLeadsSpec : ChangeSpec := { name := "grantLeads", fn := fun _ => fun
  | [d1, d2, d3] => { results := [.lit (.bool true)], args := [d1, d2, d3] }
  | _ => none }
def grantLeadsRow : OpenClaim := { program := "ytgpfdchokpelfaa", sum := "623aef1338829cf7c2d955704df7e7d3452a6dfe598729c411b7b12702eb8406", func := "lessor/lessorlaw15.GrantLeads", spec := "grantLeads", apart := false }
def GrantLeadsSaid : Prop := grantLeadsRow.holds Try.pinned (OpenSpec.ofChange grantLeadsSpec)

/-- ITS FALSE NEIGHBOUR: 'it returns false'. Refute it at one input. -/
def grantLeadsWrong : ChangeSpec := { name := "grantLeads", fn := fun _ => fun
  | [d1, d2, d3] => { results := [.lit (.bool false)], args := [d1, d2, d3] }
  | _ => none }
def GrantLeadsWrongFalsely : Prop := grantLeadsRow.holds Try.pinned (OpenSpec.ofChange grantLeadsWrong)

/- THE SECOND FORM. 'bulk': how many values and letters a reading holds, each counted each time it is reached (what is shared counts as often as it is met; a slice's spare places count too). A statement '..UptoSaid' is the law's where the arguments, and the package variables that the reading takes, are together of bulk at most 1048576: NARROWER than '..Said'. Prove '..Said' where nothing that the law and all that it calls make is longer than what came in: it says more and counts as full. Else prove '..UptoSaid'. A law counts once. -/
mutual
def uptoBulk {H : Type} : DataW H → Nat
  | .lit (.string bytes) => bytes.length + 1
  | .lit _ => 1
  | .nil => 1
  | .ptr d => uptoBulk d + 1
  | .slice elems spare => uptoBulkAll elems + uptoBulkAll spare + 1
  | .agg parts => uptoBulkAll parts + 1
  | .iface _ d => uptoBulk d + 1
  | .map entries => uptoBulkEntries entries + 1
  | .held _ => 1
def uptoBulkAll {H : Type} : List (DataW H) → Nat
  | [] => 0
  | d :: r => uptoBulk d + uptoBulkAll r
def uptoBulkEntries {H : Type} : List (Lit × DataW H) → Nat
  | [] => 0
  | x :: r => uptoBulkEntry x + uptoBulkEntries r
def uptoBulkEntry {H : Type} : Lit × DataW H → Nat
  | (.string bytes, d) => bytes.length + uptoBulk d + 1
  | (_, d) => uptoBulk d + 1
 end
def uptoSmall : (H : Type) → List (DataW H) → Bool := fun _ ds => decide (uptoBulkAll ds ≤ 1048576)
def OpenSpec.upto (s : _root_.Go.ChangeSpec) : _root_.Go.OpenSpec := { _root_.Go.OpenSpec.ofChange s with cond := some uptoSmall }

/-- 'lessorlaw15.GrantUntils', WHERE WHAT IT READS IS OF BULK AT MOST 1048576: true; the input reads as it did. -/
def grantUntilsUptoRow : OpenClaim := { program := "ytgpfdchokpelfaa", sum := "623aef1338829cf7c2d955704df7e7d3452a6dfe598729c411b7b12702eb8406", func := "lessor/lessorlaw15.GrantUntils", spec := "grantUntils", apart := false, narrowed := true }
def GrantUntilsUptoSaid : Prop := grantUntilsUptoRow.holds Try.pinned (OpenSpec.upto grantUntilsSpec)

/-- 'lessorlaw15.GrantMays', WHERE WHAT IT READS IS OF BULK AT MOST 1048576: true; the input reads as it did. -/
def grantMaysUptoRow : OpenClaim := { program := "ytgpfdchokpelfaa", sum := "623aef1338829cf7c2d955704df7e7d3452a6dfe598729c411b7b12702eb8406", func := "lessor/lessorlaw15.GrantMays", spec := "grantMays", apart := false, narrowed := true }
def GrantMaysUptoSaid : Prop := grantMaysUptoRow.holds Try.pinned (OpenSpec.upto grantMaysSpec)

/-- 'lessorlaw15.GrantOwn', WHERE WHAT IT READS IS OF BULK AT MOST 1048576: true; the input reads as it did. -/
def grantOwnUptoRow : OpenClaim := { program := "ytgpfdchokpelfaa", sum := "623aef1338829cf7c2d955704df7e7d3452a6dfe598729c411b7b12702eb8406", func := "lessor/lessorlaw15.GrantOwn", spec := "grantOwn", apart := false, narrowed := true }
def GrantOwnUptoSaid : Prop := grantOwnUptoRow.holds Try.pinned (OpenSpec.upto grantOwnSpec)

/-- 'lessorlaw15.GrantWants', WHERE WHAT IT READS IS OF BULK AT MOST 1048576: true; the input reads as it did. -/
def grantWantsUptoRow : OpenClaim := { program := "ytgpfdchokpelfaa", sum := "623aef1338829cf7c2d955704df7e7d3452a6dfe598729c411b7b12702eb8406", func := "lessor/lessorlaw15.GrantWants", spec := "grantWants", apart := false, narrowed := true }
def GrantWantsUptoSaid : Prop := grantWantsUptoRow.holds Try.pinned (OpenSpec.upto grantWantsSpec)

/-- 'lessorlaw15.GrantLeases', WHERE WHAT IT READS IS OF BULK AT MOST 1048576: true; the input reads as it did. -/
def grantLeasesUptoRow : OpenClaim := { program := "ytgpfdchokpelfaa", sum := "623aef1338829cf7c2d955704df7e7d3452a6dfe598729c411b7b12702eb8406", func := "lessor/lessorlaw15.GrantLeases", spec := "grantLeases", apart := false, narrowed := true }
def GrantLeasesUptoSaid : Prop := grantLeasesUptoRow.holds Try.pinned (OpenSpec.upto grantLeasesSpec)

/-- 'lessorlaw15.GrantLeads', WHERE WHAT IT READS IS OF BULK AT MOST 1048576: true; the input reads as it did. -/
def grantLeadsUptoRow : OpenClaim := { program := "ytgpfdchokpelfaa", sum := "623aef1338829cf7c2d955704df7e7d3452a6dfe598729c411b7b12702eb8406", func := "lessor/lessorlaw15.GrantLeads", spec := "grantLeads", apart := false, narrowed := true }
def GrantLeadsUptoSaid : Prop := grantLeadsUptoRow.holds Try.pinned (OpenSpec.upto grantLeadsSpec)

end Rows
end Go.Proofs.Ytgpfdchokpelfaa
